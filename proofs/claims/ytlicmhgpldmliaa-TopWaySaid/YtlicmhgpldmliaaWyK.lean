/- Voyages: whether legs are a way. No condition. -/
import Derived.Test.YtlicmhgpldmliaaWyI
namespace Go.Proofs.Ytlicmhgpldmliaa.kit
open Go.RowKit
set_option linter.unusedVariables false
set_option linter.unusedSimpArgs false
set_option maxRecDepth 100000 in
set_option maxHeartbeats 3200000 in
theorem isleg_any (A : Option Addr) (n c : Nat) (us : List Vy) (fr : ByteArray) (ch : Int) (l : Lg) (v : Vy) (a b : Cl) (w : World) (hx : Sea w A n us) (hl : legA us l = some (v, a, b)) :
    Calls Try.prog 40 #[.agg #[.slice A n c, .string fr, .int .i64 ch], .agg #[.int .i64 l.v, .int .i64 l.f, .int .i64 l.t]] w fun e w' => e = .returned (.bool true) ∧ Below w.heap.size w w' := by
  have HB0 := Lib.hid ((one_alloc w (.cells #[.slice A n c, .string fr, .int .i64 ch] 94)).trans ((one_alloc _ (.cells #[.int .i64 l.v, .int .i64 l.f, .int .i64 l.t] 60)).mono (by rw [sz_alloc]; omega)))
  have HS0 := Lib.hid ((Blk.new w 94 #[.slice A n c, .string fr, .int .i64 ch]).alloc (.cells #[.int .i64 l.v, .int .i64 l.f, .int .i64 l.t] 60))
  have HL0 := Lib.hid (blk_second w (.cells #[.slice A n c, .string fr, .int .i64 ch] 94) 60 #[.int .i64 l.v, .int .i64 l.f, .int .i64 l.t])
  have HX := Lib.hid hx
  have HLG := Lib.hid hl
  clear hx hl
  go_enter Try.func40, Try.ntmps40
  go_upto_region 1 with (fail)
  obtain ⟨w0, hw0⟩ : ∃ W, (w.alloc (.cells #[.slice A n c, .string fr, .int .i64 ch] 94)).alloc (.cells #[.int .i64 l.v, .int .i64 l.f, .int .i64 l.t] 60) = W := ⟨_, rfl⟩
  obtain ⟨g, hg⟩ : ∃ g, w.heap.size = g := ⟨_, rfl⟩
  rw [hw0] at HB0 HS0 HL0 ⊢
  rw [hg] at HS0 HL0
  simp only [hg]
  have HG := Lib.hid hg
  clear hw0 hg
  obtain ⟨p1, p2, p3, p4, bv, ov, bc, oc, rfl, e2, c1, c2, c3, c4⟩ := sea_leg (HX.out.below HB0.out) HLG.out
  have s0 := HS0.out.cell 0
  have l0 := HL0.out.cell 0; have l1 := HL0.out.cell 1; have l2 := HL0.out.cell 2
  simp only [List.getElem?_toArray, List.getElem?_cons_zero, List.getElem?_cons_succ] at s0 l0 l1 l2
  rw [e2] at c2
  have i0 : (l.v : Int) < (n : Int) := by omega
  have j0 : decide ((0 : Int) ≤ (l.v : Int)) = true := decide_eq_true (by omega)
  have j1 : decide ((l.v : Int) < (n : Int)) = true := decide_eq_true (by omega)
  have j2 : decide ((0 : Int) ≤ (l.f : Int)) = true := decide_eq_true (by omega)
  have j3 : decide ((l.f : Int) < (l.t : Int)) = true := decide_eq_true (by omega)
  have j4 : decide ((l.t : Int) < (v.n : Int)) = true := decide_eq_true (by omega)
  clear c3 c4 c1
  go_quiet (fail)
  go_wp2_with fail
  go_ret
  exact ⟨rfl, below_drewN HB0.out _⟩
theorem lg_at {w : World} {A : Option Addr} {n : Nat} {xs : List Lg} (h : SliceOf w 3 lgC A n xs) {k : Nat} (hk : k < n) : ∃ b off x, A = some ⟨b, off, none⟩ ∧ xs[k]? = some x ∧ ∀ j v, (lgC x)[j]? = some v → w.cell? ⟨b, off + k * 3 + j, none⟩ = some v := by
  have hl := h.len
  obtain ⟨x, hxk⟩ : ∃ x, xs[k]? = some x := ⟨_, List.getElem?_eq_getElem (by omega)⟩
  obtain ⟨b, off, rfl, hb, hc⟩ := h.at_ (by omega)
  exact ⟨b, off, x, rfl, hxk, fun j v hv => by have := hc k _ hxk j v hv; rwa [← Nat.add_assoc] at this⟩
/-- Where one is, leg by leg. -/
def Steps (vs : List Vy) (fr : ByteArray) (ch : Int) (ls : List Lg) (ps : Nat → ByteArray) (ds : Nat → Int) : Prop :=
  ∀ k l, ls[k]? = some l → ∃ v a b, legA vs l = some (v, a, b) ∧ VyOK v ∧ a.port = ps k ∧ (if ps k = fr then ds k else ds k + ch) ≤ a.cut ∧ b.port ≠ fr ∧ ps (k + 1) = b.port ∧ ds (k + 1) = b.arr
theorem WayP.steps {vs : List Vy} {fr : ByteArray} {ready ch : Int} {ls : List Lg} {p : ByteArray} {d : Int} (h : WayP vs fr ready ch ls p d) : ∃ ps ds, ps 0 = fr ∧ ds 0 = ready ∧ ps ls.length = p ∧ ds ls.length = d ∧ Steps vs fr ch ls ps ds := by
  induction h with
  | here => exact ⟨fun _ => fr, fun _ => ready, rfl, rfl, rfl, rfl, fun k l hk => by simp at hk⟩
  | @on ls q d l v a b hw hl hv ha hc hb ih =>
    obtain ⟨ps, ds, h0, h1, h2, h3, hs⟩ := ih
    refine ⟨fun k => if k ≤ ls.length then ps k else b.port, fun k => if k ≤ ls.length then ds k else b.arr, by simp [h0], by simp [h1], ?_, ?_, ?_⟩
    · rw [List.length_append]; exact if_neg (by simp)
    · rw [List.length_append]; exact if_neg (by simp)
    · intro k x hk
      by_cases e : k < ls.length
      · rw [List.getElem?_append_left e] at hk
        obtain ⟨v', a', b', g1, g2, g3, g4, g5, g6, g7⟩ := hs k x hk
        refine ⟨v', a', b', g1, g2, ?_, ?_, g5, ?_, ?_⟩
        · show a'.port = if k ≤ ls.length then ps k else b.port
          rw [if_pos (by omega)]; exact g3
        · show (if (if k ≤ ls.length then ps k else b.port) = fr then (if k ≤ ls.length then ds k else b.arr) else (if k ≤ ls.length then ds k else b.arr) + ch) ≤ a'.cut
          rw [if_pos (show k ≤ ls.length by omega), if_pos (show k ≤ ls.length by omega)]; exact g4
        · show (if k + 1 ≤ ls.length then ps (k + 1) else b.port) = b'.port
          rw [if_pos (by omega)]; exact g6
        · show (if k + 1 ≤ ls.length then ds (k + 1) else b.arr) = b'.arr
          rw [if_pos (by omega)]; exact g7
      · have hkl : k = ls.length := by
          have := (List.getElem?_eq_some_iff.1 hk).1
          simp at this
          omega
        subst hkl
        rw [List.getElem?_append_right (Nat.le_refl _)] at hk
        simp at hk
        subst hk
        refine ⟨v, a, b, hl, hv, ?_, ?_, hb, ?_, ?_⟩
        · show a.port = if ls.length ≤ ls.length then ps ls.length else b.port
          rw [if_pos (Nat.le_refl _), h2]; exact ha
        · show (if (if ls.length ≤ ls.length then ps ls.length else b.port) = fr then (if ls.length ≤ ls.length then ds ls.length else b.arr) else (if ls.length ≤ ls.length then ds ls.length else b.arr) + ch) ≤ a.cut
          rw [if_pos (Nat.le_refl _), if_pos (Nat.le_refl _), h2, h3]; exact hc
        · exact if_neg (by omega)
        · exact if_neg (by omega)
set_option maxRecDepth 100000 in
set_option maxHeartbeats 12800000 in
theorem right_any (A : Option Addr) (n c : Nat) (vs : List Vy) (fr to : ByteArray) (ready ch : Int) (A2 : Option Addr) (n2 c2 : Nat) (ls : List Lg) (day : Int) (w : World) (hx : SliceOf w 2 vyC A n vs) (hl : Lie w vs) (hn : n ≤ 6) (hs : ∀ v ∈ vs, Sm v) (hrd : 0 ≤ ready ∧ ready ≤ 255) (hch : 0 ≤ ch ∧ ch ≤ 255) (hne : (fr.toList == to.toList) = false) (hft : fr ≠ to) (hls : SliceOf w 3 lgC A2 n2 ls) (h8 : n2 ≤ 8) (hw : WayP vs fr ready ch ls to day) :
    Calls Try.prog 17 #[.slice A n c, .slice A2 n2 c2, .string fr, .string to, .int .i64 ready, .int .i64 ch] w fun e w' => e = .returned (.bool true) ∧ Below w.heap.size w w' := by
  obtain ⟨ps, ds, q0, q1, q2, q3, hst⟩ := hw.steps
  have hlen := hls.len
  have hn1 : ¬ n2 < 1 := fun h => by
    have h0 : ls.length = 0 := by omega
    rw [h0, q0] at q2
    exact hft q2
  have HST := Lib.hid hst
  have HQ2 := Lib.hid q2
  have HQ0 := Lib.hid q0
  have HQ1 := Lib.hid q1
  have HLS := Lib.hid hls
  have HSA := Lib.hid (start_any A n c vs fr ch w hx hl hn hs hch)
  clear hx hl hs hw hst q0 q1 q2 q3 hls hft
  go_enter Try.func17, Try.ntmps17
  go_wp2_with fail
  refine HSA.out.mono ?_
  rintro e w1 ⟨A1, c1, us, rfl, hcap, hsift, hsl, hlie, hb1⟩
  have HSI := Lib.hid hsift
  have HSE := Lib.hid (show Sea w1 A1 n us from ⟨hsl, hlie⟩)
  have HB1 := Lib.hid hb1
  have HLS1 := Lib.hid (HLS.out.below hb1)
  clear hsift hsl hlie hb1 HSA HLS
  go_upto_region 4 with ((refine stop_store 94 _ _ rfl ?_; refine wpList_store_new rfl 94 _ _ rfl _ rfl rfl (by kernel_rfl) rfl rfl ?_))
  obtain ⟨w2, hw2⟩ : ∃ W, w1.alloc (.cells #[.slice A1 n c1, .string fr, .int .i64 ch] 94) = W := ⟨_, rfl⟩
  obtain ⟨gs, hgs⟩ : ∃ g, w1.heap.size = g := ⟨_, rfl⟩
  have HB2 : Hid (Below w.heap.size w w2) := Lib.hid (by rw [← hw2]; exact HB1.out.alloc HB1.out.size _)
  have HK2 : Hid (Blk w2 gs 94 #[.slice A1 n c1, .string fr, .int .i64 ch]) := Lib.hid (by rw [← hw2]; exact Blk.new_at _ _ _ _ hgs.symm)
  have HS2 : Hid (Sea w2 A1 n us) := Lib.hid (by rw [← hw2]; exact HSE.out.below (one_alloc _ _))
  have HLS2 : Hid (SliceOf w2 3 lgC A2 n2 ls) := Lib.hid (by rw [← hw2]; exact HLS1.out.below (one_alloc _ _))
  rw [hw2]
  simp only [hgs]
  clear hw2 hgs HSE HB1 HLS1
  go_wp2_with fail
  go_loopw [14, 4, 39] (fun a r i wr => ∃ k : Nat, k ≤ n2 ∧ i = .int .i64 k ∧ a = .string (ps k) ∧ r = .int .i64 (if ps k = fr then ds k else ds k + ch) ∧ Hid (Below w2.heap.size w2 wr)) (fun _ _ i _ => n2 - (intOf i).toNat)
  case atStart => exact ⟨0, by omega, rfl, by rw [HQ0.out], by rw [if_pos HQ0.out, HQ1.out], Lib.hid (Below.refl _ _)⟩
  case round =>
    obtain ⟨k, hk, rfl, rfl, rfl, HBR⟩ := hrel
    obtain ⟨q, hq⟩ : ∃ q, ps k = q := ⟨_, rfl⟩
    obtain ⟨rd, hrd'⟩ : ∃ r, (if ps k = fr then ds k else ds k + ch) = r := ⟨_, rfl⟩
    rw [hrd', hq]
    have HQQ := Lib.hid hq
    have HRD := Lib.hid hrd'
    clear hq hrd'
    by_cases hlt : k < n2
    · obtain ⟨bl, ol, l, rfl, hlk, hlc⟩ := lg_at (HLS2.out.below HBR.out) hlt
      obtain ⟨v, a, b, g1, g2, g3, g4, g5, g6, g7⟩ := HST.out k l hlk
      rw [HQQ.out] at g3
      subst g3
      rw [HRD.out] at g4
      have hbo := (g2.2.1 _ _ (legA_some.1 g1).2.2.1).2.2.1
      have HLA := Lib.hid (sift_back HSI.out g1 g2)
      have HG5 := Lib.hid g5
      have HG6 := Lib.hid g6
      have HG7 := Lib.hid g7
      have hnc : ¬ a.cut < rd := by omega
      have hwa : IntKind.i64.wrap (b.arr + ch) = b.arr + ch := IntWalk.i64_in _ (by have := hbo.1; have := hbo.2; omega)
      have hkn : (k : Int) < (n2 : Int) := by omega
      have l0 := hlc 0 _ rfl; have l1 := hlc 1 _ rfl; have l2 := hlc 2 _ rfl
      rw [Nat.add_zero] at l0
      have HB8 := Lib.hid (HBR.out.alloc HBR.out.size (.cells #[.int .i64 l.v, .int .i64 l.f, .int .i64 l.t] 60))
      have HL8 := Lib.hid (Blk.new wr 60 #[.int .i64 l.v, .int .i64 l.f, .int .i64 l.t])
      have HWA := Lib.hid hwa
      have HNC := Lib.hid hnc
      clear g1 g2 g4 g5 g6 g7 hbo hlc hlk HBR hwa hnc
      go_upto_region 8 with ((refine stop_store 60 _ _ rfl ?_; refine wpList_store_new rfl 60 _ _ rfl _ rfl rfl (by kernel_rfl) rfl rfl ?_))
      obtain ⟨w7, hw7⟩ : ∃ W, wr.alloc (.cells #[.int .i64 l.v, .int .i64 l.f, .int .i64 l.t] 60) = W := ⟨_, rfl⟩
      obtain ⟨gl, hgl⟩ : ∃ g, wr.heap.size = g := ⟨_, rfl⟩
      rw [hw7] at HB8 HL8 ⊢
      rw [hgl] at HL8
      simp only [hgl]
      clear hw7 hgl l0 l1 l2
      have HK8 := Lib.hid (HK2.out.below HB8.out HK2.out.lt)
      have s0 := HK8.out.cell 0; have s1 := HK8.out.cell 1; have s2 := HK8.out.cell 2
      have m0 := HL8.out.cell 0; have m1 := HL8.out.cell 1; have m2 := HL8.out.cell 2
      simp only [List.getElem?_toArray, List.getElem?_cons_zero, List.getElem?_cons_succ] at s0 s1 s2 m0 m1 m2
      have HIL := Lib.hid (isleg_any A1 n c1 us fr ch l v a b w7 (HS2.out.below HB8.out) HLA.out)
      go_wp2_with fail
      refine HIL.out.mono ?_
      rintro e w8 ⟨rfl, hb8⟩
      have HB9 := Lib.hid (HB8.out.trans (hb8.mono HB8.out.size))
      have HL9 := Lib.hid (HL8.out.below hb8 HL8.out.lt)
      clear s0 s1 s2 m0 m1 m2 hb8 HIL HB8 HL8 HK8
      have HL8 := HL9
      have HGS8 := Lib.hid (HK2.out.below HB9.out HK2.out.lt)
      clear HL9
      go_upto_region 10 with (fail)
      try simp only [Act.put, List.setIfInBounds_toArray, List.set_cons_zero, List.set_cons_succ]
      obtain ⟨p1, p2, p3, p4, bv, ov, bc, oc, hA1, hvA, cv0, cv1, ca, cb⟩ := sea_leg (HS2.out.below HB9.out) HLA.out
      subst hA1
      rw [hvA] at cv1
      have HP1 := Lib.hid p1
      have HP2 := Lib.hid p2
      have HCV := Lib.hid cv1
      have HCA := Lib.hid ca
      have NGS : ¬ w8.heap.size ≤ gs := by have := HGS8.out.lt; omega
      have NGL : ¬ w8.heap.size ≤ gl := by have := HL8.out.lt; omega
      have NBV : ¬ w8.heap.size ≤ bv := by have : bv < w8.heap.size := World.block_lt_of_cell? w8 ⟨bv, ov + l.v * 2 + 1, none⟩ cv1; omega
      have NBC : ¬ w8.heap.size ≤ bc := by have : bc < w8.heap.size := World.block_lt_of_cell? w8 ⟨bc, oc + l.f * 4 + 0, none⟩ (ca 0 _ rfl); omega
      clear p1 p2 p3 p4 hvA cv0 cv1 ca cb
      refine wp_region_softX [Is (.pointer (some ⟨gs, 0, none⟩)), Is (.slice (some ⟨bv, ov, none⟩) n c1), Is (.pointer (some ⟨gl, 0, none⟩)), Is (.int .i64 (l.v : Int)), Is (.pointer (some ⟨bv, ov + l.v * 2, none⟩)), Is (.pointer (some ⟨bv, ov + l.v * 2 + 1, none⟩)), Is (.slice (some ⟨bc, oc, none⟩) v.n v.c), Is (.pointer (some ⟨gl, 1, none⟩)), Is (.int .i64 (l.f : Int)), Is (.pointer (some ⟨bc, oc + l.f * 4, none⟩)), Is (.agg #[.string a.port, .int .i64 a.cut, .int .i64 a.arr, .int .i64 a.dep]), AnyV, AnyV] ⟨stab_is _, stab_is _, stab_is _, stab_is _, stab_is _, stab_is _, stab_is _, stab_is _, stab_is _, stab_is _, stab_is _, stab_anyv, stab_anyv, trivial⟩ (fun k => w8.heap.size ≤ k) ⟨stabf_is _ _, stabf_is _ _, stabf_is _ _, stabf_is _ _, stabf_is _ _, stabf_is _ _, stabf_is _ _, stabf_is _ _, stabf_is _ _, stabf_is _ _, stabf_is _ _, stabf_anyv _, stabf_anyv _, trivial⟩ [false, false, false, false, false, false, false, false, false, false, false, true, true] (fun done vs W => (done 11 = true → ∃ b9, vs 11 = .pointer (some ⟨b9, 0, none⟩) ∧ w8.heap.size ≤ b9 ∧ Blk W b9 50 (if done 12 = true then #[.string a.port, .int .i64 a.cut, .int .i64 a.arr, .int .i64 a.dep] else #[.string ⟨#[]⟩, .int .i64 0, .int .i64 0, .int .i64 0])) ∧ (done 12 = true → done 11 = true)) ?_ ?_ (by kernel_rfl) (by kernel_rfl) ?_ ?_
      · intro q_ hq_ done vs v_ W W' h hnd hb
        have n11 : upDn done q_ 11 = done 11 := up_ne done (fun e => by subst e; exact absurd hq_ (by decide))
        have n12 : upDn done q_ 12 = done 12 := up_ne done (fun e => by subst e; exact absurd hq_ (by decide))
        have m11 : upVs vs q_ v_ 11 = vs 11 := upv_ne vs v_ (fun e => by subst e; exact absurd hq_ (by decide))
        rw [n11, n12, m11]
        exact ⟨fun q => (h.1 q).elim fun b hh => ⟨b, hh.1, hh.2.1, hh.2.2.below hb hh.2.2.lt⟩, h.2⟩
      · exact ⟨fun h => (by cases h), fun h => (by cases h)⟩
      · refine ⟨?_, ?_, ?_, ?_, ?_, ?_, ?_, ?_, ?_, ?_, ?_, ?_, ?_, trivial⟩
        all_goals intro done vs ac W1 hdep hnd hB hR hX hE
        all_goals try simp only [Nat.zero_add, Nat.reduceAdd] at hnd ⊢
        all_goals have ec : ∀ v : Value, ac.eval (.const v) = v := fun _ => rfl
        all_goals try simp [Region.binds] at hdep
        · have e13 : ac.eval (.tmp 13) = .pointer (some ⟨gs, 0, none⟩) := (hE 13 (by simp)).trans (by simp [evF, Act.eval])
          exact soft_value (.pointer (some ⟨gs, 0, none⟩)) (by unfold execOp; simp only [e13]; kernel_rfl) rfl
        · have d0 : vs 0 = .pointer (some ⟨gs, 0, none⟩) := hR 0 (by simp [hdep])
          have e47 : ac.eval (.tmp 47) = .pointer (some ⟨gs, 0, none⟩) := (hE 47 (by simp)).trans (by simp [evF, hdep, d0])
          have hc0 : W1.cell? ⟨gs, 0, none⟩ = some (.slice (some ⟨bv, ov, none⟩) n c1) := (HGS8.out.fr hB NGS).cell 0
          exact soft_value (.slice (some ⟨bv, ov, none⟩) n c1) (by unfold execOp; simp only [e47]; go_simp) rfl
        · have e16 : ac.eval (.tmp 16) = .pointer (some ⟨gl, 0, none⟩) := (hE 16 (by simp)).trans (by simp [evF, Act.eval])
          exact soft_value (.pointer (some ⟨gl, 0, none⟩)) (by unfold execOp; simp only [e16]; kernel_rfl) rfl
        · have d2 : vs 2 = .pointer (some ⟨gl, 0, none⟩) := hR 2 (by simp [hdep])
          have e49 : ac.eval (.tmp 49) = .pointer (some ⟨gl, 0, none⟩) := (hE 49 (by simp)).trans (by simp [evF, hdep, d2])
          have hc0 : W1.cell? ⟨gl, 0, none⟩ = some (.int .i64 (l.v : Int)) := (HL8.out.fr hB NGL).cell 0
          exact soft_value (.int .i64 (l.v : Int)) (by unfold execOp; simp only [e49]; go_simp) rfl
        · have d1 : vs 1 = .slice (some ⟨bv, ov, none⟩) n c1 := hR 1 (by simp [hdep])
          have e48 : ac.eval (.tmp 48) = .slice (some ⟨bv, ov, none⟩) n c1 := (hE 48 (by simp)).trans (by simp [evF, hdep, d1])
          have d3 : vs 3 = .int .i64 (l.v : Int) := hR 3 (by simp [hdep])
          have e50 : ac.eval (.tmp 50) = .int .i64 (l.v : Int) := (hE 50 (by simp)).trans (by simp [evF, hdep, d3])
          exact soft_value (.pointer (some ⟨bv, ov + l.v * 2, none⟩)) (by simp [execOp, e48, e50, ixk 45 _ 2 Try.underlying45 (by kernel_rfl) bv ov l.v n c1 HP1.out, Result.andThen]) rfl
        · have d4 : vs 4 = .pointer (some ⟨bv, ov + l.v * 2, none⟩) := hR 4 (by simp [hdep])
          have e51 : ac.eval (.tmp 51) = .pointer (some ⟨bv, ov + l.v * 2, none⟩) := (hE 51 (by simp)).trans (by simp [evF, hdep, d4])
          exact soft_value (.pointer (some ⟨bv, ov + l.v * 2 + 1, none⟩)) (by unfold execOp; simp only [e51]; kernel_rfl) rfl
        · have d5 : vs 5 = .pointer (some ⟨bv, ov + l.v * 2 + 1, none⟩) := hR 5 (by simp [hdep])
          have e52 : ac.eval (.tmp 52) = .pointer (some ⟨bv, ov + l.v * 2 + 1, none⟩) := (hE 52 (by simp)).trans (by simp [evF, hdep, d5])
          have hcx := cell_fr HCV.out hB NBV
          exact soft_value (.slice (some ⟨bc, oc, none⟩) v.n v.c) (by unfold execOp; simp only [e52]; go_simp) rfl
        · have e16 : ac.eval (.tmp 16) = .pointer (some ⟨gl, 0, none⟩) := (hE 16 (by simp)).trans (by simp [evF, Act.eval])
          exact soft_value (.pointer (some ⟨gl, 1, none⟩)) (by unfold execOp; simp only [e16]; kernel_rfl) rfl
        · have d7 : vs 7 = .pointer (some ⟨gl, 1, none⟩) := hR 7 (by simp [hdep])
          have e54 : ac.eval (.tmp 54) = .pointer (some ⟨gl, 1, none⟩) := (hE 54 (by simp)).trans (by simp [evF, hdep, d7])
          have hc1 : W1.cell? ⟨gl, 1, none⟩ = some (.int .i64 (l.f : Int)) := (HL8.out.fr hB NGL).cell 1
          exact soft_value (.int .i64 (l.f : Int)) (by unfold execOp; simp only [e54]; go_simp) rfl
        · have d6 : vs 6 = .slice (some ⟨bc, oc, none⟩) v.n v.c := hR 6 (by simp [hdep])
          have e53 : ac.eval (.tmp 53) = .slice (some ⟨bc, oc, none⟩) v.n v.c := (hE 53 (by simp)).trans (by simp [evF, hdep, d6])
          have d8 : vs 8 = .int .i64 (l.f : Int) := hR 8 (by simp [hdep])
          have e55 : ac.eval (.tmp 55) = .int .i64 (l.f : Int) := (hE 55 (by simp)).trans (by simp [evF, hdep, d8])
          exact soft_value (.pointer (some ⟨bc, oc + l.f * 4, none⟩)) (by simp [execOp, e53, e55, ixk 46 _ 4 Try.underlying46 (by kernel_rfl) bc oc l.f v.n v.c HP2.out, Result.andThen]) rfl
        · have d9 : vs 9 = .pointer (some ⟨bc, oc + l.f * 4, none⟩) := hR 9 (by simp [hdep])
          have e56 : ac.eval (.tmp 56) = .pointer (some ⟨bc, oc + l.f * 4, none⟩) := (hE 56 (by simp)).trans (by simp [evF, hdep, d9])
          have hx0 := cell_fr (HCA.out 0 _ rfl) hB NBC; have hx1 := cell_fr (HCA.out 1 _ rfl) hB NBC; have hx2 := cell_fr (HCA.out 2 _ rfl) hB NBC; have hx3 := cell_fr (HCA.out 3 _ rfl) hB NBC
          rw [Nat.add_zero] at hx0
          exact soft_value (.agg #[.string a.port, .int .i64 a.cut, .int .i64 a.arr, .int .i64 a.dep]) (by unfold execOp; simp only [e56]; go_simp) rfl
        · have d12 : done 12 = false := not_of hX.2 hnd
          have n12 : upDn done 11 12 = false := by rw [up_ne done (by decide)]; exact d12
          refine wp_alloc_z 50 rfl #[.string ⟨#[]⟩, .int .i64 0, .int .i64 0, .int .i64 0] (by kernel_rfl) ⟨_, rfl, (Fr.refl _ _).alloc _, ⟨fun _ => ⟨W1.heap.size, by rw [upv_same], hB.size, ?_⟩, fun h => (by rw [n12] at h; cases h)⟩, trivial⟩
          simp only [n12, Bool.false_eq_true, if_false]
          exact Blk.new _ _ _
        · obtain ⟨b9, hb1, hb2, hb3⟩ := hX.1 (by simp [hdep])
          have d11 : vs 11 = .pointer (some ⟨b9, 0, none⟩) := hb1
          have e17 : ac.eval (.tmp 17) = .pointer (some ⟨b9, 0, none⟩) := (hE 17 (by simp)).trans (by simp [evF, hdep, d11])
          have d10 : vs 10 = .agg #[.string a.port, .int .i64 a.cut, .int .i64 a.arr, .int .i64 a.dep] := hR 10 (by simp [hdep])
          have e57 : ac.eval (.tmp 57) = .agg #[.string a.port, .int .i64 a.cut, .int .i64 a.arr, .int .i64 a.dep] := (hE 57 (by simp)).trans (by simp [evF, hdep, d10])
          rw [hnd] at hb3
          simp only [Bool.false_eq_true, if_false] at hb3
          refine wp_store_row 50 (.tmp 17) (.tmp 57) rfl b9 #[.string a.port, .int .i64 a.cut, .int .i64 a.arr, .int .i64 a.dep] e17 e57 50 #[.string ⟨#[]⟩, .int .i64 0, .int .i64 0, .int .i64 0] hb3 (by kernel_rfl) rfl (by simp [Value.oneCell']) ⟨_, rfl, (fr_row _ _ _).mono (fun k hk => by rw [hk]; exact hb2), ⟨fun _ => ⟨b9, by rw [upv_ne vs _ (by decide)]; exact hb1, hb2, ?_⟩, fun _ => by rw [up_ne done (by decide)]; simp [hdep]⟩, trivial⟩
          simp only [up_same, if_true]
          exact setRow_heap W1 b9 _ _ _ (0, 0) hb3
      intro done vs_ W hall hB hR hX
      obtain ⟨b9, hb1, hb2, hb3⟩ := hX.1 (hall 11 (by simp))
      rw [hall 12 (by simp)] at hb3
      simp only [if_true] at hb3
      have hBb : Below w8.heap.size w8 W := hB.bel (Below.refl _ _) (fun k hk => hk) (Nat.le_refl _)
      have HT9 := Lib.hid hb3
      have HBW := Lib.hid (HB9.out.trans (hBb.mono HB9.out.size))
      have HLW := Lib.hid (HL8.out.below hBb HL8.out.lt)
      simp only [fillA, Act.put, List.setIfInBounds_toArray, List.set_cons_zero, List.set_cons_succ, if_true, hb1]
      clear hall hB hR hX hb1 hb2 hb3 hBb NGS NGL NBV NBC HL8 HGS8 HCV HCA HB9
      obtain ⟨w9, hw9⟩ : ∃ w9, W = w9 := ⟨_, rfl⟩
      rw [hw9] at HT9 HBW HLW ⊢
      clear hw9
      have HKW := Lib.hid (HK2.out.below HBW.out HK2.out.lt)
      have s0 := HKW.out.cell 0; have s1 := HKW.out.cell 1; have s2 := HKW.out.cell 2
      have m0 := HLW.out.cell 0; have m1 := HLW.out.cell 1; have m2 := HLW.out.cell 2
      have t0 := HT9.out.cell 0; have t1 := HT9.out.cell 1
      simp only [List.getElem?_toArray, List.getElem?_cons_zero, List.getElem?_cons_succ] at s0 s1 s2 m0 m1 m2 t0 t1
      have hnc := HNC.out
      have HAR := Lib.hid (arrive_any _ n c1 us fr ch l v a b w9 (HS2.out.below HBW.out) HLA.out)
      go_wp2_with fail
      refine HAR.out.mono ?_
      rintro e w10 ⟨rfl, hb10⟩
      have HBX := Lib.hid (HBW.out.trans (hb10.mono HBW.out.size))
      have HBY := Lib.hid (HBX.out.alloc HBX.out.size (.cells #[.string b.port, .int .i64 b.cut, .int .i64 b.arr, .int .i64 b.dep] 50))
      have HT10 := Lib.hid (Blk.new w10 50 #[.string b.port, .int .i64 b.cut, .int .i64 b.arr, .int .i64 b.dep])
      clear s0 s1 s2 m0 m1 m2 t0 t1 hb10 HAR HBW HLW HKW HT9 HBX hnc
      go_upto_region 14 with ((refine stop_store 50 _ _ rfl ?_; refine wpList_store_new rfl 50 _ _ rfl _ rfl rfl (by kernel_rfl) rfl rfl ?_))
      obtain ⟨w11, hw11⟩ : ∃ W, w10.alloc (.cells #[.string b.port, .int .i64 b.cut, .int .i64 b.arr, .int .i64 b.dep] 50) = W := ⟨_, rfl⟩
      obtain ⟨g11, hg11⟩ : ∃ g, w10.heap.size = g := ⟨_, rfl⟩
      rw [hw11] at HBY HT10 ⊢
      rw [hg11] at HT10
      simp only [hg11]
      clear hw11 hg11
      have s2 := (HK2.out.below HBY.out HK2.out.lt).cell 2
      have t0 := HT10.out.cell 0; have t2 := HT10.out.cell 2
      simp only [List.getElem?_toArray, List.getElem?_cons_zero, List.getElem?_cons_succ] at s2 t0 t2
      have hwa := HWA.out
      go_quiet (fail)
      go_wp2_with fail
      go_roundw
      case rel => exact ⟨k + 1, by omega, by go_num, by rw [HG6.out], by rw [HG6.out, if_neg HG5.out, HG7.out], Lib.hid (below_drewN HBY.out _)⟩
      case measure => simp [intOf]; omega
    · have hkn : n2 = k := by omega
      subst hkn
      have hqt : q = to := by rw [← HQQ.out, ← hlen]; exact HQ2.out
      subst hqt
      have HBE := Lib.hid (HB2.out.trans (HBR.out.mono HB2.out.size))
      go_wp2_with fail
      go_ret
      exact ⟨rfl, HBE.out⟩
end Go.Proofs.Ytlicmhgpldmliaa.kit
