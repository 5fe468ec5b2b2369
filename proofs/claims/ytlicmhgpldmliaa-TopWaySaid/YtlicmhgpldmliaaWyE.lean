/- Voyages: the call at which a leg ends; whether a leg is one. No condition. -/
import Derived.Test.YtlicmhgpldmliaaWyD
import Derived.StillTailTactics
namespace Go.Proofs.Ytlicmhgpldmliaa.kit
open Go.RowKit
set_option linter.unusedVariables false
set_option linter.unusedSimpArgs false
/-- A search's voyages in memory. -/
structure Sea (W : World) (A : Option Addr) (n : Nat) (us : List Vy) : Prop where
  sl : SliceOf W 2 vyC A n us
  lie : Lie W us
theorem Sea.below {W W' : World} {A : Option Addr} {n : Nat} {us : List Vy} (h : Sea W A n us) (hb : Below W.heap.size W W') : Sea W' A n us := ⟨h.sl.below hb, h.lie.below hb⟩
/-- Where a leg's calls lie. -/
theorem sea_leg {W : World} {A : Option Addr} {n : Nat} {us : List Vy} (h : Sea W A n us) {l : Lg} {v : Vy} {a b : Cl} (hl : legA us l = some (v, a, b)) :
    l.v < n ∧ l.f < v.n ∧ l.t < v.n ∧ l.f < l.t ∧ ∃ bv ov bc oc, A = some ⟨bv, ov, none⟩ ∧ v.A = some ⟨bc, oc, none⟩ ∧ W.cell? ⟨bv, ov + l.v * 2, none⟩ = some (.string v.ship) ∧ W.cell? ⟨bv, ov + l.v * 2 + 1, none⟩ = some (.slice v.A v.n v.c) ∧
      (∀ j u, (clC a)[j]? = some u → W.cell? ⟨bc, oc + l.f * 4 + j, none⟩ = some u) ∧ (∀ j u, (clC b)[j]? = some u → W.cell? ⟨bc, oc + l.t * 4 + j, none⟩ = some u) := by
  obtain ⟨h1, h2, h3, h4⟩ := legA_some.1 hl
  have hv := List.mem_of_getElem? h1
  have hlen := h.sl.len
  have hlv := (List.getElem?_eq_some_iff.1 h1).1
  have hlf := (List.getElem?_eq_some_iff.1 h2).1
  have hlt := (List.getElem?_eq_some_iff.1 h3).1
  have hcl := (h.lie v hv).len
  obtain ⟨bv, ov, x, e1, hx, hc⟩ := vy_at h.sl (k := l.v) (by omega)
  rw [h1] at hx
  injection hx with hx
  subst hx
  obtain ⟨bc, oc, y, e2, hy, hcy⟩ := cl_at (h.lie v hv) (k := l.f) (by omega)
  rw [h2] at hy
  injection hy with hy
  subst hy
  obtain ⟨bc', oc', z, e3, hz, hcz⟩ := cl_at (h.lie v hv) (k := l.t) (by omega)
  rw [h3] at hz
  injection hz with hz
  subst hz
  rw [e2] at e3
  injection e3 with e3
  injection e3 with e4 e5
  subst e4 e5
  exact ⟨by omega, by omega, by omega, h4, bv, ov, bc, oc, e1, e2, by have := hc 0 _ rfl; rwa [Nat.add_zero] at this, hc 1 _ rfl, hcy, hcz⟩
set_option maxRecDepth 100000 in
set_option maxHeartbeats 3200000 in
theorem arrive_any (A : Option Addr) (n c : Nat) (us : List Vy) (fr : ByteArray) (ch : Int) (l : Lg) (v : Vy) (a b : Cl) (w : World) (hx : Sea w A n us) (hl : legA us l = some (v, a, b)) :
    Calls Try.prog 38 #[.agg #[.slice A n c, .string fr, .int .i64 ch], .agg #[.int .i64 l.v, .int .i64 l.f, .int .i64 l.t]] w fun e w' => e = .returned (.agg #[.string b.port, .int .i64 b.cut, .int .i64 b.arr, .int .i64 b.dep]) ∧ Below w.heap.size w w' := by
  have HB0 := Lib.hid (((one_alloc w (.cells #[.slice A n c, .string fr, .int .i64 ch] 94)).trans ((one_alloc _ (.cells #[.int .i64 l.v, .int .i64 l.f, .int .i64 l.t] 60)).mono (by rw [sz_alloc]; omega))).trans ((one_alloc _ (.cells #[.string ⟨#[]⟩, .int .i64 0, .int .i64 0, .int .i64 0] 50)).mono (by rw [sz_alloc, sz_alloc]; omega)))
  have HS0 := Lib.hid (((Blk.new w 94 #[.slice A n c, .string fr, .int .i64 ch]).alloc (.cells #[.int .i64 l.v, .int .i64 l.f, .int .i64 l.t] 60)).alloc (.cells #[.string ⟨#[]⟩, .int .i64 0, .int .i64 0, .int .i64 0] 50))
  have HL0 := Lib.hid ((blk_second w (.cells #[.slice A n c, .string fr, .int .i64 ch] 94) 60 #[.int .i64 l.v, .int .i64 l.f, .int .i64 l.t]).alloc (.cells #[.string ⟨#[]⟩, .int .i64 0, .int .i64 0, .int .i64 0] 50))
  have HR0 := Lib.hid (Blk.new_at ((w.alloc (.cells #[.slice A n c, .string fr, .int .i64 ch] 94)).alloc (.cells #[.int .i64 l.v, .int .i64 l.f, .int .i64 l.t] 60)) 50 #[.string ⟨#[]⟩, .int .i64 0, .int .i64 0, .int .i64 0] (w.heap.size + 2) (by rw [sz_alloc, sz_alloc]))
  have HX := Lib.hid hx
  have HLG := Lib.hid hl
  clear hx hl
  go_enter Try.func38, Try.ntmps38
  go_upto_region 1 with (fail)
  obtain ⟨w0, hw0⟩ : ∃ W, ((w.alloc (.cells #[.slice A n c, .string fr, .int .i64 ch] 94)).alloc (.cells #[.int .i64 l.v, .int .i64 l.f, .int .i64 l.t] 60)).alloc (.cells #[.string ⟨#[]⟩, .int .i64 0, .int .i64 0, .int .i64 0] 50) = W := ⟨_, rfl⟩
  obtain ⟨g, hg⟩ : ∃ g, w.heap.size = g := ⟨_, rfl⟩
  rw [hw0] at HB0 HS0 HL0 HR0 ⊢
  rw [hg] at HS0 HL0 HR0
  simp only [hg]
  have HG := Lib.hid hg
  clear hw0 hg
  obtain ⟨p1, p2, p3, p4, bv, ov, bc, oc, rfl, e2, c1, c2, c3, c4⟩ := sea_leg (HX.out.below HB0.out) HLG.out
  have s0 := HS0.out.cell 0
  have l0 := HL0.out.cell 0; have l2 := HL0.out.cell 2
  simp only [List.getElem?_toArray, List.getElem?_cons_zero, List.getElem?_cons_succ] at s0 l0 l2
  rw [e2] at c2
  have d0 := c4 0 _ rfl; have d1 := c4 1 _ rfl; have d2 := c4 2 _ rfl; have d3 := c4 3 _ rfl
  rw [Nat.add_zero] at d0
  have i1 : (l.v : Int) < (n : Int) := by omega
  have i2 : (l.t : Int) < (v.n : Int) := by omega
  clear c3 c4 c1
  rw [show g + 1 + 1 = g + 2 from rfl]
  go_still_tail 11, (by kernel_rfl)
  change wpList _ _ _ _ _ w0.drew
  have HR1 : Hid (Blk w0.drew (g + 2) 50 #[.string ⟨#[]⟩, .int .i64 0, .int .i64 0, .int .i64 0]) := Lib.hid HR0.out
  have HB1 : Hid (Below w.heap.size w w0.drew) := Lib.hid HB0.out.drew
  go_wp2_with ((refine stop_store 50 _ _ rfl ?_; refine wpList_store_fr rfl 50 _ _ rfl _ rfl rfl HR1.out (by kernel_rfl) rfl rfl ?_; intro w4 hn4 fr4))
  have HB4 := fr4.bel HB1.out (fun q e => by have := HG.out; omega) HB1.out.size
  have q0 := hn4.cell 0; have q1 := hn4.cell 1; have q2 := hn4.cell 2; have q3 := hn4.cell 3
  simp only [List.getElem?_toArray, List.getElem?_cons_zero, List.getElem?_cons_succ] at q0 q1 q2 q3
  refine bodyPost_ret (v := .agg #[.string b.port, .int .i64 b.cut, .int .i64 b.arr, .int .i64 b.dep]) (by simp [results, Try.results38, go_sem, q0, q1, q2, q3]) rfl ?_
  exact ⟨rfl, HB4⟩
end Go.Proofs.Ytlicmhgpldmliaa.kit
