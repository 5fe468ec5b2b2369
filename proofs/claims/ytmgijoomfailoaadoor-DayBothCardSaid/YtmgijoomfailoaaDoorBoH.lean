/- The law's world: five calendars in boxes; the book of the region that makes both lists. No condition. -/
import Derived.Test.YtmgijoomfailoaaDoorBoG
namespace Go.Proofs.YtmgijoomfailoaaDoor.cal
open Go.RowKit Go.Proofs.YtmgijoomfailoaaDoor.kit
set_option linter.unusedVariables false

section
variable {w W W' : World} {B : Nat} {a b : Cal} {ca cb : Array Value} {ga gb : Nat} {done : Nat → Bool} {vs : Nat → Value}
theorem box_cal {v x : Value} {c : Cal} (h : boxAt W B v true x) (hc : calAt W x c) : ∃ (g : Nat) (A : Option Addr) (n k : Nat) (A' : Option Addr) (m d : Nat), v = .pointer (some ⟨g, 0, none⟩) ∧ B ≤ g ∧ Blk W g 31 #[.slice A n k, .slice A' m d] ∧ SliceOf W 1 intC A n c.rest ∧ SliceOf W 1 intC A' m c.hol ∧ n ≤ 40 ∧ m ≤ 120 := by
  obtain ⟨g, A, n, k, A', m, d, h1, h2, h3, h4⟩ := h
  obtain ⟨P, p, q, P', p', q', c1, c2, c3, c4, c5⟩ := hc
  have e := (h4 rfl).symm.trans c1
  injection e with e
  simp only [Array.mk.injEq, List.cons.injEq, Value.slice.injEq, and_true] at e
  obtain ⟨⟨rfl, rfl, rfl⟩, rfl, rfl, rfl⟩ := e
  exact ⟨g, A, n, k, A', m, d, h1, h2, h3, c2, c3, c4, c5⟩
end
/-- Five boxes, and what they hold. -/
structure Fv (w : World) (ga gb g7 g8 g9 : Nat) (ca cb c7 c8 c9 : Array Value) (E1 : Option Addr) (e1 : Nat) (E2 : Option Addr) (e2 : Nat) (F1 : Option Addr) (f1 : Nat) (F2 : Option Addr) (f2 : Nat) (x y : Cal) (P1 : Option Addr) (p1 : Nat) (P2 : Option Addr) (p2 : Nat) (xs ys : List Int) (W : World) : Prop where
  bel : Below w.heap.size w W
  ka : Blk W ga 31 ca
  kb : Blk W gb 31 cb
  k7 : Blk W g7 31 c7
  k8 : Blk W g8 31 c8
  k9 : Blk W g9 31 c9
  s1 : SliceOf W 1 intC E1 e1 x.rest
  s2 : SliceOf W 1 intC E2 e2 x.hol
  s3 : SliceOf W 1 intC F1 f1 y.rest
  s4 : SliceOf W 1 intC F2 f2 y.hol
  s5 : SliceOf W 1 intC P1 p1 xs
  s6 : SliceOf W 1 intC P2 p2 ys
section
variable {w W W' : World} {ga gb g7 g8 g9 : Nat} {ca cb c7 c8 c9 c9' : Array Value} {E1 : Option Addr} {e1 : Nat} {E2 : Option Addr} {e2 : Nat} {F1 : Option Addr} {f1 : Nat} {F2 : Option Addr} {f2 : Nat} {x y : Cal} {P1 : Option Addr} {p1 : Nat} {P2 : Option Addr} {p2 : Nat} {xs ys : List Int}
theorem Fv.below (h : Fv w ga gb g7 g8 g9 ca cb c7 c8 c9 E1 e1 E2 e2 F1 f1 F2 f2 x y P1 p1 P2 p2 xs ys W) (hb : Below W.heap.size W W') : Fv w ga gb g7 g8 g9 ca cb c7 c8 c9 E1 e1 E2 e2 F1 f1 F2 f2 x y P1 p1 P2 p2 xs ys W' :=
  ⟨h.bel.trans (hb.mono h.bel.size), h.ka.below hb h.ka.lt, h.kb.below hb h.kb.lt, h.k7.below hb h.k7.lt, h.k8.below hb h.k8.lt, h.k9.below hb h.k9.lt, h.s1.below hb, h.s2.below hb, h.s3.below hb, h.s4.below hb, h.s5.below hb, h.s6.below hb⟩
/-- Another calendar put into the fifth box. -/
theorem Fv.put (h : Fv w ga gb g7 g8 g9 ca cb c7 c8 c9 E1 e1 E2 e2 F1 f1 F2 f2 x y P1 p1 P2 p2 xs ys W) {A A' : Option Addr} {n k m d : Nat} {Q1 Q2 : Option Addr} {q1 q2 : Nat} {us vs : List Int} (hc : c9 = #[.slice A n k, .slice A' m d]) (t1 : SliceOf W 1 intC Q1 q1 us) (t2 : SliceOf W 1 intC Q2 q2 vs)
    (h9 : w.heap.size ≤ g9) (na : ga ≠ g9) (nb : gb ≠ g9) (n7 : g7 ≠ g9) (n8 : g8 ≠ g9)
    (hn : Blk W' g9 31 c9') (kn : ∀ k t' cs, k ≠ g9 → Blk W k t' cs → Blk W' k t' cs) (sn : W.heap.size ≤ W'.heap.size) (cn : ∀ p : Addr, p.block ≠ g9 → W'.cell? p = W.cell? p) (bn : ∀ B w0, Below B w0 W → B ≤ g9 → Below B w0 W') : Fv w ga gb g7 g8 g9 ca cb c7 c8 c9' E1 e1 E2 e2 F1 f1 F2 f2 x y Q1 q1 Q2 q2 us vs W' := by
  subst hc
  have k9 := h.k9
  exact ⟨bn _ _ h.bel h9, kn _ _ _ na h.ka, kn _ _ _ nb h.kb, kn _ _ _ n7 h.k7, kn _ _ _ n8 h.k8, hn, SliceOf.row h.s1 k9 sn cn, SliceOf.row h.s2 k9 sn cn, SliceOf.row h.s3 k9 sn cn, SliceOf.row h.s4 k9 sn cn, SliceOf.row t1 k9 sn cn, SliceOf.row t2 k9 sn cn⟩
end
/-- A list by value. -/
def lstAt (W : World) (v : Value) (l : List Int) (N : Nat) : Prop := ∃ (A : Option Addr) (n k : Nat), v = .slice A n k ∧ SliceOf W 1 intC A n l ∧ n ≤ N
theorem lstAt.below {W W' : World} {v : Value} {l : List Int} {N : Nat} (h : lstAt W v l N) (hb : Below W.heap.size W W') : lstAt W' v l N := by
  obtain ⟨A, n, k, h1, h2, h3⟩ := h
  exact ⟨A, n, k, h1, h2.below hb, h3⟩
/-- The book of 'Calendar{Rest: Both(..), Holidays: Both(..)}'. -/
structure RJ (S : World → Prop) (T : Value → Value → World → Prop) (gb g9 : Nat) (v1 v3 v6 v8 : Value) (xs ys : List Int) (N M : Nat) (done : Nat → Bool) (vs : Nat → Value) (W : World) : Prop where
  inv : done 11 = false → S W
  c : Cst [(0, (.pointer (some ⟨g9, 0, none⟩))), (1, v1), (2, (.pointer (some ⟨gb, 0, none⟩))), (3, v3), (5, (.pointer (some ⟨g9, 1, none⟩))), (6, v6), (7, (.pointer (some ⟨gb, 1, none⟩))), (8, v8)] done vs
  e : Chain [(1, 0), (3, 2), (6, 5), (8, 7), (4, 1), (4, 3), (9, 6), (9, 8), (10, 4), (10, 9), (11, 10)] done
  r4 : done 4 = true → done 11 = false → lstAt W (vs 4) xs N
  r9 : done 9 = true → done 11 = false → lstAt W (vs 9) ys M
  r10 : done 10 = true → vs 10 = .agg #[vs 4, vs 9]
  f : done 11 = true → T (vs 4) (vs 9) W
section
variable {S : World → Prop} {T : Value → Value → World → Prop} {gb g9 : Nat} {v1 v3 v6 v8 : Value} {xs ys : List Int} {N M : Nat} {done : Nat → Bool} {vs : Nat → Value} {W W' : World}
theorem RJ.off (h : RJ S T gb g9 v1 v3 v6 v8 xs ys N M done vs W) {k : Nat} (hk : done k = false) (hk' : k ≤ 10) : done 11 = false := by
  cases q : done 11
  · rfl
  · have a10 := h.e (11, 10) (by simp) q
    have a4 := h.e (10, 4) (by simp) a10
    have a9 := h.e (10, 9) (by simp) a10
    have a1 := h.e (4, 1) (by simp) a4
    have a3 := h.e (4, 3) (by simp) a4
    have a6 := h.e (9, 6) (by simp) a9
    have a8 := h.e (9, 8) (by simp) a9
    have a0 := h.e (1, 0) (by simp) a1
    have a2 := h.e (3, 2) (by simp) a3
    have a5 := h.e (6, 5) (by simp) a6
    have a7 := h.e (8, 7) (by simp) a8
    have hc : k = 0 ∨ k = 1 ∨ k = 2 ∨ k = 3 ∨ k = 4 ∨ k = 5 ∨ k = 6 ∨ k = 7 ∨ k = 8 ∨ k = 9 ∨ k = 10 := by omega
    rcases hc with rfl | rfl | rfl | rfl | rfl | rfl | rfl | rfl | rfl | rfl | rfl <;> simp_all
/-- An operation whose value is fixed has come up. -/
theorem RJ.fixed (h : RJ S T gb g9 v1 v3 v6 v8 xs ys N M done vs W) {k : Nat} {v : Value} (hn : done k = false) (hk : (k, v) ∈ ([(0, (.pointer (some ⟨g9, 0, none⟩))), (1, v1), (2, (.pointer (some ⟨gb, 0, none⟩))), (3, v3), (5, (.pointer (some ⟨g9, 1, none⟩))), (6, v6), (7, (.pointer (some ⟨gb, 1, none⟩))), (8, v8)] : List (Nat × Value))) (hc : ∀ p ∈ ([(1, 0), (3, 2), (6, 5), (8, 7), (4, 1), (4, 3), (9, 6), (9, 8), (10, 4), (10, 9), (11, 10)] : List (Nat × Nat)), p.1 = k → done p.2 = true) : RJ S T gb g9 v1 v3 v6 v8 xs ys N M (upB done k) (upV vs k v) W := by
  have hne : k ≠ 4 ∧ k ≠ 9 ∧ k ≠ 10 ∧ k ≠ 11 := by
    simp only [List.mem_cons, Prod.mk.injEq, List.not_mem_nil, or_false] at hk
    omega
  have h11 := h.off hn (by
    simp only [List.mem_cons, Prod.mk.injEq, List.not_mem_nil, or_false] at hk
    omega)
  refine ⟨fun _ => h.inv h11, h.c.up k v ?_, h.e.up k hc, fun q _ => ?_, fun q _ => ?_, fun q => ?_, fun q => ?_⟩
  · intro p hp e
    simp only [List.mem_cons, Prod.mk.injEq, List.not_mem_nil, or_false] at hk hp
    rcases hk with ⟨rfl, rfl⟩ | ⟨rfl, rfl⟩ | ⟨rfl, rfl⟩ | ⟨rfl, rfl⟩ | ⟨rfl, rfl⟩ | ⟨rfl, rfl⟩ | ⟨rfl, rfl⟩ | ⟨rfl, rfl⟩ <;> rcases hp with rfl | rfl | rfl | rfl | rfl | rfl | rfl | rfl <;> simp_all
  · have := h.r4 (by simpa [upB, hne.1.symm] using q) h11
    simpa [upV, hne.1.symm] using this
  · have := h.r9 (by simpa [upB, hne.2.1.symm] using q) h11
    simpa [upV, hne.2.1.symm] using this
  · have := h.r10 (by simpa [upB, hne.2.2.1.symm] using q)
    simpa [upV, hne.1.symm, hne.2.1.symm, hne.2.2.1.symm] using this
  · simp [upB, h11, hne.2.2.2.symm] at q
theorem RJ.call4 (h : RJ S T gb g9 v1 v3 v6 v8 xs ys N M done vs W) (hn : done 4 = false) (d1 : done 1 = true) (d3 : done 3 = true) {v : Value} (hS : S W') (hb : Below W.heap.size W W') (hv : lstAt W' v xs N) : RJ S T gb g9 v1 v3 v6 v8 xs ys N M (upB done 4) (upV vs 4 v) W' := by
  have h11 := h.off hn (by omega)
  have h10 : done 10 = false := by
    cases q : done 10
    · rfl
    · have := h.e (10, 4) (by simp) q; simp_all
  refine ⟨fun _ => hS, h.c.up 4 v (by simp), h.e.up 4 ?_, fun _ _ => by simpa [upV] using hv, fun q _ => ?_, fun q => ?_, fun q => ?_⟩
  · intro p hp e
    simp only [List.mem_cons, List.not_mem_nil, or_false] at hp
    rcases hp with rfl | rfl | rfl | rfl | rfl | rfl | rfl | rfl | rfl | rfl | rfl <;> simp_all
  · have := (h.r9 (by simpa [upB] using q) h11).below hb
    simpa [upV] using this
  · simp [upB, h10] at q
  · simp [upB, h11] at q
theorem RJ.call9 (h : RJ S T gb g9 v1 v3 v6 v8 xs ys N M done vs W) (hn : done 9 = false) (d1 : done 6 = true) (d3 : done 8 = true) {v : Value} (hS : S W') (hb : Below W.heap.size W W') (hv : lstAt W' v ys M) : RJ S T gb g9 v1 v3 v6 v8 xs ys N M (upB done 9) (upV vs 9 v) W' := by
  have h11 := h.off hn (by omega)
  have h10 : done 10 = false := by
    cases q : done 10
    · rfl
    · have := h.e (10, 9) (by simp) q; simp_all
  refine ⟨fun _ => hS, h.c.up 9 v (by simp), h.e.up 9 ?_, fun q _ => ?_, fun _ _ => by simpa [upV] using hv, fun q => ?_, fun q => ?_⟩
  · intro p hp e
    simp only [List.mem_cons, List.not_mem_nil, or_false] at hp
    rcases hp with rfl | rfl | rfl | rfl | rfl | rfl | rfl | rfl | rfl | rfl | rfl <;> simp_all
  · have := (h.r4 (by simpa [upB] using q) h11).below hb
    simpa [upV] using this
  · simp [upB, h10] at q
  · simp [upB, h11] at q
theorem RJ.build (h : RJ S T gb g9 v1 v3 v6 v8 xs ys N M done vs W) (hn : done 10 = false) (d1 : done 4 = true) (d3 : done 9 = true) : RJ S T gb g9 v1 v3 v6 v8 xs ys N M (upB done 10) (upV vs 10 (.agg #[vs 4, vs 9])) W := by
  have h11 := h.off hn (by omega)
  refine ⟨fun _ => h.inv h11, h.c.up 10 _ (by simp), h.e.up 10 ?_, fun q _ => ?_, fun q _ => ?_, fun q => by simp [upV], fun q => by simp [upB, h11] at q⟩
  · intro p hp e
    simp only [List.mem_cons, List.not_mem_nil, or_false] at hp
    rcases hp with rfl | rfl | rfl | rfl | rfl | rfl | rfl | rfl | rfl | rfl | rfl <;> simp_all
  · simpa [upV] using h.r4 d1 h11
  · simpa [upV] using h.r9 d3 h11
theorem RJ.store (h : RJ S T gb g9 v1 v3 v6 v8 xs ys N M done vs W) (d : done 10 = true) (hT : T (vs 4) (vs 9) W') : RJ S T gb g9 v1 v3 v6 v8 xs ys N M (upB done 11) (upV vs 11 undef) W' := by
  refine ⟨fun q => by simp [upB] at q, h.c.up 11 _ (by simp), h.e.up 11 ?_, fun _ q => by simp [upB] at q, fun _ q => by simp [upB] at q, fun q => ?_, fun q => by simpa [upV] using hT⟩
  · intro p hp e
    simp only [List.mem_cons, List.not_mem_nil, or_false] at hp
    rcases hp with rfl | rfl | rfl | rfl | rfl | rfl | rfl | rfl | rfl | rfl | rfl <;> simp_all
  · have := h.r10 d
    simpa [upV] using this
end
end Go.Proofs.YtmgijoomfailoaaDoor.cal
