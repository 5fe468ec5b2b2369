/- Letters without papers: their copies, one and many. No condition. -/
import Derived.Test.YtlicmhgpldmliaaOwn
import Derived.Test.YtlicmhgpldmliaaMore
import Derived.Test.YtlicmhgpldmliaaStep
import Derived.Test.YtlicmhgpldmliaaTMap
import Derived.Deep.Cut
import Derived.Lib.Slices
import Derived.Test.YtlicmhgpldmliaaFr
namespace Go.Proofs.Ytlicmhgpldmliaa.kit
open Go.RowKit
set_option linter.unusedVariables false

structure Lr where
  fr : ByteArray
  dst : ByteArray
  num : Int
  kind : Int
  ack : Int
  idx : Int
def ltC (x : Lr) : List Value := [.string x.fr, .string x.dst, .int .i64 x.num, .int .i64 x.kind, .int .i64 x.ack, .string ⟨#[]⟩, .string ⟨#[]⟩, .string ⟨#[]⟩, .int .i64 x.idx, .int .i64 0, .string ⟨#[]⟩, .int .i64 0, .slice none 0 0, .slice none 0 0]
theorem lt_len (x : Lr) : (ltC x).length = 14 := rfl
theorem lt_one (x : Lr) : ∀ u ∈ ltC x, u.oneCell' = true := by simp [ltC, Value.oneCell']
theorem lts_one (xs : List Lr) : ∀ u ∈ xs.flatMap ltC, u.oneCell' = true := by
  intro u hu
  obtain ⟨x, _, hx⟩ := List.mem_flatMap.1 hu
  exact lt_one x u hx
theorem infoLt : (Try.prog.info? 32).map (fun i => (i.zero, i.size, i.bytes)) = some (some (.agg #[.string ⟨#[]⟩, .string ⟨#[]⟩, .int .i64 0, .int .i64 0, .int .i64 0, .string ⟨#[]⟩, .string ⟨#[]⟩, .string ⟨#[]⟩, .int .i64 0, .int .i64 0, .string ⟨#[]⟩, .int .i64 0, .slice none 0 0, .slice none 0 0]), 14, 192) := by kernel_rfl
theorem size_alloc (w : World) (o : Obj) : (w.alloc o).heap.size = w.heap.size + 1 := Array.size_push _
theorem own_slice {w : World} {base n : Nat} {e : TypeId} {C : Nat} {v : Value} {ys : List Value} (h : w.ownsRow base e C v n ys) : ∃ A c, v = .slice A n c := by
  rcases h.2 with ⟨hv, h0⟩ | ⟨g, cap, cur, hv, _⟩
  · exact ⟨none, 0, by rw [hv, h0]⟩
  · exact ⟨_, _, hv⟩
theorem clone_docs (w : World) : Calls Try.prog 56 #[.slice none 0 0] w fun e w' => e = .returned (.slice none 0 0) ∧ w = w' := by
  have q : ∀ (w : World) (a : Option Addr) (n c n' c' : Nat), (binOp .eql 29 (.slice a n c) (.slice none n' c')).run Try.prog w = .ok (.bool a.isNone) w := fun w a n c n' c' => Lib.run_eql_slice_nil w _ _ a n c n' c' Try.underlying29
  go_enter Try.func56, Try.ntmps56
  go_wp2_with fail
  go_ret
  exact ⟨rfl, rfl⟩
theorem clone_strs (w : World) : Calls Try.prog 58 #[.slice none 0 0] w fun e w' => e = .returned (.slice none 0 0) ∧ w = w' := by
  have q : ∀ (w : World) (a : Option Addr) (n c n' c' : Nat), (binOp .eql 30 (.slice a n c) (.slice none n' c')).run Try.prog w = .ok (.bool a.isNone) w := fun w a n c n' c' => Lib.run_eql_slice_nil w _ _ a n c n' c' Try.underlying30
  go_enter Try.func58, Try.ntmps58
  go_wp2_with fail
  go_ret
  exact ⟨rfl, rfl⟩
set_option maxRecDepth 100000 in
set_option maxHeartbeats 3200000 in
theorem own_any (x : Lr) (w : World) : Calls Try.prog 32 #[.agg #[.string x.fr, .string x.dst, .int .i64 x.num, .int .i64 x.kind, .int .i64 x.ack, .string ⟨#[]⟩, .string ⟨#[]⟩, .string ⟨#[]⟩, .int .i64 x.idx, .int .i64 0, .string ⟨#[]⟩, .int .i64 0, .slice none 0 0, .slice none 0 0]] w fun e w' => e = .returned (.agg #[.string x.fr, .string x.dst, .int .i64 x.num, .int .i64 x.kind, .int .i64 x.ack, .string ⟨#[]⟩, .string ⟨#[]⟩, .string ⟨#[]⟩, .int .i64 x.idx, .int .i64 0, .string ⟨#[]⟩, .int .i64 0, .slice none 0 0, .slice none 0 0]) ∧ Below w.heap.size w w' := by
  have hB0 := two_alloc w (.cells #[.string x.fr, .string x.dst, .int .i64 x.num, .int .i64 x.kind, .int .i64 x.ack, .string ⟨#[]⟩, .string ⟨#[]⟩, .string ⟨#[]⟩, .int .i64 x.idx, .int .i64 0, .string ⟨#[]⟩, .int .i64 0, .slice none 0 0, .slice none 0 0] 32) (.cells #[.string ⟨#[]⟩, .string ⟨#[]⟩, .int .i64 0, .int .i64 0, .int .i64 0, .string ⟨#[]⟩, .string ⟨#[]⟩, .string ⟨#[]⟩, .int .i64 0, .int .i64 0, .string ⟨#[]⟩, .int .i64 0, .slice none 0 0, .slice none 0 0] 32)
  have hK0 : Blk ((w.alloc (.cells #[.string x.fr, .string x.dst, .int .i64 x.num, .int .i64 x.kind, .int .i64 x.ack, .string ⟨#[]⟩, .string ⟨#[]⟩, .string ⟨#[]⟩, .int .i64 x.idx, .int .i64 0, .string ⟨#[]⟩, .int .i64 0, .slice none 0 0, .slice none 0 0] 32)).alloc (.cells #[.string ⟨#[]⟩, .string ⟨#[]⟩, .int .i64 0, .int .i64 0, .int .i64 0, .string ⟨#[]⟩, .string ⟨#[]⟩, .string ⟨#[]⟩, .int .i64 0, .int .i64 0, .string ⟨#[]⟩, .int .i64 0, .slice none 0 0, .slice none 0 0] 32)) w.heap.size 32 #[.string x.fr, .string x.dst, .int .i64 x.num, .int .i64 x.kind, .int .i64 x.ack, .string ⟨#[]⟩, .string ⟨#[]⟩, .string ⟨#[]⟩, .int .i64 x.idx, .int .i64 0, .string ⟨#[]⟩, .int .i64 0, .slice none 0 0, .slice none 0 0] := (Blk.new _ _ _).alloc _
  have hR0 : Blk ((w.alloc (.cells #[.string x.fr, .string x.dst, .int .i64 x.num, .int .i64 x.kind, .int .i64 x.ack, .string ⟨#[]⟩, .string ⟨#[]⟩, .string ⟨#[]⟩, .int .i64 x.idx, .int .i64 0, .string ⟨#[]⟩, .int .i64 0, .slice none 0 0, .slice none 0 0] 32)).alloc (.cells #[.string ⟨#[]⟩, .string ⟨#[]⟩, .int .i64 0, .int .i64 0, .int .i64 0, .string ⟨#[]⟩, .string ⟨#[]⟩, .string ⟨#[]⟩, .int .i64 0, .int .i64 0, .string ⟨#[]⟩, .int .i64 0, .slice none 0 0, .slice none 0 0] 32)) (w.heap.size + 1) 32 #[.string ⟨#[]⟩, .string ⟨#[]⟩, .int .i64 0, .int .i64 0, .int .i64 0, .string ⟨#[]⟩, .string ⟨#[]⟩, .string ⟨#[]⟩, .int .i64 0, .int .i64 0, .string ⟨#[]⟩, .int .i64 0, .slice none 0 0, .slice none 0 0] := blk_second _ _ _ _
  go_enter Try.func32, Try.ntmps32
  go_upto_region 1 with (fail)
  obtain ⟨w0, hw0⟩ : ∃ W, ((w.alloc (.cells #[.string x.fr, .string x.dst, .int .i64 x.num, .int .i64 x.kind, .int .i64 x.ack, .string ⟨#[]⟩, .string ⟨#[]⟩, .string ⟨#[]⟩, .int .i64 x.idx, .int .i64 0, .string ⟨#[]⟩, .int .i64 0, .slice none 0 0, .slice none 0 0] 32)).alloc (.cells #[.string ⟨#[]⟩, .string ⟨#[]⟩, .int .i64 0, .int .i64 0, .int .i64 0, .string ⟨#[]⟩, .string ⟨#[]⟩, .string ⟨#[]⟩, .int .i64 0, .int .i64 0, .string ⟨#[]⟩, .int .i64 0, .slice none 0 0, .slice none 0 0] 32)) = W := ⟨_, rfl⟩
  rw [hw0] at hB0 hK0 hR0 ⊢
  obtain ⟨g, hg⟩ : ∃ g, w.heap.size = g := ⟨_, rfl⟩
  simp only [hg]
  rw [hg] at hK0 hR0
  have HG := Lib.hid hg
  clear hg hw0
  have c12 := hK0.cell 12; have f12 := hK0.frozen 12
  simp only [List.getElem?_toArray, List.getElem?_cons_zero, List.getElem?_cons_succ] at c12
  have hK1 : Blk (w0.setCell ⟨g, 12, none⟩ (.slice none 0 0)) g 32 #[.string x.fr, .string x.dst, .int .i64 x.num, .int .i64 x.kind, .int .i64 x.ack, .string ⟨#[]⟩, .string ⟨#[]⟩, .string ⟨#[]⟩, .int .i64 x.idx, .int .i64 0, .string ⟨#[]⟩, .int .i64 0, .slice none 0 0, .slice none 0 0] := hK0.set_ 12 (.slice none 0 0)
  have hR1 : Blk (w0.setCell ⟨g, 12, none⟩ (.slice none 0 0)) (g + 1) 32 #[.string ⟨#[]⟩, .string ⟨#[]⟩, .int .i64 0, .int .i64 0, .int .i64 0, .string ⟨#[]⟩, .string ⟨#[]⟩, .string ⟨#[]⟩, .int .i64 0, .int .i64 0, .string ⟨#[]⟩, .int .i64 0, .slice none 0 0, .slice none 0 0] := hR0.far (p := ⟨g, 12, none⟩) (by simp) _
  have hB1 : Below w.heap.size w (w0.setCell ⟨g, 12, none⟩ (.slice none 0 0)) := hB0.setCell (p := ⟨g, 12, none⟩) (by have := HG.out; simp; omega) _
  have HB1 := Lib.hid hB1; have HK1 := Lib.hid hK1; have HR1 := Lib.hid hR1
  clear hK0 hR0 hB0 hB1 hK1 hR1
  go_wp2_with fail
  refine (clone_docs _).mono ?_
  rintro e w' ⟨rfl, rfl⟩
  go_upto_region 2 with (fail)
  obtain ⟨w1, hw1⟩ : ∃ W, w0.setCell ⟨g, 12, none⟩ (.slice none 0 0) = W := ⟨_, rfl⟩
  rw [hw1] at HB1 HK1 HR1 ⊢
  clear hw1 c12 f12
  have c12 := HK1.out.cell 12; have c13 := HK1.out.cell 13; have f13 := HK1.out.frozen 13
  simp only [List.getElem?_toArray, List.getElem?_cons_zero, List.getElem?_cons_succ] at c12 c13
  go_wp2_with fail
  go_loopw [11] (fun i wr => i = .int .i64 0 ∧ wr = w1) (fun _ _ => 0)
  case atStart => exact ⟨rfl, rfl⟩
  case round =>
  obtain ⟨rfl, rfl⟩ := hrel
  go_wp2_with fail
  refine (clone_strs _).mono ?_
  rintro e w' ⟨rfl, rfl⟩
  go_upto_region 8 with (fail)
  have HB2 : Hid (Below w.heap.size w (wr.setCell ⟨g, 13, none⟩ (.slice none 0 0))) := Lib.hid (HB1.out.setCell (p := ⟨g, 13, none⟩) (by have := HG.out; simp; omega) _)
  have HK2 : Hid (Blk (wr.setCell ⟨g, 13, none⟩ (.slice none 0 0)) g 32 #[.string x.fr, .string x.dst, .int .i64 x.num, .int .i64 x.kind, .int .i64 x.ack, .string ⟨#[]⟩, .string ⟨#[]⟩, .string ⟨#[]⟩, .int .i64 x.idx, .int .i64 0, .string ⟨#[]⟩, .int .i64 0, .slice none 0 0, .slice none 0 0]) := Lib.hid (HK1.out.set_ 13 (.slice none 0 0))
  have HR2 : Hid (Blk (wr.setCell ⟨g, 13, none⟩ (.slice none 0 0)) (g + 1) 32 #[.string ⟨#[]⟩, .string ⟨#[]⟩, .int .i64 0, .int .i64 0, .int .i64 0, .string ⟨#[]⟩, .string ⟨#[]⟩, .string ⟨#[]⟩, .int .i64 0, .int .i64 0, .string ⟨#[]⟩, .int .i64 0, .slice none 0 0, .slice none 0 0]) := Lib.hid (HR1.out.far (p := ⟨g, 13, none⟩) (by simp) _)
  obtain ⟨w2, hw2⟩ : ∃ W, wr.setCell ⟨g, 13, none⟩ (.slice none 0 0) = W := ⟨_, rfl⟩
  rw [hw2] at HB2 HK2 HR2 ⊢
  clear hw2 c12 c13 f13 HB1 HK1 HR1
  go_wp2_with (first | ((refine stop_load 32 _ rfl ?_; refine wpList_load_want rfl 32 _ rfl g rfl 32 _ _ HK2.out Try.underlying32 rfl (by kernel_rfl) ?_)) | (refine stop_store 32 _ _ rfl ?_; refine wpList_store_blk rfl 32 _ _ rfl _ rfl rfl HR2.out (by kernel_rfl) rfl rfl ?_; intro w4 hn4 kn4 bn4))
  have HB4 := bn4 _ _ HB2.out (by have := HG.out; omega)
  have q0 := hn4.cell 0; have q1 := hn4.cell 1; have q2 := hn4.cell 2; have q3 := hn4.cell 3; have q4 := hn4.cell 4; have q5 := hn4.cell 5; have q6 := hn4.cell 6; have q7 := hn4.cell 7; have q8 := hn4.cell 8; have q9 := hn4.cell 9; have q10 := hn4.cell 10; have q11 := hn4.cell 11; have q12 := hn4.cell 12; have q13 := hn4.cell 13
  simp only [List.getElem?_toArray, List.getElem?_cons_zero, List.getElem?_cons_succ] at q0 q1 q2 q3 q4 q5 q6 q7 q8 q9 q10 q11 q12 q13
  refine bodyPost_ret (v := .agg #[.string x.fr, .string x.dst, .int .i64 x.num, .int .i64 x.kind, .int .i64 x.ack, .string ⟨#[]⟩, .string ⟨#[]⟩, .string ⟨#[]⟩, .int .i64 x.idx, .int .i64 0, .string ⟨#[]⟩, .int .i64 0, .slice none 0 0, .slice none 0 0]) (by simp [results, Try.results32, go_sem, q0, q1, q2, q3, q4, q5, q6, q7, q8, q9, q10, q11, q12, q13]) rfl ?_
  exact ⟨rfl, HB4⟩
/-- Its cells, where a letter of a slice lies. -/
theorem lt_at {w : World} {A : Option Addr} {n : Nat} {xs : List Lr} (h : SliceOf w 14 ltC A n xs) {k : Nat} (hk : k < n) : ∃ b off x, A = some ⟨b, off, none⟩ ∧ xs[k]? = some x ∧ ∀ j v, (ltC x)[j]? = some v → w.cell? ⟨b, off + k * 14 + j, none⟩ = some v := by
  have hl := h.len
  obtain ⟨x, hxk⟩ : ∃ x, xs[k]? = some x := ⟨_, List.getElem?_eq_getElem (by omega)⟩
  obtain ⟨b, off, rfl, hb, hc⟩ := h.at_ (by omega)
  exact ⟨b, off, x, rfl, hxk, fun j v hv => by have := hc k _ hxk j v hv; rwa [← Nat.add_assoc] at this⟩
theorem Lr.takeN {xs : List Lr} {k : Nat} {x : Lr} (h : xs[k]? = some x) : xs.take (k + 1) = xs.take k ++ [x] := by rw [List.take_add_one, h]; rfl
set_option maxRecDepth 100000 in
set_option maxHeartbeats 3200000 in
theorem owns_any (A : Option Addr) (n c : Nat) (xs : List Lr) (w : World) (hx : SliceOf w 14 ltC A n xs) (hm : n ≤ 4096) :
    Calls Try.prog 33 #[.slice A n c] w fun e w' => ∃ v, e = .returned v ∧ w'.ownsRow w.heap.size 32 14 v n (xs.flatMap ltC) ∧ Below w.heap.size w w' := by
  have HX := Lib.hid hx
  have hxl := hx.len
  obtain ⟨i0, hi, hz0, hz1, hz2⟩ := info_parts infoLt
  clear hx
  go_enter Try.func33, Try.ntmps33
  go_wp2_with fail
  go_loopw [3, 8] (fun v i wr => ∃ k : Nat, k ≤ n ∧ i = .int .i64 k ∧ Hid (wr.ownsRow w.heap.size 32 14 v k ((xs.take k).flatMap ltC)) ∧ Hid (Below w.heap.size w wr)) (fun _ i _ => n - (intOf i).toNat)
  case atStart => exact ⟨0, by omega, rfl, Lib.hid (World.ownsRow_nil _ _ _ _), Lib.hid (Below.refl _ _)⟩
  case round =>
    obtain ⟨k, hk, rfl, hown, hbw⟩ := hrel
    by_cases hlt : k < n
    · obtain ⟨b, off, x, rfl, hxk, hc⟩ := lt_at (HX.out.below hbw.out) hlt
      have HT := Lib.hid (Lr.takeN hxk)
      have d0 := hc 0 _ rfl; have d1 := hc 1 _ rfl; have d2 := hc 2 _ rfl; have d3 := hc 3 _ rfl; have d4 := hc 4 _ rfl; have d5 := hc 5 _ rfl; have d6 := hc 6 _ rfl; have d7 := hc 7 _ rfl; have d8 := hc 8 _ rfl; have d9 := hc 9 _ rfl; have d10 := hc 10 _ rfl; have d11 := hc 11 _ rfl; have d12 := hc 12 _ rfl; have d13 := hc 13 _ rfl
      rw [Nat.add_zero] at d0
      have i0' : (k : Int) < (n : Int) := by omega
      have HK := Lib.hid (Blk.new wr 32 #[.string x.fr, .string x.dst, .int .i64 x.num, .int .i64 x.kind, .int .i64 x.ack, .string ⟨#[]⟩, .string ⟨#[]⟩, .string ⟨#[]⟩, .int .i64 x.idx, .int .i64 0, .string ⟨#[]⟩, .int .i64 0, .slice none 0 0, .slice none 0 0])
      have HO1 := Lib.hid (hown.out.alloc (.cells #[.string x.fr, .string x.dst, .int .i64 x.num, .int .i64 x.kind, .int .i64 x.ack, .string ⟨#[]⟩, .string ⟨#[]⟩, .string ⟨#[]⟩, .int .i64 x.idx, .int .i64 0, .string ⟨#[]⟩, .int .i64 0, .slice none 0 0, .slice none 0 0] 32))
      have HB1 := Lib.hid (hbw.out.alloc hbw.out.size (.cells #[.string x.fr, .string x.dst, .int .i64 x.num, .int .i64 x.kind, .int .i64 x.ack, .string ⟨#[]⟩, .string ⟨#[]⟩, .string ⟨#[]⟩, .int .i64 x.idx, .int .i64 0, .string ⟨#[]⟩, .int .i64 0, .slice none 0 0, .slice none 0 0] 32))
      clear hxk hc
      go_upto_region 5 with ((refine stop_store 32 _ _ rfl ?_; refine wpList_store_new rfl 32 _ _ rfl _ rfl rfl (by kernel_rfl) rfl rfl ?_))
      obtain ⟨w1, hw1⟩ : ∃ W, wr.alloc (.cells #[.string x.fr, .string x.dst, .int .i64 x.num, .int .i64 x.kind, .int .i64 x.ack, .string ⟨#[]⟩, .string ⟨#[]⟩, .string ⟨#[]⟩, .int .i64 x.idx, .int .i64 0, .string ⟨#[]⟩, .int .i64 0, .slice none 0 0, .slice none 0 0] 32) = W := ⟨_, rfl⟩
      obtain ⟨g, hg⟩ : ∃ g, wr.heap.size = g := ⟨_, rfl⟩
      rw [hw1] at HK HO1 HB1 ⊢
      rw [hg] at HK
      simp only [hg]
      clear hw1 hg d0 d1 d2 d3 d4 d5 d6 d7 d8 d9 d10 d11 d12 d13
      go_wp2_with ((refine stop_load 32 _ rfl ?_; refine wpList_load_want rfl 32 _ rfl g rfl 32 _ _ HK.out Try.underlying32 rfl (by kernel_rfl) ?_))
      refine (own_any x _).mono ?_
      rintro e w2 ⟨rfl, hb2⟩
      have hq0 : 0 < 14 := by omega
      have hq3 : k + 1 ≤ maxLen := by unfold maxLen; omega
      have hq4 : (k + 1) * 192 ≤ 140737488355328 := by omega
      have hq5 := lt_one x
      have HO2 := Lib.hid ((own_kept_below HO1.out hb2).alloc (.cells #[.string x.fr, .string x.dst, .int .i64 x.num, .int .i64 x.kind, .int .i64 x.ack, .string ⟨#[]⟩, .string ⟨#[]⟩, .string ⟨#[]⟩, .int .i64 x.idx, .int .i64 0, .string ⟨#[]⟩, .int .i64 0, .slice none 0 0, .slice none 0 0] 32))
      have HB2 := Lib.hid ((HB1.out.trans (hb2.mono HB1.out.size)).alloc (by have := hb2.size; have := HB1.out.size; omega) (.cells #[.string x.fr, .string x.dst, .int .i64 x.num, .int .i64 x.kind, .int .i64 x.ack, .string ⟨#[]⟩, .string ⟨#[]⟩, .string ⟨#[]⟩, .int .i64 x.idx, .int .i64 0, .string ⟨#[]⟩, .int .i64 0, .slice none 0 0, .slice none 0 0] 32))
      have HSX : Hid (w.heap.size ≤ (w2.alloc (.cells #[.string x.fr, .string x.dst, .int .i64 x.num, .int .i64 x.kind, .int .i64 x.ack, .string ⟨#[]⟩, .string ⟨#[]⟩, .string ⟨#[]⟩, .int .i64 x.idx, .int .i64 0, .string ⟨#[]⟩, .int .i64 0, .slice none 0 0, .slice none 0 0] 32)).heap.size) := Lib.hid (by rw [size_alloc]; have := hb2.size; have := HB1.out.size; omega)
      have HNW := Lib.hid (news_at w2 #[.string x.fr, .string x.dst, .int .i64 x.num, .int .i64 x.kind, .int .i64 x.ack, .string ⟨#[]⟩, .string ⟨#[]⟩, .string ⟨#[]⟩, .int .i64 x.idx, .int .i64 0, .string ⟨#[]⟩, .int .i64 0, .slice none 0 0, .slice none 0 0] 32 w2.heap.size rfl)
      clear hb2
      go_wp2_with (at_builtin; refine wpList_append_own_at _ rfl (.tmp 12) (.tmp 15) 26 rfl w.heap.size 32 i0 _ 14 192 Try.underlying26 hi hz0 hz1 hz2 rfl hq0 _ k _ rfl HO2.out ⟨w2.heap.size, 0, none⟩ 1 1 (ltC x) rfl rfl HNW.out hq5 hq3 hq4 HSX.out ?_; intro v9 w9 hown9 hg9 hl0 hl1; have HB9 := Lib.hid (below_grown_own HB2.out HSX.out HO2.out hg9); have HO9 := Lib.hid hown9; clear hown9 hg9 hl0 hl1)
      go_roundw
      case rel => exact ⟨k + 1, by omega, by go_num, Lib.hid (by rw [HT.out, List.flatMap_append]; simpa using HO9.out), HB9⟩
      case measure => simp [intOf]; omega
    · have hkn : n = k := by omega
      subst hkn
      go_wp2_with fail
      go_ret
      exact ⟨_, rfl, by have := hown.out; rwa [List.take_of_length_le (by omega)] at this, hbw.out⟩
end Go.Proofs.Ytlicmhgpldmliaa.kit
