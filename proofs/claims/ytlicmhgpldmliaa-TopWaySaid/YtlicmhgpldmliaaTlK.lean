/- The closure that takes a letter and counts what it brings. No condition. -/
import Derived.Test.YtlicmhgpldmliaaTlJ
namespace Go.Proofs.Ytlicmhgpldmliaa.kit
open Go.RowKit
set_option linter.unusedVariables false

/-- Letters numbered on from T, each with its index. -/
def Good (T : Int) (ys : List Lr) : Prop := ∀ (i : Nat) (y : Lr), ys[i]? = some y → y.num = T + 1 + i ∧ y.idx = (T + 1 + i) % 3
/-- What the closure asks of Take. -/
def TakeQ (bp tp bg : Nat) (T : Int) (Post : Nat → World → Prop) (B : Nat) (e : Ending) (w' : World) : Prop :=
  ∃ v k ys, e = .returned (.tuple #[v, .bool true]) ∧ w'.ownsRow B 32 14 v k (ys.flatMap ltC) ∧ ys.length = k ∧ k ≤ 64 ∧ Good T ys ∧ Blk w' tp 3 #[.int .i64 T] ∧ Post k w'
def CloQ (tp : Nat) (T : Int) (Post : Nat → World → Prop) (e : Ending) (w' : World) : Prop :=
  e = .returned (.bool true) ∧ ∃ (k : Nat) (w1 : World), Post k w1 ∧ Fr (fun q => q = tp) w1 w' ∧ Blk w' tp 3 #[.int .i64 (T + k)] ∧ k ≤ 64
set_option maxRecDepth 100000 in
set_option maxHeartbeats 3200000 in
theorem clo_any (bp tp bg : Nat) (T : Int) (Post : Nat → World → Prop) (x : Lr) (w : World) (hb : Blk w bp 24 #[(.pointer (some ⟨bg, 0, none⟩))]) (hT : 0 ≤ T ∧ T ≤ 100000)
    (HQ : ∀ W, Below w.heap.size w W → Calls Try.prog 9 #[(.pointer (some ⟨bg, 0, none⟩)), .agg #[.string x.fr, .string x.dst, .int .i64 x.num, .int .i64 x.kind, .int .i64 x.ack, .string ⟨#[]⟩, .string ⟨#[]⟩, .string ⟨#[]⟩, .int .i64 x.idx, .int .i64 0, .string ⟨#[]⟩, .int .i64 0, .slice none 0 0, .slice none 0 0]] W (TakeQ bp tp bg T Post w.heap.size)) :
    Calls Try.prog 8 #[.agg #[.string x.fr, .string x.dst, .int .i64 x.num, .int .i64 x.kind, .int .i64 x.ack, .string ⟨#[]⟩, .string ⟨#[]⟩, .string ⟨#[]⟩, .int .i64 x.idx, .int .i64 0, .string ⟨#[]⟩, .int .i64 0, .slice none 0 0, .slice none 0 0], (.pointer (some ⟨bp, 0, none⟩)), (.pointer (some ⟨tp, 0, none⟩))] w (CloQ tp T Post) := by
  have HB0 := Lib.hid (one_alloc w (.cells #[.string x.fr, .string x.dst, .int .i64 x.num, .int .i64 x.kind, .int .i64 x.ack, .string ⟨#[]⟩, .string ⟨#[]⟩, .string ⟨#[]⟩, .int .i64 x.idx, .int .i64 0, .string ⟨#[]⟩, .int .i64 0, .slice none 0 0, .slice none 0 0] 32))
  have hL0 := Lib.hid (Blk.new w 32 #[.string x.fr, .string x.dst, .int .i64 x.num, .int .i64 x.kind, .int .i64 x.ack, .string ⟨#[]⟩, .string ⟨#[]⟩, .string ⟨#[]⟩, .int .i64 x.idx, .int .i64 0, .string ⟨#[]⟩, .int .i64 0, .slice none 0 0, .slice none 0 0])
  have hK0 := Lib.hid (hb.alloc (.cells #[.string x.fr, .string x.dst, .int .i64 x.num, .int .i64 x.kind, .int .i64 x.ack, .string ⟨#[]⟩, .string ⟨#[]⟩, .string ⟨#[]⟩, .int .i64 x.idx, .int .i64 0, .string ⟨#[]⟩, .int .i64 0, .slice none 0 0, .slice none 0 0] 32))
  have HQ1 := Lib.hid HQ
  have HT := Lib.hid hT
  obtain ⟨i0, hi, hz0, hz1, hz2⟩ := info_parts infoLt
  clear HQ hb hT
  go_enter Try.func8, Try.ntmps8
  go_upto_region 1 with (fail)
  obtain ⟨w0, hw0⟩ : ∃ W, (w.alloc (.cells #[.string x.fr, .string x.dst, .int .i64 x.num, .int .i64 x.kind, .int .i64 x.ack, .string ⟨#[]⟩, .string ⟨#[]⟩, .string ⟨#[]⟩, .int .i64 x.idx, .int .i64 0, .string ⟨#[]⟩, .int .i64 0, .slice none 0 0, .slice none 0 0] 32)) = W := ⟨_, rfl⟩
  obtain ⟨gl, hgl⟩ : ∃ gl, w.heap.size = gl := ⟨_, rfl⟩
  rw [hw0] at hK0 hL0 HB0 ⊢
  have HGL := Lib.hid hgl
  rw [hgl] at hL0
  simp only [hgl]
  clear hw0 hgl
  have k0 := hK0.out.cell 0
  simp only [List.getElem?_toArray, List.getElem?_cons_zero] at k0
  go_wp2_with ((refine stop_load 32 _ rfl ?_; refine wpList_load_want rfl 32 _ rfl gl rfl 32 _ _ hL0.out Try.underlying32 rfl (by kernel_rfl) ?_))
  refine (HQ1.out _ HB0.out).mono ?_
  rintro e w1 ⟨v, k, ys, rfl, hv, hyl, hk64, hgood, htp, hpost⟩
  obtain ⟨A, c, rfl⟩ := own_slice hv
  have HV := Lib.hid hv
  have HYL := Lib.hid hyl
  have HK64 := Lib.hid hk64
  have HGD := Lib.hid hgood
  have HTP := Lib.hid htp
  have HPO := Lib.hid hpost
  clear hv hyl hk64 hgood htp hpost k0 hK0 hL0 HB0 HQ1
  go_wp2_with fail
  go_loopw [6, 17] (fun okv i wr => ∃ q : Nat, q ≤ k ∧ okv = .bool true ∧ i = .int .i64 q ∧ Hid (Fr (fun j => j = tp) w1 wr) ∧ Hid (Blk wr tp 3 #[.int .i64 (T + q)])) (fun _ i _ => k - (intOf i).toNat)
  case atStart => exact ⟨0, by omega, rfl, rfl, Lib.hid (Fr.refl _ _), Lib.hid (by simpa using HTP.out)⟩
  case round =>
    obtain ⟨q, hq, rfl, rfl, hfr, htp⟩ := hrel
    by_cases hlt : q < k
    · have hrow := own_fr HV.out hfr.out (fun j hj e => own_blk_ne HV.out HTP.out (by decide) (by rw [hj, e]))
      obtain ⟨b, off, y, rfl, hyk, hc⟩ := lt_at (SliceOf.of_own_s hrow lt_len rfl HYL.out) hlt
      obtain ⟨g1, g2⟩ := HGD.out q y hyk
      have HG1 := Lib.hid g1
      have HG2 := Lib.hid g2
      have d0 := hc 0 _ rfl; have d1 := hc 1 _ rfl; have d2 := hc 2 _ rfl; have d3 := hc 3 _ rfl; have d4 := hc 4 _ rfl; have d5 := hc 5 _ rfl; have d6 := hc 6 _ rfl; have d7 := hc 7 _ rfl; have d8 := hc 8 _ rfl; have d9 := hc 9 _ rfl; have d10 := hc 10 _ rfl; have d11 := hc 11 _ rfl; have d12 := hc 12 _ rfl; have d13 := hc 13 _ rfl
      rw [Nat.add_zero] at d0
      have HSZ := Lib.hid htp.out.lt
      have HK := Lib.hid (Blk.new wr 32 #[.string y.fr, .string y.dst, .int .i64 y.num, .int .i64 y.kind, .int .i64 y.ack, .string ⟨#[]⟩, .string ⟨#[]⟩, .string ⟨#[]⟩, .int .i64 y.idx, .int .i64 0, .string ⟨#[]⟩, .int .i64 0, .slice none 0 0, .slice none 0 0])
      have HTA := Lib.hid (htp.out.alloc (.cells #[.string y.fr, .string y.dst, .int .i64 y.num, .int .i64 y.kind, .int .i64 y.ack, .string ⟨#[]⟩, .string ⟨#[]⟩, .string ⟨#[]⟩, .int .i64 y.idx, .int .i64 0, .string ⟨#[]⟩, .int .i64 0, .slice none 0 0, .slice none 0 0] 32))
      have HFA := Lib.hid (hfr.out.alloc (.cells #[.string y.fr, .string y.dst, .int .i64 y.num, .int .i64 y.kind, .int .i64 y.ack, .string ⟨#[]⟩, .string ⟨#[]⟩, .string ⟨#[]⟩, .int .i64 y.idx, .int .i64 0, .string ⟨#[]⟩, .int .i64 0, .slice none 0 0, .slice none 0 0] 32))
      clear hrow hyk hc g1 g2
      have i0' : (q : Int) < (k : Int) := by omega
      go_upto_region 5 with ((refine stop_store 32 _ _ rfl ?_; refine wpList_store_new rfl 32 _ _ rfl _ rfl rfl (by kernel_rfl) rfl rfl ?_))
      obtain ⟨w2, hw2⟩ : ∃ W, wr.alloc (.cells #[.string y.fr, .string y.dst, .int .i64 y.num, .int .i64 y.kind, .int .i64 y.ack, .string ⟨#[]⟩, .string ⟨#[]⟩, .string ⟨#[]⟩, .int .i64 y.idx, .int .i64 0, .string ⟨#[]⟩, .int .i64 0, .slice none 0 0, .slice none 0 0] 32) = W := ⟨_, rfl⟩
      obtain ⟨g, hg⟩ : ∃ g, wr.heap.size = g := ⟨_, rfl⟩
      rw [hw2] at HK HTA HFA ⊢
      rw [hg] at HK HSZ
      simp only [hg]
      clear hw2 hg d0 d1 d2 d3 d4 d5 d6 d7 d8 d9 d10 d11 d12 d13
      have t0 := HTA.out.cell 0; have tf := HTA.out.frozen 0
      simp only [List.getElem?_toArray, List.getElem?_cons_zero] at t0
      have q1 : IntKind.i64.wrap (T + q + 1) = T + q + 1 := IntWalk.i64_in _ (by have := HT.out; have := HK64.out; omega)
      go_upto_region 6 with (fail)
      have HT3 : Hid (Blk (w2.setCell ⟨tp, 0, none⟩ (.int .i64 (T + q + 1))) tp 3 #[.int .i64 (T + q + 1)]) := Lib.hid (HTA.out.set_ 0 (.int .i64 (T + q + 1)))
      have HK3 : Hid (Blk (w2.setCell ⟨tp, 0, none⟩ (.int .i64 (T + q + 1))) g 32 #[.string y.fr, .string y.dst, .int .i64 y.num, .int .i64 y.kind, .int .i64 y.ack, .string ⟨#[]⟩, .string ⟨#[]⟩, .string ⟨#[]⟩, .int .i64 y.idx, .int .i64 0, .string ⟨#[]⟩, .int .i64 0, .slice none 0 0, .slice none 0 0]) := Lib.hid (HK.out.far (p := ⟨tp, 0, none⟩) (by have := HSZ.out; simp; omega) _)
      have HF3 : Hid (Fr (fun j => j = tp) w1 (w2.setCell ⟨tp, 0, none⟩ (.int .i64 (T + q + 1)))) := Lib.hid (HFA.out.setCell (p := ⟨tp, 0, none⟩) (.inl rfl) _)
      obtain ⟨w3, hw3⟩ : ∃ W, w2.setCell ⟨tp, 0, none⟩ (.int .i64 (T + q + 1)) = W := ⟨_, rfl⟩
      rw [hw3] at HT3 HK3 HF3 ⊢
      clear hw3 t0 tf
      have t0 := HT3.out.cell 0
      have k2 := HK3.out.cell 2; have k8 := HK3.out.cell 8
      simp only [List.getElem?_toArray, List.getElem?_cons_zero, List.getElem?_cons_succ] at t0 k2 k8
      rw [HG1.out, show T + 1 + (q : Int) = T + q + 1 by omega] at k2
      rw [HG2.out, show T + 1 + (q : Int) = T + q + 1 by omega] at k8
      have q2 : (T + q + 1).tmod 3 = (T + q + 1) % 3 := Int.tmod_eq_emod_of_nonneg (by have := HT.out; omega)
      have hk6 := HK64.out
      have q3 : wrap64 ((q : Int) + 1) = (q : Int) + 1 := by unfold wrap64; omega
      go_wp2_with fail
      go_roundw
      case rel => exact ⟨q + 1, by omega, rfl, by go_num, HF3, Lib.hid (by have := HT3.out; rw [show T + ((q + 1 : Nat) : Int) = T + q + 1 by omega]; exact this)⟩
      case measure => simp [intOf]; omega
    · have hkn : k = q := by omega
      subst hkn
      have HR : Hid (CloQ tp T Post (.returned (.bool true)) wr) := Lib.hid ⟨rfl, k, w1, HPO.out, hfr.out, htp.out, HK64.out⟩
      go_wp2_with fail
      go_ret
      exact HR.out
end Go.Proofs.Ytlicmhgpldmliaa.kit
