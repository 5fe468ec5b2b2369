/- Voyages: the legs that may be taken from what was reached, one by one: the iterator. No condition. -/
import Derived.Test.YtlicmhgpldmliaaWyE
import Derived.RangeFuncNested
import Derived.RangeFuncBound
import Derived.RangeFuncCalls
import Derived.RangeFuncLeaves
import Derived.Shelf.Abstract
import Derived.Shelf.RegionOpen
import Derived.WalkKit
import Derived.OwnWalkIn
import Derived.TacticsInMore
import Derived.LoopNIn
import Derived.LoopIn
namespace Go.Proofs.Ytlicmhgpldmliaa.kit
open Go.RowKit Go.Shelf
attribute [local go_sem] Oper.semAt_some
set_option linter.unusedVariables false
set_option linter.unusedSimpArgs false
/-- How a port was reached. -/
structure Stp where
  day : Int
  A : Option Addr
  n : Nat
  c : Nat
  legs : List Lg
abbrev SMap (W : World) (gr n : Nat) (m : ByteArray → Option Stp) : Prop := TMap W gr .string (fun s : ByteArray => .string s) (fun x : Stp => .agg #[.int .i64 x.day, .slice x.A x.n x.c]) n m
/-- A leg that may be taken. -/
def Tak (us : List Vy) (fr : ByteArray) (ch : Int) (m : ByteArray → Option Stp) (l : Lg) : Prop :=
  ∃ v a b s, legA us l = some (v, a, b) ∧ m a.port = some s ∧ (if a.port = fr then s.day else s.day + ch) ≤ a.cut
abbrev TakL (us : List Vy) (fr : ByteArray) (ch : Int) (m : ByteArray → Option Stp) := { l : Lg // Tak us fr ch m l }
/-- What a round of the legs keeps: all cells, and the map of what was reached. -/
structure Kp1 (gr : Nat) (W W' : World) : Prop where
  size : W.heap.size ≤ W'.heap.size
  same : ∀ (k : Nat) (o : Obj), W.heap[k]? = some o → (o.isCells = true ∨ k = gr) → (k = gr → o.isWalk = true) → W'.heap[k]? = some o
theorem Kp1.refl (gr : Nat) (W : World) : Kp1 gr W W := ⟨Nat.le_refl _, fun _ _ h _ _ => h⟩
theorem Kp1.trans {gr : Nat} {A B C : World} (h : Kp1 gr A B) (k : Kp1 gr B C) : Kp1 gr A C := ⟨Nat.le_trans h.size k.size, fun i o hi ho hw => k.same i o (h.same i o hi ho hw) ho hw⟩
theorem Kp1.below {gr : Nat} {A B C : World} (h : Kp1 gr A B) (hb : Below B.heap.size B C) : Kp1 gr A C := h.trans ⟨hb.size, fun k o hk _ _ => (hb.block k (Array.getElem?_eq_some_iff.1 hk).1).trans hk⟩
theorem Kp1.alloc {gr : Nat} {A B : World} (h : Kp1 gr A B) (o : Obj) : Kp1 gr A (B.alloc o) := h.below ((Below.refl _ _).alloc (Nat.le_refl _) o)
theorem Blk.kp {gr : Nat} {W W' : World} {g : Nat} {t : TypeId} {cs : Array Value} (hb : Blk W g t cs) (h : Kp1 gr W W') (hn : g ≠ gr) : Blk W' g t cs := h.same g _ hb (.inl rfl) (fun e => absurd e hn)
theorem cell_kp {gr : Nat} {W W' : World} {p : Addr} {v : Value} (hc : W.cell? p = some v) (h : Kp1 gr W W') (hn : p.block ≠ gr) : W'.cell? p = some v := by
  unfold World.cell? at hc ⊢
  cases ho : W.heap[p.block]? with
  | none => simp [ho] at hc
  | some o =>
    have hcell : o.isCells = true := by cases o <;> simp_all [Obj.isCells]
    rw [h.same _ o ho (.inl hcell) (fun e => absurd e hn)]
    rw [ho] at hc
    exact hc
theorem cell_no_map {W : World} {p : Addr} {v : Value} (hc : W.cell? p = some v) {gr : Nat} {es : Array MapEntry} {ck : Nat} (hm : MapAt W gr es ck) : p.block ≠ gr := by
  intro e
  unfold World.cell? at hc
  unfold MapAt at hm
  rw [e, hm] at hc
  cases hc
theorem SliceOf.kp {α : Type} {C n : Nat} {en : α → List Value} {A : Option Addr} {xs : List α} {gr : Nat} {W W' : World} (hs : SliceOf W C en A n xs) (h : Kp1 gr W W') (hl : ∀ x, 0 < (en x).length) {es : Array MapEntry} {ck : Nat} (hm : MapAt W gr es ck) : SliceOf W' C en A n xs := by
  refine ⟨hs.len, ?_⟩
  rcases hs.cells with h0 | ⟨b, off, rfl, hb, hc⟩
  · exact .inl h0
  · refine .inr ⟨b, off, rfl, Nat.lt_of_lt_of_le hb h.size, fun i x hx j v hv => ?_⟩
    have := hc i x hx j v hv
    exact cell_kp this h (cell_no_map this hm)
theorem Sea.kp {gr : Nat} {W W' : World} {A : Option Addr} {n : Nat} {us : List Vy} (hs : Sea W A n us) (h : Kp1 gr W W') {es : Array MapEntry} {ck : Nat} (hm : MapAt W gr es ck) : Sea W' A n us :=
  ⟨hs.sl.kp h (fun x => by rw [vy_len]; omega) hm, fun v hv => (hs.lie v hv).kp h (fun x => by rw [cl_len]; omega) hm⟩
theorem TMap.kp {κ α : Type} {gr n : Nat} {d : TypeDesc} {kC : κ → Value} {vC : α → Value} {m : κ → Option α} {W W' : World} (ht : TMap W gr d kC vC n m) (h : Kp1 gr W W') : TMap W' gr d kC vC n m := by
  obtain ⟨es, ck, ys, h1, h2⟩ := ht
  exact ⟨es, ck, ys, h.same gr _ h1 (.inr rfl) (fun _ => rfl), h2⟩
theorem TMap.mapAt {κ α : Type} {gr n : Nat} {d : TypeDesc} {kC : κ → Value} {vC : α → Value} {m : κ → Option α} {W : World} (ht : TMap W gr d kC vC n m) : ∃ es ck, MapAt W gr es ck := by
  obtain ⟨es, ck, ys, h1, _⟩ := ht
  exact ⟨es, ck, h1⟩
theorem zero_st (u : World) : (zeroValue 97).run Try.prog u = .ok (.agg #[.int .i64 0, .slice none 0 0]) u := by kernel_rfl
theorem _root_.Go.AbidesFrom.alloc' {α : Type} {J : List α → World → Prop} {B : Nat} (hJ : AbidesFrom B J) {s : List α} {W : World} (h : J s W) (hB : B ≤ W.heap.size) (o : Obj) : J s (W.alloc o) := hJ s W _ none h (World.grownBy_alloc W o none) (fun r e => by cases e)
theorem bytes_ext {a b : ByteArray} (h : a.toList = b.toList) : a = b := by
  rw [ByteArray.toList_eq, ByteArray.toList_eq] at h
  exact ByteArray.ext (Array.toList_inj.1 h)
set_option maxRecDepth 100000 in
set_option maxHeartbeats 6400000 in
theorem round_stops (k0 : Nat) (A : Option Addr) (n c : Nat) (us : List Vy) (fr : ByteArray) (ch : Int) (b1 b2 gr nm : Nat) (m : ByteArray → Option Stp) (w : World) (h1 : Blk w b1 94 #[.slice A n c, .string fr, .int .i64 ch]) (h2 : Blk w b2 98 #[.map (some gr)]) (hm : SMap w gr nm m) (hs : Sea w A n us) (hn : n ≤ 6) (hu : ∀ v ∈ us, v.n ≤ 8) (hch : 0 ≤ ch ∧ ch ≤ 255) (hd : ∀ p s, m p = some s → 0 ≤ s.day ∧ s.day ≤ 1048576) :
    SeqStopsK Fence.wide (k0 + 2) Try.prog 78 #[(.pointer (some ⟨b1, 0, none⟩)), (.pointer (some ⟨b2, 0, none⟩))] (fun x : TakL us fr ch m => #[Value.agg #[.int .i64 x.1.v, .int .i64 x.1.f, .int .i64 x.1.t]]) (Kp1 gr) (fun _ => True) (fun _ => True) 400 w := fun l J Jx W hW hJ hJx hY h0 => by
  have HK1 := Lib.hid (h1.below hW h1.lt)
  have HK2 := Lib.hid (h2.below hW h2.lt)
  have HMM := Lib.hid (hm.below hW hm.lt)
  have HSS := Lib.hid (hs.below hW)
  have HYY := Lib.hid hY
  have HJJ := Lib.hid hJ
  have HDD := Lib.hid hd
  have HUU := Lib.hid hu
  have HN1 := Lib.hid (fun e => (hm.ne_blk h1 (e : b1 = gr).symm).elim : b1 ≠ gr)
  have HN2 := Lib.hid (fun e => (hm.ne_blk h2 (e : b2 = gr).symm).elim : b2 ≠ gr)
  clear h1 h2 hm hs hY hJ hJx hd hu hW
  refine callsIn_of_wp Try.func78 rfl trivial ?_ rfl
  simp only [Try.ntmps78, List.size_toArray, List.length_cons, List.length_nil, Nat.reduceAdd, Nat.reduceSub, Array.replicate_succ, Array.replicate_zero, List.push_toArray, List.append_toArray, List.nil_append, List.cons_append]
  have s0 := HK1.out.cell 0
  simp only [List.getElem?_toArray, List.getElem?_cons_zero] at s0
  gi_wp2
  gi_loopw [15] (fun i wr => ∃ (k : Nat) (pre : List (TakL us fr ch m)), k ≤ n ∧ i = .int .i64 k ∧ Hid (pre.length ≤ k * 64) ∧ Hid (J pre wr) ∧ Hid (Kp1 gr W wr)) (fun i _ => n - (intOf i).toNat)
  case atStart => exact ⟨0, [], by omega, rfl, Lib.hid (by simp), Lib.hid h0, Lib.hid (Kp1.refl _ _)⟩
  case round =>
    obtain ⟨k, pre, hk, rfl, HPL, HJ0, HKP⟩ := hrel
    clear h0 s0
    by_cases hlt : k < n
    · obtain ⟨es, ck, hma⟩ := HMM.out.mapAt
      have HMA := Lib.hid hma
      have hS := HSS.out.kp HKP.out hma
      obtain ⟨b, off, v, rfl, hvk, hc⟩ := vy_at hS.sl hlt
      have HVK := Lib.hid hvk
      have hun := HUU.out v (List.mem_of_getElem? hvk)
      have HLI := Lib.hid (hS.lie v (List.mem_of_getElem? hvk))
      obtain ⟨ship, vA, vn, vc, calls⟩ := v
      have d0 := hc 0 _ rfl; have d1 := hc 1 _ rfl
      rw [Nat.add_zero] at d0
      dsimp only at d0 d1 hun HLI
      have hkn : (k : Int) < (n : Int) := by omega
      have HV1 := Lib.hid (Blk.new wr 48 #[.string ship, .slice vA vn vc])
      have HKP1 := Lib.hid (HKP.out.alloc (.cells #[.string ship, .slice vA vn vc] 48))
      have HJ1 := Lib.hid (HJJ.out.alloc' HJ0.out HKP.out.size (.cells #[.string ship, .slice vA vn vc] 48))
      clear hc hvk hS hma
      have HVL := Lib.hid (HSS.out.lie _ (List.mem_of_getElem? HVK.out))
      dsimp only at HVL
      gi_wp2
      obtain ⟨w2, hw2⟩ : ∃ W, wr.alloc (.cells #[.string ship, .slice vA vn vc] 48) = W := ⟨_, rfl⟩
      obtain ⟨g5, hg5⟩ : ∃ q, wr.heap.size = q := ⟨_, rfl⟩
      rw [hw2] at HV1 HKP1 HJ1 ⊢
      rw [hg5] at HV1
      simp only [hg5]
      clear hw2 hg5 d0 d1 HLI HKP HJ0
      have HN5 := Lib.hid (show g5 ≠ gr from fun e => by
        have h1 := HMA.out
        have h2 := HKP1.out.same gr _ h1 (.inr rfl) (fun _ => rfl)
        have h3 := HV1.out
        unfold Blk at h3
        rw [e, h2] at h3
        cases h3)
      gi_loopw [23] (fun i wm => ∃ (f : Nat) (pre : List (TakL us fr ch m)), f ≤ vn ∧ i = .int .i64 f ∧ Hid (pre.length ≤ k * 64 + f * 8) ∧ Hid (J pre wm) ∧ Hid (Kp1 gr W wm) ∧ Hid (Blk wm g5 48 #[.string ship, .slice vA vn vc])) (fun i _ => vn - (intOf i).toNat)
      case atStart => exact ⟨0, pre, by omega, rfl, Lib.hid (by have := HPL.out; omega), HJ1, HKP1, HV1⟩
      case round =>
        clear HPL HJ1 HKP1 HV1
        obtain ⟨f, pre, hf, rfl, HPL, HJ1, HKP1, HV1⟩ := hrel
        by_cases hlf : f < vn
        · obtain ⟨b', off', x, rfl, hxk, hc⟩ := cl_at (HVL.out.kp HKP1.out (fun x => by rw [cl_len]; omega) HMA.out) hlf
          have HXK := Lib.hid hxk
          obtain ⟨port, cut, arr, dep⟩ := x
          have d0 := hc 0 _ rfl; have d1 := hc 1 _ rfl; have d2 := hc 2 _ rfl; have d3 := hc 3 _ rfl
          rw [Nat.add_zero] at d0
          dsimp only at d0 d1 d2 d3
          have hfn : (f : Int) < (vn : Int) := by omega
          have HKP2 := Lib.hid (HKP1.out.alloc (.cells #[.string port, .int .i64 cut, .int .i64 arr, .int .i64 dep] 50))
          have HJ2 := Lib.hid (HJJ.out.alloc' HJ1.out HKP1.out.size (.cells #[.string port, .int .i64 cut, .int .i64 arr, .int .i64 dep] 50))
          have HV2 := Lib.hid (HV1.out.alloc (.cells #[.string port, .int .i64 cut, .int .i64 arr, .int .i64 dep] 50))
          have HC2 := Lib.hid (Blk.new wr 50 #[.string port, .int .i64 cut, .int .i64 arr, .int .i64 dep])
          have s1 := (HK1.out.kp HKP2.out HN1.out).cell 1
          have s2 := (HK1.out.kp HKP2.out HN1.out).cell 2
          have p0 := (HK2.out.kp HKP2.out HN2.out).cell 0
          simp only [List.getElem?_toArray, List.getElem?_cons_zero, List.getElem?_cons_succ] at s1 s2 p0
          have hlk := (HMM.out.kp HKP2.out).look keyStr (mty := 98) Try.underlying98 Try.underlying9 _ zero_st port true
          have hmf : f + 1 ≤ vn := by omega
          have hwf : IntKind.i64.wrap ((f : Int) + 1) = ((f + 1 : Nat) : Int) := IntWalk.i64_in _ (by omega)
          clear hc hxk
          cases hq : m port with
          | none =>
            rw [hq] at hlk
            simp only [Option.map_none, Option.getD_none, Option.isSome_none, if_true] at hlk
            have HKP3 := Lib.hid (HKP2.out.alloc (.cells #[.int .i64 0, .slice none 0 0] 97))
            have HJ3 := Lib.hid (HJJ.out.alloc' HJ2.out HKP2.out.size (.cells #[.int .i64 0, .slice none 0 0] 97))
            have HV3 := Lib.hid (HV2.out.alloc (.cells #[.int .i64 0, .slice none 0 0] 97))
            clear HKP1 HJ1 HV1 HKP2 HJ2 HV2
            gi_wp2
            go_roundw
            case rel => exact ⟨f + 1, pre, by omega, by go_num, Lib.hid (by have := HPL.out; omega), HJ3, HKP3, HV3⟩
            case measure => simp [intOf]; omega
          | some s =>
            rw [hq] at hlk
            simp only [Option.map_some, Option.getD_some, Option.isSome_some, if_true] at hlk
            obtain ⟨e1, e2⟩ := HDD.out port s hq
            have HQ := Lib.hid hq
            obtain ⟨day, sA, sn, sc, legs⟩ := s
            dsimp only at e1 e2 hlk
            have HKP3 := Lib.hid (HKP2.out.alloc (.cells #[.int .i64 day, .slice sA sn sc] 97))
            have HJ3 := Lib.hid (HJJ.out.alloc' HJ2.out HKP2.out.size (.cells #[.int .i64 day, .slice sA sn sc] 97))
            have HV3 := Lib.hid (HV2.out.alloc (.cells #[.int .i64 day, .slice sA sn sc] 97))
            have HC3 := Lib.hid (HC2.out.alloc (.cells #[.int .i64 day, .slice sA sn sc] 97))
            have hwd : IntKind.i64.wrap (day + ch) = day + ch := IntWalk.i64_in _ (by omega)
            have HLA := Lib.hid (fun (q : Nat) (y : Cl) (h1 : calls[q]? = some y) (h2 : f < q) => (legA_some (l := ⟨k, f, q⟩)).2 ⟨HVK.out, HXK.out, h1, h2⟩)
            have HTK : Hid (∀ (q : Nat) (y : Cl), calls[q]? = some y → f < q → (if port = fr then day else day + ch) ≤ cut → Tak us fr ch m ⟨k, f, q⟩) := Lib.hid (fun q y h1 h2 h3 => ⟨_, _, _, _, HLA.out q y h1 h2, HQ.out, h3⟩)
            have HCL := Lib.hid HVL.out.len
            have s1 := (HK1.out.kp HKP3.out HN1.out).cell 1
            have s2 := (HK1.out.kp HKP3.out HN1.out).cell 2
            have q0 := HC3.out.cell 0; have q1 := HC3.out.cell 1
            simp only [List.getElem?_toArray, List.getElem?_cons_zero, List.getElem?_cons_succ] at s1 s2 q0 q1
            clear HKP1 HJ1 HV1 HKP2 HJ2 HV2 HC2 HQ hq HLA
            by_cases hpf : port = fr
            · subst hpf
              have tq : (port.toList == port.toList) = true := by simp
              have tq' : (port.toList != port.toList) = false := by simp
              rw [if_pos rfl] at HTK
              by_cases hcr : cut < day
              · gi_wp2
                go_roundw
                case rel => exact ⟨f + 1, pre, by omega, by go_num, Lib.hid (by have := HPL.out; omega), HJ3, HKP3, HV3⟩
                case measure => simp [intOf]; omega
              have hcr' : day ≤ cut := by omega
              gi_wp2
              obtain ⟨w3, hw3⟩ : ∃ W, (wr.alloc (.cells #[.string port, .int .i64 cut, .int .i64 arr, .int .i64 dep] 50)).alloc (.cells #[.int .i64 day, .slice sA sn sc] 97) = W := ⟨_, rfl⟩
              rw [hw3] at HKP3 HJ3 HV3 ⊢
              clear hw3 s1 s2 q0 q1 p0 hlk d0 d1 d2 d3 HC3
              have HCR := Lib.hid hcr'
              clear hcr hcr'
              gi_loopw [11] (fun i wi => ∃ (q : Nat) (pre : List (TakL us port ch m)), f + 1 ≤ q ∧ q ≤ vn ∧ i = .int .i64 q ∧ Hid (pre.length ≤ k * 64 + f * 8 + (q - (f + 1))) ∧ Hid (J pre wi) ∧ Hid (Kp1 gr W wi) ∧ Hid (Blk wi g5 48 #[.string ship, .slice (some ⟨b', off', none⟩) vn vc])) (fun i _ => vn - (intOf i).toNat)
              case atStart => exact ⟨f + 1, pre, by omega, by omega, rfl, Lib.hid (by have := HPL.out; omega), HJ3, HKP3, HV3⟩
              case round =>
                clear HPL HJ3 HKP3 HV3
                obtain ⟨q, pre, hq1, hq2, rfl, HPL, HJ3, HKP3, HV3⟩ := hrel
                have v1 := HV3.out.cell 1
                simp only [List.getElem?_toArray, List.getElem?_cons_zero, List.getElem?_cons_succ] at v1
                by_cases hqv : q < vn
                · have hqv' : (q : Int) < (vn : Int) := by omega
                  have hwq : IntKind.i64.wrap ((q : Int) + 1) = ((q + 1 : Nat) : Int) := IntWalk.i64_in _ (by omega)
                  obtain ⟨y, hy0⟩ : ∃ y, calls[q]? = some y := ⟨_, List.getElem?_eq_getElem (by have := HCL.out; omega)⟩
                  have htk := HTK.out q y hy0 (by omega) HCR.out
                  clear hy0
                  obtain ⟨fn, tmps, assign, body, hy, hR⟩ := HYY.out pre ⟨⟨k, f, q⟩, htk⟩ wr HJ3.out (by have := HPL.out; omega)
                  dsimp only at hy
                  have HR := Lib.hid hR
                  have HQ9 : Hid (∀ x : TakL us port ch m, (pre ++ [x]).length ≤ k * 64 + f * 8 + (q + 1 - (f + 1))) := Lib.hid (fun x => by have := HPL.out; rw [List.length_append]; simp; omega)
                  clear hR
                  gi_wp2
                  refine HR.out.mono ?_
                  rintro e w4 (⟨rfl, hJ', hk'⟩ | ⟨rfl, hJx'⟩)
                  · have HJ4 := Lib.hid hJ'
                    have HKP4 := Lib.hid (HKP3.out.trans hk')
                    have HV4 := Lib.hid (HV3.out.kp hk' HN5.out)
                    clear hJ' hk' v1 hy
                    gi_wp2
                    go_roundw
                    case rel => exact ⟨q + 1, _, by omega, by omega, by go_num, Lib.hid (HQ9.out _), HJ4, HKP4, HV4⟩
                    case measure => simp [intOf]; omega
                  · have HJx4 := Lib.hid hJx'
                    clear hJx' v1 hy
                    gi_wp2
                    refine bodyPost_ret (results_none rfl _ _ _) rfl ?_
                    exact ⟨⟨_, rfl⟩, .inr ⟨_, trivial, HJx4.out⟩⟩
                · have hqk : vn = q := by omega
                  subst hqk
                  gi_wp2
                  go_roundw
                  case rel => exact ⟨f + 1, pre, by omega, by go_num, Lib.hid (by have := HPL.out; omega), HJ3, HKP3, HV3⟩
                  case measure => simp [intOf]; omega
            · have tq : (port.toList == fr.toList) = false := by rw [beq_eq_false_iff_ne]; intro e; exact hpf (bytes_ext e)
              have tq' : (port.toList != fr.toList) = true := by rw [bne_iff_ne]; intro e; exact hpf (bytes_ext e)
              rw [if_neg hpf] at HTK
              by_cases hcr : cut < day + ch
              · gi_wp2
                go_roundw
                case rel => exact ⟨f + 1, pre, by omega, by go_num, Lib.hid (by have := HPL.out; omega), HJ3, HKP3, HV3⟩
                case measure => simp [intOf]; omega
              have hcr' : day + ch ≤ cut := by omega
              gi_wp2
              obtain ⟨w3, hw3⟩ : ∃ W, (wr.alloc (.cells #[.string port, .int .i64 cut, .int .i64 arr, .int .i64 dep] 50)).alloc (.cells #[.int .i64 day, .slice sA sn sc] 97) = W := ⟨_, rfl⟩
              rw [hw3] at HKP3 HJ3 HV3 ⊢
              clear hw3 s1 s2 q0 q1 p0 hlk d0 d1 d2 d3 HC3
              have HCR := Lib.hid hcr'
              clear hcr hcr'
              gi_loopw [11] (fun i wi => ∃ (q : Nat) (pre : List (TakL us fr ch m)), f + 1 ≤ q ∧ q ≤ vn ∧ i = .int .i64 q ∧ Hid (pre.length ≤ k * 64 + f * 8 + (q - (f + 1))) ∧ Hid (J pre wi) ∧ Hid (Kp1 gr W wi) ∧ Hid (Blk wi g5 48 #[.string ship, .slice (some ⟨b', off', none⟩) vn vc])) (fun i _ => vn - (intOf i).toNat)
              case atStart => exact ⟨f + 1, pre, by omega, by omega, rfl, Lib.hid (by have := HPL.out; omega), HJ3, HKP3, HV3⟩
              case round =>
                clear HPL HJ3 HKP3 HV3
                obtain ⟨q, pre, hq1, hq2, rfl, HPL, HJ3, HKP3, HV3⟩ := hrel
                have v1 := HV3.out.cell 1
                simp only [List.getElem?_toArray, List.getElem?_cons_zero, List.getElem?_cons_succ] at v1
                by_cases hqv : q < vn
                · have hqv' : (q : Int) < (vn : Int) := by omega
                  have hwq : IntKind.i64.wrap ((q : Int) + 1) = ((q + 1 : Nat) : Int) := IntWalk.i64_in _ (by omega)
                  obtain ⟨y, hy0⟩ : ∃ y, calls[q]? = some y := ⟨_, List.getElem?_eq_getElem (by have := HCL.out; omega)⟩
                  have htk := HTK.out q y hy0 (by omega) HCR.out
                  clear hy0
                  obtain ⟨fn, tmps, assign, body, hy, hR⟩ := HYY.out pre ⟨⟨k, f, q⟩, htk⟩ wr HJ3.out (by have := HPL.out; omega)
                  dsimp only at hy
                  have HR := Lib.hid hR
                  have HQ9 : Hid (∀ x : TakL us fr ch m, (pre ++ [x]).length ≤ k * 64 + f * 8 + (q + 1 - (f + 1))) := Lib.hid (fun x => by have := HPL.out; rw [List.length_append]; simp; omega)
                  clear hR
                  gi_wp2
                  refine HR.out.mono ?_
                  rintro e w4 (⟨rfl, hJ', hk'⟩ | ⟨rfl, hJx'⟩)
                  · have HJ4 := Lib.hid hJ'
                    have HKP4 := Lib.hid (HKP3.out.trans hk')
                    have HV4 := Lib.hid (HV3.out.kp hk' HN5.out)
                    clear hJ' hk' v1 hy
                    gi_wp2
                    go_roundw
                    case rel => exact ⟨q + 1, _, by omega, by omega, by go_num, Lib.hid (HQ9.out _), HJ4, HKP4, HV4⟩
                    case measure => simp [intOf]; omega
                  · have HJx4 := Lib.hid hJx'
                    clear hJx' v1 hy
                    gi_wp2
                    refine bodyPost_ret (results_none rfl _ _ _) rfl ?_
                    exact ⟨⟨_, rfl⟩, .inr ⟨_, trivial, HJx4.out⟩⟩
                · have hqk : vn = q := by omega
                  subst hqk
                  gi_wp2
                  go_roundw
                  case rel => exact ⟨f + 1, pre, by omega, by go_num, Lib.hid (by have := HPL.out; omega), HJ3, HKP3, HV3⟩
                  case measure => simp [intOf]; omega
        · have hfk : vn = f := by omega
          subst hfk
          gi_wp2
          go_roundw
          case rel => exact ⟨k + 1, pre, by omega, by go_num, Lib.hid (by have := HPL.out; omega), HJ1, HKP1⟩
          case measure => simp [intOf]; omega
    · have hkn : n = k := by omega
      subst hkn
      gi_wp2
      go_end0
      exact ⟨⟨_, rfl⟩, .inl ⟨pre, trivial, HJ0.out⟩⟩
end Go.Proofs.Ytlicmhgpldmliaa.kit
