/- Voyages: the ports that a round reaches anew. No condition. -/
import Derived.Test.YtlicmhgpldmliaaWyF
import Derived.Test.YtlicmhgpldmliaaWyR
namespace Go.Proofs.Ytlicmhgpldmliaa.kit
open Go.RowKit Go.Shelf
attribute [local go_sem] Oper.semAt_some
set_option linter.unusedVariables false
set_option linter.unusedSimpArgs false
theorem round_any (A : Option Addr) (n c : Nat) (fr : ByteArray) (ch : Int) (gr : Nat) (w : World) :
    Calls Try.prog 60 #[.agg #[.slice A n c, .string fr, .int .i64 ch], .map (some gr)] w fun e w' => e = .returned (.func (.func 78) #[] #[(.pointer (some ⟨w.heap.size, 0, none⟩)), (.pointer (some ⟨(w.heap.size + 1), 0, none⟩))]) ∧ w' = (w.alloc (.cells #[.slice A n c, .string fr, .int .i64 ch] 94)).alloc (.cells #[.map (some gr)] 98) := by
  go_enter Try.func60, Try.ntmps60
  go_wp2_with fail
  go_ret
  exact ⟨rfl, rfl⟩
abbrev GMap (W : World) (gf n : Nat) (m : ByteArray → Option Lg) : Prop := TMap W gf .string (fun s : ByteArray => .string s) (fun x : Lg => .agg #[.int .i64 x.v, .int .i64 x.f, .int .i64 x.t]) n m
/-- Ports, each with a leg that reaches it. -/
def Fre (us : List Vy) (fr : ByteArray) (ch : Int) (m : ByteArray → Option Stp) (mf : ByteArray → Option Lg) : Prop :=
  ∀ p l, mf p = some l → Tak us fr ch m l ∧ ∃ v a b, legA us l = some (v, a, b) ∧ b.port = p ∧ p ≠ fr
def AnewP (us : List Vy) (fr : ByteArray) (ch : Int) (m : ByteArray → Option Stp) (w : World) (e : Ending) (w' : World) : Prop :=
  ∃ gf nf mf, e = .returned (.map (some gf)) ∧ w.heap.size ≤ gf ∧ GMap w' gf nf mf ∧ Fre us fr ch m mf ∧ Below w.heap.size w w'
theorem zero_lg (u : World) : (zeroValue 60).run Try.prog u = .ok (.agg #[.int .i64 0, .int .i64 0, .int .i64 0]) u := by kernel_rfl
theorem gmake (w : World) : (Instr.makeMap 99 none).run Try.prog w = .ok (.map (some w.heap.size)) (w.alloc (.map #[] 0)) := by kernel_rfl
theorem keeps_of {gf B : Nat} {W W' : World} (hf : Fr (fun k => k = gf) W W') (h : gf < B) : KeepsFrom B W W' := ⟨hf.size, fun k o hk h0 ho => (hf.block k (Array.getElem?_eq_some_iff.1 h0).1 (fun e => by omega)).trans h0⟩
theorem kp_of {gf gr : Nat} {W W' : World} (hf : Fr (fun k => k = gf) W W') {es : Array MapEntry} {ck : Nat} (hm : MapAt W gf es ck) (hne : gf ≠ gr) : Kp1 gr W W' := ⟨hf.size, fun k o hk hor hw => by
  refine (hf.block k (Array.getElem?_eq_some_iff.1 hk).1 (fun e => ?_)).trans hk
  subst e
  rcases hor with h | h
  · unfold MapAt at hm
    rw [hm] at hk
    cases hk
    cases h
  · exact hne h⟩
theorem kp_put {gr B : Nat} (W : World) (l : Nat) (o o' : Obj) (hl : B ≤ l) (h : W.heap[l]? = some o) (hc : o.isCells = false) (hw : o.isWalk = false) : Kp1 gr W (W.putObj l o') := ⟨by simp, fun k o2 hk hor hwk => by
  by_cases e : k = l
  · subst e
    rw [h] at hk
    injection hk with hk
    subst hk
    rcases hor with q | q
    · rw [hc] at q; cases q
    · rw [hwk q] at hw; cases hw
  · exact (World.putObj_heap_other e).trans hk⟩
theorem TMap.ne_kind {κ α : Type} {gf gr n nm : Nat} {kC : κ → Value} {vC : α → Value} {d : TypeDesc} {mm : κ → Option α} {W W' : World} (h : TMap W' gf d kC vC n mm) (hb : W.heap.size ≤ gf) (hr : gr < W.heap.size) : gf ≠ gr := by omega
set_option maxRecDepth 100000 in
set_option maxHeartbeats 6400000 in
theorem anew_any (A : Option Addr) (n c : Nat) (us : List Vy) (fr : ByteArray) (ch : Int) (gr nm : Nat) (m : ByteArray → Option Stp) (w : World) (hm : SMap w gr nm m) (hs : Sea w A n us) (hn : n ≤ 6) (hu : ∀ v ∈ us, v.n ≤ 8) (hch : 0 ≤ ch ∧ ch ≤ 255) (hd : ∀ p s, m p = some s → 0 ≤ s.day ∧ s.day ≤ 1048576) :
    Calls Try.prog 36 #[.agg #[.slice A n c, .string fr, .int .i64 ch], .map (some gr)] w (AnewP us fr ch m w) := by
  refine (callsIn_wide (n := 6)).1 ?_
  refine callsIn_of_wp_marks Try.func36 rfl trivial ?_ rfl
  simp only [Try.ntmps36, List.size_toArray, List.length_cons, List.length_nil, Nat.reduceAdd, Nat.reduceSub, Array.replicate_succ, Array.replicate_zero, List.push_toArray, List.append_toArray, List.nil_append, List.cons_append]
  have hgm := gmake
  gi_wp2_with (refine ⟨trivial, ?_⟩; gi_at_call 60; refine (callsIn_wide.2 (round_any A n c fr ch gr _)).mono ?_; rintro e w' ⟨rfl, rfl⟩)
  obtain ⟨g, hg⟩ : ∃ g, w.heap.size = g := ⟨_, rfl⟩
  have z1 : ∀ a : Nat, a + 1 + 1 = a + 2 := fun _ => rfl
  simp only [hg]
  obtain ⟨wa, hwa⟩ : ∃ W, w.alloc (.cells #[.slice A n c, .string fr, .int .i64 ch] 94) = W := ⟨_, rfl⟩
  rw [hwa]
  obtain ⟨wb, hwb⟩ : ∃ W, wa.alloc (.cells #[.map (some gr)] 98) = W := ⟨_, rfl⟩
  rw [hwb]
  obtain ⟨wc, hwc⟩ : ∃ W, wb.alloc (.map #[] 0) = W := ⟨_, rfl⟩
  rw [hwc]
  obtain ⟨wd, hwd⟩ : ∃ W, wc.alloc (.cells #[.map (some (g + 1 + 1))] 99) = W := ⟨_, rfl⟩
  rw [hwd]
  obtain ⟨we, hwe⟩ : ∃ W, wd.alloc (.cells #[.slice A n c, .string fr, .int .i64 ch] 94) = W := ⟨_, rfl⟩
  rw [hwe]
  obtain ⟨w0, hw0⟩ : ∃ W, we.alloc (.cells #[.map (some gr)] 98) = W := ⟨_, rfl⟩
  rw [hw0]
  have ya : wa.heap.size = g + 1 := by rw [← hwa, sz_alloc, hg]
  have yb : wb.heap.size = g + 2 := by rw [← hwb, sz_alloc, ya]
  have yc : wc.heap.size = g + 3 := by rw [← hwc, sz_alloc, yb]
  have yd : wd.heap.size = g + 4 := by rw [← hwd, sz_alloc, yc]
  have ye : we.heap.size = g + 5 := by rw [← hwe, sz_alloc, yd]
  have y0 : w0.heap.size = g + 6 := by rw [← hw0, sz_alloc, ye]
  have ba : Below wa.heap.size wa w0 := by
    rw [← hw0, ← hwe, ← hwd, ← hwc, ← hwb]
    exact ((((((Below.refl _ _).alloc (Nat.le_refl _) _).alloc (by rw [sz_alloc]; omega) _).alloc (by rw [sz_alloc, sz_alloc]; omega) _).alloc (by rw [sz_alloc, sz_alloc, sz_alloc]; omega) _).alloc (by rw [sz_alloc, sz_alloc, sz_alloc, sz_alloc]; omega) _)
  have bb : Below wb.heap.size wb w0 := by
    rw [← hw0, ← hwe, ← hwd, ← hwc]
    exact (((((Below.refl _ _).alloc (Nat.le_refl _) _).alloc (by rw [sz_alloc]; omega) _).alloc (by rw [sz_alloc, sz_alloc]; omega) _).alloc (by rw [sz_alloc, sz_alloc, sz_alloc]; omega) _)
  have bc : Below wc.heap.size wc w0 := by
    rw [← hw0, ← hwe, ← hwd]
    exact ((((Below.refl _ _).alloc (Nat.le_refl _) _).alloc (by rw [sz_alloc]; omega) _).alloc (by rw [sz_alloc, sz_alloc]; omega) _)
  have bd : Below wd.heap.size wd w0 := by
    rw [← hw0, ← hwe]
    exact (((Below.refl _ _).alloc (Nat.le_refl _) _).alloc (by rw [sz_alloc]; omega) _)
  have be : Below we.heap.size we w0 := by
    rw [← hw0]
    exact ((Below.refl _ _).alloc (Nat.le_refl _) _)
  have HB0 : Hid (Below w.heap.size w w0) := Lib.hid ((show Below w.heap.size w wa by rw [← hwa]; exact one_alloc _ _).trans (ba.mono (by omega)))
  have HK2 := Lib.hid ((show Blk wa g 94 #[.slice A n c, .string fr, .int .i64 ch] by rw [← hwa]; exact Blk.new_at _ _ _ _ hg.symm).below ba (by omega))
  have HK3 := Lib.hid ((show Blk wb (g + 1) 98 #[.map (some gr)] by rw [← hwb]; exact Blk.new_at _ _ _ _ ya.symm).below bb (by omega))
  have HGF := Lib.hid ((show GMap wc (g + 2) 0 (fun _ => none) by rw [← hwc, ← yb]; exact TMap.made wb _ _ _).below bc (by omega))
  have HK5 := Lib.hid ((show Blk wd (g + 3) 99 #[.map (some (g + 2))] by rw [← hwd]; exact Blk.new_at _ _ _ _ yc.symm).below bd (by omega))
  have HB1 := Lib.hid ((show Blk we (g + 4) 94 #[.slice A n c, .string fr, .int .i64 ch] by rw [← hwe]; exact Blk.new_at _ _ _ _ yd.symm).below be (by omega))
  have HB2 : Hid (Blk w0 (g + 5) 98 #[.map (some gr)]) := Lib.hid (by rw [← hw0]; exact Blk.new_at _ _ _ _ ye.symm)
  have hgr : gr < g := by have := hm.lt; omega
  have HM0 := Lib.hid (hm.below HB0.out hm.lt)
  have HS0 := Lib.hid (hs.below HB0.out)
  have HDD := Lib.hid hd
  have HUU := Lib.hid hu
  have HG := Lib.hid hg
  clear ba bb bc bd be hwa hwb hwc hwd hwe hw0 hm hs hd hu ya yb yc yd ye hgm hg
  have hlg : g + 1 + 1 + 1 + 1 + 1 = g + 5 := rfl
  refine wpIn_rangeFunc_ownH rfl (by omega) (gf := 78) (lb := #[(.pointer (some ⟨(g + 4), 0, none⟩)), (.pointer (some ⟨(g + 5), 0, none⟩))]) rfl trivial (enters_of Try.func78 (by kernel_rfl) rfl)
    (round_stops 3 A n c us fr ch (g + 4) (g + 5) gr nm m w0 HB1.out HB2.out HM0.out HS0.out hn HUU.out hch HDD.out) (fun h k => h.trans k) (fun W l o o' => kp_put W l o o') (Below.refl _ _) (fun _ => rfl)
    (fun pre W => (∃ nf mf, GMap W (g + 2) nf mf ∧ Fre us fr ch m mf) ∧ Fr (fun k => k = g + 2) w0 W)
    (fun _ _ _ => False)
    (fun s A B row hs hg hr => ⟨hs.1.elim fun nf h => h.elim fun mf h => ⟨nf, mf, h.1.kept hg (fun e => by have := (hr _ e.symm).1; omega), h.2⟩, hs.2.grown hg (fun k e => .inr (hr k e).1)⟩)
    (fun _ _ _ _ _ hs _ _ => hs)
    ⟨⟨0, _, HGF.out, fun p l h => by cases h⟩, Fr.refl _ _⟩
    (fun x a' W => ∃ bx, w0.heap.size ≤ bx ∧ Blk W bx 60 #[.int .i64 x.1.v, .int .i64 x.1.f, .int .i64 x.1.t] ∧ a' = { tmps := #[.agg #[.slice A n c, .string fr, .int .i64 ch], .map (some gr), (.pointer (some ⟨g, 0, none⟩)), (.pointer (some ⟨(g + 1), 0, none⟩)), .map none, (.pointer (some ⟨(g + 3), 0, none⟩)), (.pointer (some ⟨bx, 0, none⟩)), undef, undef, undef, undef, undef, .map (some (g + 2)), .agg #[.slice A n c, .string fr, .int .i64 ch], .map (some gr), .func (.func 78) #[] #[(.pointer (some ⟨(g + 4), 0, none⟩)), (.pointer (some ⟨(g + 5), 0, none⟩))], .agg #[.int .i64 x.1.v, .int .i64 x.1.f, .int .i64 x.1.t], undef, undef, undef, undef, undef, undef, undef, undef, undef, undef, undef, undef, undef, undef, undef, undef, undef, undef, undef, undef, undef, undef, undef, undef, undef, undef, undef, undef, undef, undef, undef, undef, undef, undef, undef, undef, undef, undef, undef, undef, undef, undef, undef, undef, undef], defers := [] })
    (fun x a' s A B row hs hg hr => hs.elim fun bx h => ⟨bx, h.1, h.2.1.grown hg (fun e => by
      obtain ⟨_, o, ho, hc⟩ := hr bx e.symm
      have h2 := h.2.1
      unfold Blk at h2
      rw [ho] at h2
      injection h2 with h2
      subst h2
      cases hc), h.2.2⟩) ?assign ?body ?done ?stop
  case assign =>
    rintro l pre x W K hI hK
    gi_wp2
    refine hK _ _ (keeps_of (gf := g + 2) ((Fr.refl _ W).alloc _) (by omega)) ((Kp1.refl _ _).alloc _) ⟨hI.1.elim fun nf h => h.elim fun mf h => ⟨nf, mf, h.1.alloc _, h.2⟩, hI.2.alloc _⟩ ⟨W.heap.size, hI.2.size, Blk.new W _ _, rfl⟩
  case body =>
    rintro l pre x a' W hl ⟨r, hr⟩ ⟨⟨nf, mf, hgm, hfre⟩, hfr⟩ ⟨bx, hbx, hbk, rfl⟩ hlt
    obtain ⟨lg, htk⟩ := x
    dsimp only at hbk ⊢
    have HTK := Lib.hid htk
    obtain ⟨v, a, b, s, hla, hma, hcut⟩ := HTK.out
    have HLA := Lib.hid hla
    obtain ⟨es, ck, hmaw⟩ := hgm.mapAt
    obtain ⟨es0, ck0, hma0⟩ := HGF.out.mapAt
    obtain ⟨es1, ck1, hma1⟩ := HM0.out.mapAt
    have hkp : Kp1 gr w0 W := kp_of hfr hma0 (by omega)
    have HMAW := Lib.hid hmaw
    have HSW := Lib.hid (HS0.out.kp hkp hma1)
    have HMW := Lib.hid (HM0.out.kp hkp)
    have HK2W := Lib.hid (HK2.out.fr hfr (by omega))
    have HK3W := Lib.hid (HK3.out.fr hfr (by omega))
    have HK5W := Lib.hid (HK5.out.fr hfr (by omega))
    have HGW := Lib.hid hgm
    have HFE := Lib.hid hfre
    have HFR := Lib.hid hfr
    have HBK := Lib.hid hbk
    have HLW := Lib.hid (Nat.le_trans (Nat.le_of_eq y0.symm) hfr.size)
    clear hla hma hcut hma0 hma1 hkp hgm hfre hfr hbk hmaw hr
    have c0 := HK2W.out.cell 0; have c1 := HK2W.out.cell 1; have c2 := HK2W.out.cell 2
    have x0 := HBK.out.cell 0; have x1 := HBK.out.cell 1; have x2 := HBK.out.cell 2
    simp only [List.getElem?_toArray, List.getElem?_cons_zero, List.getElem?_cons_succ] at c0 c1 c2 x0 x1 x2
    by_cases hpf : b.port = fr
    · have tq : (b.port.toList == fr.toList) = true := by rw [hpf]; simp
      clear hpf
      gi_wp2_with ((refine ⟨trivial, ?_⟩; gi_at_call 38; refine (CallsIn.inRound l (callsIn_wide.2 (arrive_any A n c us fr ch lg v a b _ HSW.out HLA.out))).mono ?_; rintro e w1 ⟨rfl, hb1⟩; have HX2 : Hid (Below W.heap.size W (w1.alloc (.cells #[.string b.port, .int .i64 b.cut, .int .i64 b.arr, .int .i64 b.dep] 50))) := Lib.hid (hb1.alloc hb1.size _); have s1 := (HK2W.out.below HX2.out HK2W.out.lt).cell 1; have r0 := (HK3W.out.below HX2.out HK3W.out.lt).cell 0; have HT2 : Hid (Blk (w1.alloc (.cells #[.string b.port, .int .i64 b.cut, .int .i64 b.arr, .int .i64 b.dep] 50)) w1.heap.size 50 #[.string b.port, .int .i64 b.cut, .int .i64 b.arr, .int .i64 b.dep]) := Lib.hid (Blk.new _ _ _); have hlk := (HMW.out.below HX2.out HMW.out.lt).look keyStr (mty := 98) Try.underlying98 Try.underlying9 _ zero_st b.port true; simp only [List.getElem?_toArray, List.getElem?_cons_zero, List.getElem?_cons_succ] at s1 r0))
      exact ⟨keeps_of (gf := g + 2) (Fr.of_below HX2.out (Nat.le_refl _)) (by omega), kp_of (gf := g + 2) (Fr.of_below HX2.out (Nat.le_refl _)) HMAW.out (by omega), ⟨nf, mf, HGW.out.below HX2.out HGW.out.lt, HFE.out⟩, HFR.out.trans (Fr.of_below (S := fun k => k = g + 2) HX2.out (Nat.le_refl _)) (fun k hk => .inl hk)⟩
    have tq : (b.port.toList == fr.toList) = false := by rw [beq_eq_false_iff_ne]; intro e; exact hpf (bytes_ext e)
    have HPF := Lib.hid hpf
    clear hpf
    cases hq : m b.port with
    | some st =>
      obtain ⟨day, sA, sn, sc, legs⟩ := st
      by_cases hda : day ≤ b.arr
      · gi_wp2_with ((refine ⟨trivial, ?_⟩; gi_at_call 38; refine (CallsIn.inRound l (callsIn_wide.2 (arrive_any A n c us fr ch lg v a b _ HSW.out HLA.out))).mono ?_; rintro e w1 ⟨rfl, hb1⟩; have HX2 : Hid (Below W.heap.size W (w1.alloc (.cells #[.string b.port, .int .i64 b.cut, .int .i64 b.arr, .int .i64 b.dep] 50))) := Lib.hid (hb1.alloc hb1.size _); have s1 := (HK2W.out.below HX2.out HK2W.out.lt).cell 1; have r0 := (HK3W.out.below HX2.out HK3W.out.lt).cell 0; have HT2 : Hid (Blk (w1.alloc (.cells #[.string b.port, .int .i64 b.cut, .int .i64 b.arr, .int .i64 b.dep] 50)) w1.heap.size 50 #[.string b.port, .int .i64 b.cut, .int .i64 b.arr, .int .i64 b.dep]) := Lib.hid (Blk.new _ _ _); have hlk := (HMW.out.below HX2.out HMW.out.lt).look keyStr (mty := 98) Try.underlying98 Try.underlying9 _ zero_st b.port true; simp only [List.getElem?_toArray, List.getElem?_cons_zero, List.getElem?_cons_succ] at s1 r0); rw [hq] at hlk; simp only [Option.map_some, Option.getD_some, Option.isSome_some, if_true] at hlk; skip; have HX3 : Hid (Below W.heap.size W ((w1.alloc (.cells #[.string b.port, .int .i64 b.cut, .int .i64 b.arr, .int .i64 b.dep] 50)).alloc (.cells #[.int .i64 day, (.slice sA sn sc)] 97))) := Lib.hid (HX2.out.alloc HX2.out.size _); have HT3 : Hid (Blk ((w1.alloc (.cells #[.string b.port, .int .i64 b.cut, .int .i64 b.arr, .int .i64 b.dep] 50)).alloc (.cells #[.int .i64 day, (.slice sA sn sc)] 97)) w1.heap.size 50 #[.string b.port, .int .i64 b.cut, .int .i64 b.arr, .int .i64 b.dep]) := Lib.hid (HT2.out.alloc _); have k5 := (HK5W.out.below HX3.out HK5W.out.lt).cell 0; have t0 := HT3.out.cell 0; have t2 := HT3.out.cell 2; have hlf := (HGW.out.below HX3.out HGW.out.lt).look keyStr (mty := 99) Try.underlying99 Try.underlying9 _ zero_lg b.port true; simp only [List.getElem?_toArray, List.getElem?_cons_zero, List.getElem?_cons_succ] at k5 t0 t2)
        exact ⟨keeps_of (gf := g + 2) (Fr.of_below HX3.out (Nat.le_refl _)) (by omega), kp_of (gf := g + 2) (Fr.of_below HX3.out (Nat.le_refl _)) HMAW.out (by omega), ⟨nf, mf, HGW.out.below HX3.out HGW.out.lt, HFE.out⟩, HFR.out.trans (Fr.of_below (S := fun k => k = g + 2) HX3.out (Nat.le_refl _)) (fun k hk => .inl hk)⟩
      · have hda' : ¬ day ≤ b.arr := hda
        clear hda
        cases hf : mf b.port with
        | none =>
          gi_wp2_with ((refine ⟨trivial, ?_⟩; gi_at_call 38; refine (CallsIn.inRound l (callsIn_wide.2 (arrive_any A n c us fr ch lg v a b _ HSW.out HLA.out))).mono ?_; rintro e w1 ⟨rfl, hb1⟩; have HX2 : Hid (Below W.heap.size W (w1.alloc (.cells #[.string b.port, .int .i64 b.cut, .int .i64 b.arr, .int .i64 b.dep] 50))) := Lib.hid (hb1.alloc hb1.size _); have s1 := (HK2W.out.below HX2.out HK2W.out.lt).cell 1; have r0 := (HK3W.out.below HX2.out HK3W.out.lt).cell 0; have HT2 : Hid (Blk (w1.alloc (.cells #[.string b.port, .int .i64 b.cut, .int .i64 b.arr, .int .i64 b.dep] 50)) w1.heap.size 50 #[.string b.port, .int .i64 b.cut, .int .i64 b.arr, .int .i64 b.dep]) := Lib.hid (Blk.new _ _ _); have hlk := (HMW.out.below HX2.out HMW.out.lt).look keyStr (mty := 98) Try.underlying98 Try.underlying9 _ zero_st b.port true; simp only [List.getElem?_toArray, List.getElem?_cons_zero, List.getElem?_cons_succ] at s1 r0); rw [hq] at hlk; simp only [Option.map_some, Option.getD_some, Option.isSome_some, if_true] at hlk; skip; have HX3 : Hid (Below W.heap.size W ((w1.alloc (.cells #[.string b.port, .int .i64 b.cut, .int .i64 b.arr, .int .i64 b.dep] 50)).alloc (.cells #[.int .i64 day, (.slice sA sn sc)] 97))) := Lib.hid (HX2.out.alloc HX2.out.size _); have HT3 : Hid (Blk ((w1.alloc (.cells #[.string b.port, .int .i64 b.cut, .int .i64 b.arr, .int .i64 b.dep] 50)).alloc (.cells #[.int .i64 day, (.slice sA sn sc)] 97)) w1.heap.size 50 #[.string b.port, .int .i64 b.cut, .int .i64 b.arr, .int .i64 b.dep]) := Lib.hid (HT2.out.alloc _); have k5 := (HK5W.out.below HX3.out HK5W.out.lt).cell 0; have t0 := HT3.out.cell 0; have t2 := HT3.out.cell 2; have hlf := (HGW.out.below HX3.out HGW.out.lt).look keyStr (mty := 99) Try.underlying99 Try.underlying9 _ zero_lg b.port true; simp only [List.getElem?_toArray, List.getElem?_cons_zero, List.getElem?_cons_succ] at k5 t0 t2; rw [hf] at hlf; simp only [Option.map_none, Option.getD_none, Option.isSome_none, if_true] at hlf)
          have HX4 : Hid (Below W.heap.size W (((w1.alloc (.cells #[.string b.port, .int .i64 b.cut, .int .i64 b.arr, .int .i64 b.dep] 50)).alloc (.cells #[.int .i64 day, (.slice sA sn sc)] 97)).alloc (.cells #[.int .i64 0, .int .i64 0, .int .i64 0] 60))) := Lib.hid (HX3.out.alloc HX3.out.size _)
          have HT4 : Hid (Blk (((w1.alloc (.cells #[.string b.port, .int .i64 b.cut, .int .i64 b.arr, .int .i64 b.dep] 50)).alloc (.cells #[.int .i64 day, (.slice sA sn sc)] 97)).alloc (.cells #[.int .i64 0, .int .i64 0, .int .i64 0] 60)) w1.heap.size 50 #[.string b.port, .int .i64 b.cut, .int .i64 b.arr, .int .i64 b.dep]) := Lib.hid (HT3.out.alloc _)
          obtain ⟨w4, hw4⟩ : ∃ W, ((w1.alloc (.cells #[.string b.port, .int .i64 b.cut, .int .i64 b.arr, .int .i64 b.dep] 50)).alloc (.cells #[.int .i64 day, (.slice sA sn sc)] 97)).alloc (.cells #[.int .i64 0, .int .i64 0, .int .i64 0] 60) = W := ⟨_, rfl⟩
          rw [hw4] at HX4 HT4 ⊢
          clear hw4 k5 t0 t2 hlk hlf s1 r0 HX2 HX3 HT2 HT3 c0 c1 c2 x0 x1 x2
          refine wpInR_region_quiet_below (by kernel_rfl) (by kernel_rfl) (by kernel_rfl) ?_
          repeat (go_big_quiet_step (fail))
          refine wpQuiet_nil ?_
          intro w5 hb5
          have HX5 : Hid (Below W.heap.size W w5) := Lib.hid (HX4.out.trans (hb5.mono HX4.out.size))
          have t0 := (HT4.out.below hb5 HT4.out.lt).cell 0
          simp only [List.getElem?_toArray, List.getElem?_cons_zero, List.getElem?_cons_succ] at t0
          clear hb5
          obtain ⟨w6, hup, hg6, hgr6, hsz6⟩ := (HGW.out.below HX5.out HGW.out.lt).put keyStr (mty := 99) Try.underlying99 Try.underlying9 b.port lg
          have HG6 := Lib.hid hg6
          have HFE6 : Hid (Fr (fun k => k = g + 2) W w6) := Lib.hid ((Fr.of_below HX5.out (Nat.le_refl _)).grown hgr6 (fun k hk => by injection hk with hk; exact .inl hk.symm))
          have HFP : Hid (Fre us fr ch m (putF mf b.port lg)) := Lib.hid (fun p l hp => by
            unfold putF at hp
            by_cases e : p = b.port
            · rw [if_pos e] at hp
              injection hp with hp
              subst hp
              exact ⟨HTK.out, v, a, b, HLA.out, e.symm, fun h => HPF.out (e.symm.trans h)⟩
            · rw [if_neg e] at hp
              exact HFE.out p l hp)
          have k5 := (HK5W.out.below HX5.out HK5W.out.lt).cell 0
          have x0 := (HBK.out.below HX5.out HBK.out.lt).cell 0; have x1 := (HBK.out.below HX5.out HBK.out.lt).cell 1; have x2 := (HBK.out.below HX5.out HBK.out.lt).cell 2
          simp only [List.getElem?_toArray, List.getElem?_cons_zero, List.getElem?_cons_succ] at k5 x0 x1 x2
          clear hg6 hgr6 hsz6
          gi_wp2
          exact ⟨keeps_of (gf := g + 2) HFE6.out (by omega), kp_of (gf := g + 2) HFE6.out HMAW.out (by omega), ⟨_, _, HG6.out, HFP.out⟩, HFR.out.trans HFE6.out (fun k hk => .inl hk)⟩
        | some best =>
          obtain ⟨htb, v', a', b', hlb, hbp, hpf'⟩ := HFE.out _ _ hf
          have HLB := Lib.hid hlb
          clear htb hlb hbp hpf'
          gi_wp2_with ((refine ⟨trivial, ?_⟩; gi_at_call 38; refine (CallsIn.inRound l (callsIn_wide.2 (arrive_any A n c us fr ch lg v a b _ HSW.out HLA.out))).mono ?_; rintro e w1 ⟨rfl, hb1⟩; have HX2 : Hid (Below W.heap.size W (w1.alloc (.cells #[.string b.port, .int .i64 b.cut, .int .i64 b.arr, .int .i64 b.dep] 50))) := Lib.hid (hb1.alloc hb1.size _); have s1 := (HK2W.out.below HX2.out HK2W.out.lt).cell 1; have r0 := (HK3W.out.below HX2.out HK3W.out.lt).cell 0; have HT2 : Hid (Blk (w1.alloc (.cells #[.string b.port, .int .i64 b.cut, .int .i64 b.arr, .int .i64 b.dep] 50)) w1.heap.size 50 #[.string b.port, .int .i64 b.cut, .int .i64 b.arr, .int .i64 b.dep]) := Lib.hid (Blk.new _ _ _); have hlk := (HMW.out.below HX2.out HMW.out.lt).look keyStr (mty := 98) Try.underlying98 Try.underlying9 _ zero_st b.port true; simp only [List.getElem?_toArray, List.getElem?_cons_zero, List.getElem?_cons_succ] at s1 r0); rw [hq] at hlk; simp only [Option.map_some, Option.getD_some, Option.isSome_some, if_true] at hlk; skip; have HX3 : Hid (Below W.heap.size W ((w1.alloc (.cells #[.string b.port, .int .i64 b.cut, .int .i64 b.arr, .int .i64 b.dep] 50)).alloc (.cells #[.int .i64 day, (.slice sA sn sc)] 97))) := Lib.hid (HX2.out.alloc HX2.out.size _); have HT3 : Hid (Blk ((w1.alloc (.cells #[.string b.port, .int .i64 b.cut, .int .i64 b.arr, .int .i64 b.dep] 50)).alloc (.cells #[.int .i64 day, (.slice sA sn sc)] 97)) w1.heap.size 50 #[.string b.port, .int .i64 b.cut, .int .i64 b.arr, .int .i64 b.dep]) := Lib.hid (HT2.out.alloc _); have k5 := (HK5W.out.below HX3.out HK5W.out.lt).cell 0; have t0 := HT3.out.cell 0; have t2 := HT3.out.cell 2; have hlf := (HGW.out.below HX3.out HGW.out.lt).look keyStr (mty := 99) Try.underlying99 Try.underlying9 _ zero_lg b.port true; simp only [List.getElem?_toArray, List.getElem?_cons_zero, List.getElem?_cons_succ] at k5 t0 t2; rw [hf] at hlf; simp only [Option.map_some, Option.getD_some, Option.isSome_some, if_true] at hlf)
          have HX4 : Hid (Below W.heap.size W (((w1.alloc (.cells #[.string b.port, .int .i64 b.cut, .int .i64 b.arr, .int .i64 b.dep] 50)).alloc (.cells #[.int .i64 day, (.slice sA sn sc)] 97)).alloc (.cells #[.int .i64 best.v, .int .i64 best.f, .int .i64 best.t] 60))) := Lib.hid (HX3.out.alloc HX3.out.size _)
          have HT4 : Hid (Blk (((w1.alloc (.cells #[.string b.port, .int .i64 b.cut, .int .i64 b.arr, .int .i64 b.dep] 50)).alloc (.cells #[.int .i64 day, (.slice sA sn sc)] 97)).alloc (.cells #[.int .i64 best.v, .int .i64 best.f, .int .i64 best.t] 60)) w1.heap.size 50 #[.string b.port, .int .i64 b.cut, .int .i64 b.arr, .int .i64 b.dep]) := Lib.hid (HT3.out.alloc _)
          have HB4 : Hid (Blk (((w1.alloc (.cells #[.string b.port, .int .i64 b.cut, .int .i64 b.arr, .int .i64 b.dep] 50)).alloc (.cells #[.int .i64 day, (.slice sA sn sc)] 97)).alloc (.cells #[.int .i64 best.v, .int .i64 best.f, .int .i64 best.t] 60)) (w1.heap.size + 1 + 1) 60 #[.int .i64 best.v, .int .i64 best.f, .int .i64 best.t]) := Lib.hid (Blk.new_at _ _ _ _ (by rw [sz_alloc, sz_alloc]))
          obtain ⟨w4, hw4⟩ : ∃ W, ((w1.alloc (.cells #[.string b.port, .int .i64 b.cut, .int .i64 b.arr, .int .i64 b.dep] 50)).alloc (.cells #[.int .i64 day, (.slice sA sn sc)] 97)).alloc (.cells #[.int .i64 best.v, .int .i64 best.f, .int .i64 best.t] 60) = W := ⟨_, rfl⟩
          rw [hw4] at HX4 HT4 HB4 ⊢
          clear hw4 k5 t0 t2 hlk hlf s1 r0 HX2 HX3 HT2 HT3 c0 c1 c2 x0 x1 x2
          have HQ : Hid (∀ x : BW w4, Calls Try.prog 38 #[.agg #[.slice A n c, .string fr, .int .i64 ch], .agg #[.int .i64 best.v, .int .i64 best.f, .int .i64 best.t]] (wof x) fun e w' => e = .returned (.agg #[.string b'.port, .int .i64 b'.cut, .int .i64 b'.arr, .int .i64 b'.dep]) ∧ Below (wof x).heap.size (wof x) w') := Lib.hid (fun x => arrive_any A n c us fr ch best v' a' b' (wof x) (HSW.out.below (HX4.out.trans ((wof_below x).mono HX4.out.size))) HLB.out)
          obtain ⟨ag, hag⟩ : ∃ z, (.agg #[.string b'.port, .int .i64 b'.cut, .int .i64 b'.arr, .int .i64 b'.dep] : Value) = z := ⟨_, rfl⟩
          have hfl : ∀ w, (Instr.field 50 ag 2).run Try.prog w = .ok (.int .i64 b'.arr) w := fun w => by rw [← hag]; kernel_rfl
          rw [hag] at HQ
          clear hag
          have s0 := (HK2W.out.below HX4.out HK2W.out.lt).cell 0; have s1 := (HK2W.out.below HX4.out HK2W.out.lt).cell 1; have s2 := (HK2W.out.below HX4.out HK2W.out.lt).cell 2
          have l0 := HB4.out.cell 0; have l1 := HB4.out.cell 1; have l2 := HB4.out.cell 2; have t2 := HT4.out.cell 2
          simp only [List.getElem?_toArray, List.getElem?_cons_zero, List.getElem?_cons_succ] at s0 s1 s2 l0 l1 l2 t2
          have s0' := wof_cell s0; have s1' := wof_cell s1; have s2' := wof_cell s2; have l0' := wof_cell l0; have l1' := wof_cell l1; have l2' := wof_cell l2; have t2' := wof_cell t2
          by_cases hbe : b'.arr ≤ b.arr
          · have hbe' : decide (b'.arr ≤ b.arr) = true := decide_eq_true hbe
            refine wpInR_region_quiet_below (by kernel_rfl) (by kernel_rfl) (by kernel_rfl) ?_
            repeat (go_big_quiet_step ((go_at_call 38; exact quiet_below (HQ.out _))))
            refine wpQuiet_nil ?_
            intro w5 hb5
            have HX5 : Hid (Below W.heap.size W w5) := Lib.hid (HX4.out.trans (hb5.mono HX4.out.size))
            clear s0 s1 s2 l0 l1 l2 t2 s0' s1' s2' l0' l1' l2' t2' hb5
            gi_wp2
            exact ⟨keeps_of (gf := g + 2) (Fr.of_below HX5.out (Nat.le_refl _)) (by omega), kp_of (gf := g + 2) (Fr.of_below HX5.out (Nat.le_refl _)) HMAW.out (by omega), ⟨nf, mf, HGW.out.below HX5.out HGW.out.lt, HFE.out⟩, HFR.out.trans (Fr.of_below (S := fun k => k = g + 2) HX5.out (Nat.le_refl _)) (fun k hk => .inl hk)⟩
          · have hbe' : decide (b'.arr ≤ b.arr) = false := decide_eq_false hbe
            refine wpInR_region_quiet_below (by kernel_rfl) (by kernel_rfl) (by kernel_rfl) ?_
            repeat (go_big_quiet_step ((go_at_call 38; exact quiet_below (HQ.out _))))
            refine wpQuiet_nil ?_
            intro w5 hb5
            have HX5 : Hid (Below W.heap.size W w5) := Lib.hid (HX4.out.trans (hb5.mono HX4.out.size))
            clear s0 s1 s2 l0 l1 l2 t2 s0' s1' s2' l0' l1' l2' t2'
            have t0 := (HT4.out.below hb5 HT4.out.lt).cell 0
            simp only [List.getElem?_toArray, List.getElem?_cons_zero, List.getElem?_cons_succ] at t0
            clear hb5
            obtain ⟨w6, hup, hg6, hgr6, hsz6⟩ := (HGW.out.below HX5.out HGW.out.lt).put keyStr (mty := 99) Try.underlying99 Try.underlying9 b.port lg
            have HG6 := Lib.hid hg6
            have HFE6 : Hid (Fr (fun k => k = g + 2) W w6) := Lib.hid ((Fr.of_below HX5.out (Nat.le_refl _)).grown hgr6 (fun k hk => by injection hk with hk; exact .inl hk.symm))
            have HFP : Hid (Fre us fr ch m (putF mf b.port lg)) := Lib.hid (fun p l hp => by
              unfold putF at hp
              by_cases e : p = b.port
              · rw [if_pos e] at hp
                injection hp with hp
                subst hp
                exact ⟨HTK.out, v, a, b, HLA.out, e.symm, fun h => HPF.out (e.symm.trans h)⟩
              · rw [if_neg e] at hp
                exact HFE.out p l hp)
            have k5 := (HK5W.out.below HX5.out HK5W.out.lt).cell 0
            have x0 := (HBK.out.below HX5.out HBK.out.lt).cell 0; have x1 := (HBK.out.below HX5.out HBK.out.lt).cell 1; have x2 := (HBK.out.below HX5.out HBK.out.lt).cell 2
            simp only [List.getElem?_toArray, List.getElem?_cons_zero, List.getElem?_cons_succ] at k5 x0 x1 x2
            clear hg6 hgr6 hsz6
            gi_wp2
            exact ⟨keeps_of (gf := g + 2) HFE6.out (by omega), kp_of (gf := g + 2) HFE6.out HMAW.out (by omega), ⟨_, _, HG6.out, HFP.out⟩, HFR.out.trans HFE6.out (fun k hk => .inl hk)⟩
    | none =>
      cases hf : mf b.port with
      | none =>
        gi_wp2_with ((refine ⟨trivial, ?_⟩; gi_at_call 38; refine (CallsIn.inRound l (callsIn_wide.2 (arrive_any A n c us fr ch lg v a b _ HSW.out HLA.out))).mono ?_; rintro e w1 ⟨rfl, hb1⟩; have HX2 : Hid (Below W.heap.size W (w1.alloc (.cells #[.string b.port, .int .i64 b.cut, .int .i64 b.arr, .int .i64 b.dep] 50))) := Lib.hid (hb1.alloc hb1.size _); have s1 := (HK2W.out.below HX2.out HK2W.out.lt).cell 1; have r0 := (HK3W.out.below HX2.out HK3W.out.lt).cell 0; have HT2 : Hid (Blk (w1.alloc (.cells #[.string b.port, .int .i64 b.cut, .int .i64 b.arr, .int .i64 b.dep] 50)) w1.heap.size 50 #[.string b.port, .int .i64 b.cut, .int .i64 b.arr, .int .i64 b.dep]) := Lib.hid (Blk.new _ _ _); have hlk := (HMW.out.below HX2.out HMW.out.lt).look keyStr (mty := 98) Try.underlying98 Try.underlying9 _ zero_st b.port true; simp only [List.getElem?_toArray, List.getElem?_cons_zero, List.getElem?_cons_succ] at s1 r0); rw [hq] at hlk; simp only [Option.map_none, Option.getD_none, Option.isSome_none, if_true] at hlk; skip; have HX3 : Hid (Below W.heap.size W ((w1.alloc (.cells #[.string b.port, .int .i64 b.cut, .int .i64 b.arr, .int .i64 b.dep] 50)).alloc (.cells #[.int .i64 0, (.slice none 0 0)] 97))) := Lib.hid (HX2.out.alloc HX2.out.size _); have HT3 : Hid (Blk ((w1.alloc (.cells #[.string b.port, .int .i64 b.cut, .int .i64 b.arr, .int .i64 b.dep] 50)).alloc (.cells #[.int .i64 0, (.slice none 0 0)] 97)) w1.heap.size 50 #[.string b.port, .int .i64 b.cut, .int .i64 b.arr, .int .i64 b.dep]) := Lib.hid (HT2.out.alloc _); have k5 := (HK5W.out.below HX3.out HK5W.out.lt).cell 0; have t0 := HT3.out.cell 0; have t2 := HT3.out.cell 2; have hlf := (HGW.out.below HX3.out HGW.out.lt).look keyStr (mty := 99) Try.underlying99 Try.underlying9 _ zero_lg b.port true; simp only [List.getElem?_toArray, List.getElem?_cons_zero, List.getElem?_cons_succ] at k5 t0 t2; rw [hf] at hlf; simp only [Option.map_none, Option.getD_none, Option.isSome_none, if_true] at hlf)
        have HX4 : Hid (Below W.heap.size W (((w1.alloc (.cells #[.string b.port, .int .i64 b.cut, .int .i64 b.arr, .int .i64 b.dep] 50)).alloc (.cells #[.int .i64 0, (.slice none 0 0)] 97)).alloc (.cells #[.int .i64 0, .int .i64 0, .int .i64 0] 60))) := Lib.hid (HX3.out.alloc HX3.out.size _)
        have HT4 : Hid (Blk (((w1.alloc (.cells #[.string b.port, .int .i64 b.cut, .int .i64 b.arr, .int .i64 b.dep] 50)).alloc (.cells #[.int .i64 0, (.slice none 0 0)] 97)).alloc (.cells #[.int .i64 0, .int .i64 0, .int .i64 0] 60)) w1.heap.size 50 #[.string b.port, .int .i64 b.cut, .int .i64 b.arr, .int .i64 b.dep]) := Lib.hid (HT3.out.alloc _)
        obtain ⟨w4, hw4⟩ : ∃ W, ((w1.alloc (.cells #[.string b.port, .int .i64 b.cut, .int .i64 b.arr, .int .i64 b.dep] 50)).alloc (.cells #[.int .i64 0, (.slice none 0 0)] 97)).alloc (.cells #[.int .i64 0, .int .i64 0, .int .i64 0] 60) = W := ⟨_, rfl⟩
        rw [hw4] at HX4 HT4 ⊢
        clear hw4 k5 t0 t2 hlk hlf s1 r0 HX2 HX3 HT2 HT3 c0 c1 c2 x0 x1 x2
        refine wpInR_region_quiet_below (by kernel_rfl) (by kernel_rfl) (by kernel_rfl) ?_
        repeat (go_big_quiet_step (fail))
        refine wpQuiet_nil ?_
        intro w5 hb5
        have HX5 : Hid (Below W.heap.size W w5) := Lib.hid (HX4.out.trans (hb5.mono HX4.out.size))
        have t0 := (HT4.out.below hb5 HT4.out.lt).cell 0
        simp only [List.getElem?_toArray, List.getElem?_cons_zero, List.getElem?_cons_succ] at t0
        clear hb5
        obtain ⟨w6, hup, hg6, hgr6, hsz6⟩ := (HGW.out.below HX5.out HGW.out.lt).put keyStr (mty := 99) Try.underlying99 Try.underlying9 b.port lg
        have HG6 := Lib.hid hg6
        have HFE6 : Hid (Fr (fun k => k = g + 2) W w6) := Lib.hid ((Fr.of_below HX5.out (Nat.le_refl _)).grown hgr6 (fun k hk => by injection hk with hk; exact .inl hk.symm))
        have HFP : Hid (Fre us fr ch m (putF mf b.port lg)) := Lib.hid (fun p l hp => by
          unfold putF at hp
          by_cases e : p = b.port
          · rw [if_pos e] at hp
            injection hp with hp
            subst hp
            exact ⟨HTK.out, v, a, b, HLA.out, e.symm, fun h => HPF.out (e.symm.trans h)⟩
          · rw [if_neg e] at hp
            exact HFE.out p l hp)
        have k5 := (HK5W.out.below HX5.out HK5W.out.lt).cell 0
        have x0 := (HBK.out.below HX5.out HBK.out.lt).cell 0; have x1 := (HBK.out.below HX5.out HBK.out.lt).cell 1; have x2 := (HBK.out.below HX5.out HBK.out.lt).cell 2
        simp only [List.getElem?_toArray, List.getElem?_cons_zero, List.getElem?_cons_succ] at k5 x0 x1 x2
        clear hg6 hgr6 hsz6
        gi_wp2
        exact ⟨keeps_of (gf := g + 2) HFE6.out (by omega), kp_of (gf := g + 2) HFE6.out HMAW.out (by omega), ⟨_, _, HG6.out, HFP.out⟩, HFR.out.trans HFE6.out (fun k hk => .inl hk)⟩
      | some best =>
        obtain ⟨htb, v', a', b', hlb, hbp, hpf'⟩ := HFE.out _ _ hf
        have HLB := Lib.hid hlb
        clear htb hlb hbp hpf'
        gi_wp2_with ((refine ⟨trivial, ?_⟩; gi_at_call 38; refine (CallsIn.inRound l (callsIn_wide.2 (arrive_any A n c us fr ch lg v a b _ HSW.out HLA.out))).mono ?_; rintro e w1 ⟨rfl, hb1⟩; have HX2 : Hid (Below W.heap.size W (w1.alloc (.cells #[.string b.port, .int .i64 b.cut, .int .i64 b.arr, .int .i64 b.dep] 50))) := Lib.hid (hb1.alloc hb1.size _); have s1 := (HK2W.out.below HX2.out HK2W.out.lt).cell 1; have r0 := (HK3W.out.below HX2.out HK3W.out.lt).cell 0; have HT2 : Hid (Blk (w1.alloc (.cells #[.string b.port, .int .i64 b.cut, .int .i64 b.arr, .int .i64 b.dep] 50)) w1.heap.size 50 #[.string b.port, .int .i64 b.cut, .int .i64 b.arr, .int .i64 b.dep]) := Lib.hid (Blk.new _ _ _); have hlk := (HMW.out.below HX2.out HMW.out.lt).look keyStr (mty := 98) Try.underlying98 Try.underlying9 _ zero_st b.port true; simp only [List.getElem?_toArray, List.getElem?_cons_zero, List.getElem?_cons_succ] at s1 r0); rw [hq] at hlk; simp only [Option.map_none, Option.getD_none, Option.isSome_none, if_true] at hlk; skip; have HX3 : Hid (Below W.heap.size W ((w1.alloc (.cells #[.string b.port, .int .i64 b.cut, .int .i64 b.arr, .int .i64 b.dep] 50)).alloc (.cells #[.int .i64 0, (.slice none 0 0)] 97))) := Lib.hid (HX2.out.alloc HX2.out.size _); have HT3 : Hid (Blk ((w1.alloc (.cells #[.string b.port, .int .i64 b.cut, .int .i64 b.arr, .int .i64 b.dep] 50)).alloc (.cells #[.int .i64 0, (.slice none 0 0)] 97)) w1.heap.size 50 #[.string b.port, .int .i64 b.cut, .int .i64 b.arr, .int .i64 b.dep]) := Lib.hid (HT2.out.alloc _); have k5 := (HK5W.out.below HX3.out HK5W.out.lt).cell 0; have t0 := HT3.out.cell 0; have t2 := HT3.out.cell 2; have hlf := (HGW.out.below HX3.out HGW.out.lt).look keyStr (mty := 99) Try.underlying99 Try.underlying9 _ zero_lg b.port true; simp only [List.getElem?_toArray, List.getElem?_cons_zero, List.getElem?_cons_succ] at k5 t0 t2; rw [hf] at hlf; simp only [Option.map_some, Option.getD_some, Option.isSome_some, if_true] at hlf)
        have HX4 : Hid (Below W.heap.size W (((w1.alloc (.cells #[.string b.port, .int .i64 b.cut, .int .i64 b.arr, .int .i64 b.dep] 50)).alloc (.cells #[.int .i64 0, (.slice none 0 0)] 97)).alloc (.cells #[.int .i64 best.v, .int .i64 best.f, .int .i64 best.t] 60))) := Lib.hid (HX3.out.alloc HX3.out.size _)
        have HT4 : Hid (Blk (((w1.alloc (.cells #[.string b.port, .int .i64 b.cut, .int .i64 b.arr, .int .i64 b.dep] 50)).alloc (.cells #[.int .i64 0, (.slice none 0 0)] 97)).alloc (.cells #[.int .i64 best.v, .int .i64 best.f, .int .i64 best.t] 60)) w1.heap.size 50 #[.string b.port, .int .i64 b.cut, .int .i64 b.arr, .int .i64 b.dep]) := Lib.hid (HT3.out.alloc _)
        have HB4 : Hid (Blk (((w1.alloc (.cells #[.string b.port, .int .i64 b.cut, .int .i64 b.arr, .int .i64 b.dep] 50)).alloc (.cells #[.int .i64 0, (.slice none 0 0)] 97)).alloc (.cells #[.int .i64 best.v, .int .i64 best.f, .int .i64 best.t] 60)) (w1.heap.size + 1 + 1) 60 #[.int .i64 best.v, .int .i64 best.f, .int .i64 best.t]) := Lib.hid (Blk.new_at _ _ _ _ (by rw [sz_alloc, sz_alloc]))
        obtain ⟨w4, hw4⟩ : ∃ W, ((w1.alloc (.cells #[.string b.port, .int .i64 b.cut, .int .i64 b.arr, .int .i64 b.dep] 50)).alloc (.cells #[.int .i64 0, (.slice none 0 0)] 97)).alloc (.cells #[.int .i64 best.v, .int .i64 best.f, .int .i64 best.t] 60) = W := ⟨_, rfl⟩
        rw [hw4] at HX4 HT4 HB4 ⊢
        clear hw4 k5 t0 t2 hlk hlf s1 r0 HX2 HX3 HT2 HT3 c0 c1 c2 x0 x1 x2
        have HQ : Hid (∀ x : BW w4, Calls Try.prog 38 #[.agg #[.slice A n c, .string fr, .int .i64 ch], .agg #[.int .i64 best.v, .int .i64 best.f, .int .i64 best.t]] (wof x) fun e w' => e = .returned (.agg #[.string b'.port, .int .i64 b'.cut, .int .i64 b'.arr, .int .i64 b'.dep]) ∧ Below (wof x).heap.size (wof x) w') := Lib.hid (fun x => arrive_any A n c us fr ch best v' a' b' (wof x) (HSW.out.below (HX4.out.trans ((wof_below x).mono HX4.out.size))) HLB.out)
        obtain ⟨ag, hag⟩ : ∃ z, (.agg #[.string b'.port, .int .i64 b'.cut, .int .i64 b'.arr, .int .i64 b'.dep] : Value) = z := ⟨_, rfl⟩
        have hfl : ∀ w, (Instr.field 50 ag 2).run Try.prog w = .ok (.int .i64 b'.arr) w := fun w => by rw [← hag]; kernel_rfl
        rw [hag] at HQ
        clear hag
        have s0 := (HK2W.out.below HX4.out HK2W.out.lt).cell 0; have s1 := (HK2W.out.below HX4.out HK2W.out.lt).cell 1; have s2 := (HK2W.out.below HX4.out HK2W.out.lt).cell 2
        have l0 := HB4.out.cell 0; have l1 := HB4.out.cell 1; have l2 := HB4.out.cell 2; have t2 := HT4.out.cell 2
        simp only [List.getElem?_toArray, List.getElem?_cons_zero, List.getElem?_cons_succ] at s0 s1 s2 l0 l1 l2 t2
        have s0' := wof_cell s0; have s1' := wof_cell s1; have s2' := wof_cell s2; have l0' := wof_cell l0; have l1' := wof_cell l1; have l2' := wof_cell l2; have t2' := wof_cell t2
        by_cases hbe : b'.arr ≤ b.arr
        · have hbe' : decide (b'.arr ≤ b.arr) = true := decide_eq_true hbe
          refine wpInR_region_quiet_below (by kernel_rfl) (by kernel_rfl) (by kernel_rfl) ?_
          repeat (go_big_quiet_step ((go_at_call 38; exact quiet_below (HQ.out _))))
          refine wpQuiet_nil ?_
          intro w5 hb5
          have HX5 : Hid (Below W.heap.size W w5) := Lib.hid (HX4.out.trans (hb5.mono HX4.out.size))
          clear s0 s1 s2 l0 l1 l2 t2 s0' s1' s2' l0' l1' l2' t2' hb5
          gi_wp2
          exact ⟨keeps_of (gf := g + 2) (Fr.of_below HX5.out (Nat.le_refl _)) (by omega), kp_of (gf := g + 2) (Fr.of_below HX5.out (Nat.le_refl _)) HMAW.out (by omega), ⟨nf, mf, HGW.out.below HX5.out HGW.out.lt, HFE.out⟩, HFR.out.trans (Fr.of_below (S := fun k => k = g + 2) HX5.out (Nat.le_refl _)) (fun k hk => .inl hk)⟩
        · have hbe' : decide (b'.arr ≤ b.arr) = false := decide_eq_false hbe
          refine wpInR_region_quiet_below (by kernel_rfl) (by kernel_rfl) (by kernel_rfl) ?_
          repeat (go_big_quiet_step ((go_at_call 38; exact quiet_below (HQ.out _))))
          refine wpQuiet_nil ?_
          intro w5 hb5
          have HX5 : Hid (Below W.heap.size W w5) := Lib.hid (HX4.out.trans (hb5.mono HX4.out.size))
          clear s0 s1 s2 l0 l1 l2 t2 s0' s1' s2' l0' l1' l2' t2'
          have t0 := (HT4.out.below hb5 HT4.out.lt).cell 0
          simp only [List.getElem?_toArray, List.getElem?_cons_zero, List.getElem?_cons_succ] at t0
          clear hb5
          obtain ⟨w6, hup, hg6, hgr6, hsz6⟩ := (HGW.out.below HX5.out HGW.out.lt).put keyStr (mty := 99) Try.underlying99 Try.underlying9 b.port lg
          have HG6 := Lib.hid hg6
          have HFE6 : Hid (Fr (fun k => k = g + 2) W w6) := Lib.hid ((Fr.of_below HX5.out (Nat.le_refl _)).grown hgr6 (fun k hk => by injection hk with hk; exact .inl hk.symm))
          have HFP : Hid (Fre us fr ch m (putF mf b.port lg)) := Lib.hid (fun p l hp => by
            unfold putF at hp
            by_cases e : p = b.port
            · rw [if_pos e] at hp
              injection hp with hp
              subst hp
              exact ⟨HTK.out, v, a, b, HLA.out, e.symm, fun h => HPF.out (e.symm.trans h)⟩
            · rw [if_neg e] at hp
              exact HFE.out p l hp)
          have k5 := (HK5W.out.below HX5.out HK5W.out.lt).cell 0
          have x0 := (HBK.out.below HX5.out HBK.out.lt).cell 0; have x1 := (HBK.out.below HX5.out HBK.out.lt).cell 1; have x2 := (HBK.out.below HX5.out HBK.out.lt).cell 2
          simp only [List.getElem?_toArray, List.getElem?_cons_zero, List.getElem?_cons_succ] at k5 x0 x1 x2
          clear hg6 hgr6 hsz6
          gi_wp2
          exact ⟨keeps_of (gf := g + 2) HFE6.out (by omega), kp_of (gf := g + 2) HFE6.out HMAW.out (by omega), ⟨_, _, HG6.out, HFP.out⟩, HFR.out.trans HFE6.out (fun k hk => .inl hk)⟩
  case done =>
    rintro D ys W hD _ ⟨⟨nf, mf, hgm, hfre⟩, hfr⟩ hK
    have k5 := (HK5.out.fr hfr (by omega)).cell 0
    simp only [List.getElem?_toArray, List.getElem?_cons_zero] at k5
    gi_wp2
    refine ⟨by simp, .inl ⟨_, _, rfl, run_takeDeferred hK, ?_⟩⟩
    refine ⟨_, results_tmp rfl _ _ _, g + 2, nf, mf, rfl, ?_, hgm.kept (grownBy_putObj' _ D _) (fun e => by cases e; omega), hfre, ?_⟩
    · have := HG.out; omega
    · have h1 := hfr.bel HB0.out (fun k hk => by have := HG.out; omega) HB0.out.size
      exact h1.trans (belowK_b (w := w) (Nat.le_refl _) W D _ _ (by have := HB0.out.size; omega) hK rfl rfl)
  case stop =>
    rintro D c pre W _ _ h _
    exact h.elim
end Go.Proofs.Ytlicmhgpldmliaa.kit
