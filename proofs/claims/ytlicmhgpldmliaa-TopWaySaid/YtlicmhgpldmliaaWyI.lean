/- Voyages: the earliest way. No condition. -/
import Derived.Test.YtlicmhgpldmliaaWyH
import Derived.Test.YtlicmhgpldmliaaRaw
namespace Go.Proofs.Ytlicmhgpldmliaa.kit
open Go.RowKit
set_option linter.unusedVariables false
set_option linter.unusedSimpArgs false
/-- Block x holds no cells. -/
def NC (W : World) (x : Nat) : Prop := ∀ p v, W.cell? p = some v → p.block ≠ x
theorem nc_map {W : World} {x ck : Nat} {es : Array MapEntry} (h : MapAt W x es ck) : NC W x := fun p v hc => cell_no_map hc h
theorem nc_iter {W : World} {r b s l : Nat} {seen : Array Nat} (h : IterAt W r b s seen l) : NC W r := fun p v hc e => by
  unfold World.cell? at hc
  unfold IterAt at h
  rw [e, h] at hc
  cases hc
theorem SliceOf.nc {α : Type} {C n : Nat} {en : α → List Value} {A : Option Addr} {xs : List α} {x : Nat} {W W' : World} (hs : SliceOf W C en A n xs) (hf : Fr (fun k => k = x) W W') (hn : NC W x) (hl : ∀ x, 0 < (en x).length) : SliceOf W' C en A n xs := by
  refine ⟨hs.len, ?_⟩
  rcases hs.cells with h0 | ⟨b, off, rfl, hb, hc⟩
  · exact .inl h0
  · exact .inr ⟨b, off, rfl, Nat.lt_of_lt_of_le hb hf.size, fun i y hy j v hv => cell_fr (hc i y hy j v hv) hf (hn _ _ (hc i y hy j v hv))⟩
theorem Sea.nc {x : Nat} {W W' : World} {A : Option Addr} {n : Nat} {us : List Vy} (hs : Sea W A n us) (hf : Fr (fun k => k = x) W W') (hn : NC W x) : Sea W' A n us :=
  ⟨hs.sl.nc hf hn (fun x => by rw [vy_len]; omega), fun v hv => (hs.lie v hv).nc hf hn (fun x => by rw [cl_len]; omega)⟩
theorem LegsLie.nc {x : Nat} {W W' : World} {m : ByteArray → Option Stp} (h : LegsLie W m) (hf : Fr (fun k => k = x) W W') (hn : NC W x) : LegsLie W' m := fun p s hp => (h p s hp).nc hf hn (fun x => by rw [lg_len]; omega)
theorem Blk.nc {x g : Nat} {t : TypeId} {cs : Array Value} {W W' : World} (hb : Blk W g t cs) (hf : Fr (fun k => k = x) W W') (hn : NC W x) (h0 : 0 < cs.size) : Blk W' g t cs :=
  hb.fr hf (hn ⟨g, 0, none⟩ cs[0] (by rw [hb.cell]; exact Array.getElem?_eq_getElem h0))
/-- The search, and what was reached. -/
structure Bst (w : World) (A : Option Addr) (n c : Nat) (us : List Vy) (fr : ByteArray) (ready ch : Int) (gs gr nm q : Nat) (m : ByteArray → Option Stp) (W : World) : Prop where
  bel : Below w.heap.size w W
  blk : Blk W gs 94 #[.slice A n c, .string fr, .int .i64 ch]
  sea : Sea W A n us
  map : SMap W gr nm m
  lie : LegsLie W m
  rea : Rea us fr ready ch q m
  hgs : w.heap.size ≤ gs
section
variable {w : World} {A : Option Addr} {n c : Nat} {us : List Vy} {fr : ByteArray} {ready ch : Int} {gs gr nm q : Nat} {m : ByteArray → Option Stp} {W W' : World}
theorem Bst.on (h : Bst w A n c us fr ready ch gs gr nm q m W) (hb : Below W.heap.size W W') : Bst w A n c us fr ready ch gs gr nm q m W' :=
  ⟨h.bel.trans (hb.mono h.bel.size), h.blk.below hb h.blk.lt, h.sea.below hb, h.map.below hb h.map.lt, h.lie.below hb, h.rea, h.hgs⟩
theorem Bst.nc (h : Bst w A n c us fr ready ch gs gr nm q m W) {x : Nat} (hf : Fr (fun k => k = x) W W') (hn : NC W x) (hx : gr ≠ x) (hB : w.heap.size ≤ x) : Bst w A n c us fr ready ch gs gr nm q m W' :=
  ⟨hf.bel h.bel (fun k e => e ▸ hB) h.bel.size, h.blk.nc hf hn (by simp), h.sea.nc hf hn, h.map.fr hf hx, h.lie.nc hf hn, h.rea, h.hgs⟩
end
/-- What is being reached anew. -/
structure Nxt (us : List Vy) (fr : ByteArray) (ready ch : Int) (gn n2 q : Nat) (m2 : ByteArray → Option Stp) (W : World) : Prop where
  map : SMap W gn n2 m2
  lie : LegsLie W m2
  rea : Rea us fr ready ch (q + 1) m2
section
variable {us : List Vy} {fr : ByteArray} {ready ch : Int} {gn n2 q : Nat} {m2 : ByteArray → Option Stp} {W W' : World}
theorem Nxt.on (h : Nxt us fr ready ch gn n2 q m2 W) (hb : Below W.heap.size W W') : Nxt us fr ready ch gn n2 q m2 W' := ⟨h.map.below hb h.map.lt, h.lie.below hb, h.rea⟩
theorem Nxt.nc (h : Nxt us fr ready ch gn n2 q m2 W) {x : Nat} (hf : Fr (fun k => k = x) W W') (hn : NC W x) (hx : gn ≠ x) : Nxt us fr ready ch gn n2 q m2 W' := ⟨h.map.fr hf hx, h.lie.nc hf hn, h.rea⟩
end
def BestP (vs : List Vy) (fr to : ByteArray) (ready ch : Int) (w : World) (e : Ending) (w' : World) : Prop :=
  Below w.heap.size w w' ∧ (e = .returned (.tuple #[.slice none 0 0, .int .i64 0, .bool false]) ∨ ∃ A n c ls day, e = .returned (.tuple #[.slice A n c, .int .i64 day, .bool true]) ∧ SliceOf w' 3 lgC A n ls ∧ WayP vs fr ready ch ls to day ∧ n ≤ 8)
theorem smake (w : World) : (Instr.makeMap 98 none).run Try.prog w = .ok (.map (some w.heap.size)) (w.alloc (.map #[] 0)) := by kernel_rfl
theorem stbuild (w : World) (d : Int) : (Instr.build 97 #[(0, .int .i64 d)]).run Try.prog w = .ok (.agg #[.int .i64 d, .slice none 0 0]) w := run_build w _ _ _ (by kernel_rfl)
theorem stbuild2 (w : World) (d : Int) (A : Option Addr) (n c : Nat) : (Instr.build 97 #[(0, .int .i64 d), (1, .slice A n c)]).run Try.prog w = .ok (.agg #[.int .i64 d, .slice A n c]) w := run_build w _ _ _ (by kernel_rfl)
theorem lslice (w : World) (l : Lg) : (Instr.buildSlice 51 1 #[(0, .agg #[.int .i64 l.v, .int .i64 l.f, .int .i64 l.t])]).run Try.prog w = .ok (.slice (some ⟨w.heap.size, 0, none⟩) 1 1) (w.alloc (.cells #[.int .i64 l.v, .int .i64 l.f, .int .i64 l.t] 60)) := by kernel_rfl
theorem ixk {P : Program} {w : World} (ty e : TypeId) (k : Nat) (ht : P.underlying ty = some (.slice e)) (hs : (P.info? e).map (·.size) = some k) (b off i n c : Nat) (hk : i < n) : (Instr.indexAt ty (.slice (some ⟨b, off, none⟩) n c) (.int .i64 i)).run P w = .ok (.pointer (some ⟨b, off + i * k, none⟩)) w := by
  obtain ⟨j, hj, hjs⟩ := Option.map_eq_some_iff.1 hs
  have hs : ∀ u, (sizeOf e).run P u = .ok k u := fun u => by simp [sizeOf, typeInfo, hj, hjs]
  have h1 : (0 : Int) ≤ (i : Int) ∧ (i : Int) < (n : Int) := by omega
  simp [Instr.indexAt, run_underlying ht, asIntOf, hs, hk, addr_add, Result.andThen]
theorem wp_bs1 {P : Program} {o : Oper} {a : Act} {w : World} {K : Act → World → Prop} {Q : Exit → Act → World → Prop} (ty e : TypeId) (n : Nat) (parts : Array (Nat × Operand)) (ho : o.op = .buildSlice ty n parts) (vals : Array (Nat × Value)) (hv : (parts.map fun (i, x) => (i, a.eval x)) = vals) (cs : Array Value)
    (hz : (Instr.buildSlice ty n vals).run P w = .ok (.slice (some ⟨w.heap.size, 0, none⟩) n n) (w.alloc (.cells cs e)))
    (h : K (a.put o.dst (.slice (some ⟨w.heap.size, 0, none⟩) n n)) (w.alloc (.cells cs e))) : o.wp P a w K Q := by
  unfold Oper.wp execOp
  simp only [ho]
  rw [hv]
  simp [hz, Result.andThen, Oper.upon]
  exact h
theorem own_sl {w : World} {base n : Nat} {e : TypeId} {C : Nat} {v : Value} {ys : List Value} (h : w.ownsRow base e C v n ys) : ∃ A c, v = .slice A n c := by
  obtain ⟨A, c, h, _⟩ := own_sliceV h
  exact ⟨A, c, h⟩
theorem own_lower_w {w : World} {B B' n : Nat} {e : TypeId} {C : Nat} {v : Value} {ys : List Value} (h : w.ownsRow B' e C v n ys) (hB : B ≤ B') : w.ownsRow B e C v n ys := by
  refine ⟨h.1, ?_⟩
  rcases h.2 with h0 | ⟨g, cap, cur, hv, hb, rest⟩
  · exact .inl h0
  · exact .inr ⟨g, cap, cur, hv, Nat.le_trans hB hb, rest⟩
/-- What no old block but x was turned: x alone. -/
theorem fr_old {x : Nat} {W W' : World} (hf : Fr (fun k => k = x ∨ W.heap.size ≤ k) W W') : Fr (fun k => k = x) W W' :=
  ⟨hf.os, hf.tape, hf.output, hf.size, fun k hk hne => hf.block k hk (fun h => by rcases h with h | h; exact hne h; omega)⟩
/-- One port reached anew: how far the region has come. -/
structure StepX (gn n2 : Nat) (m2 : ByteArray → Option Stp) (b : Cl) (s : Stp) (l : Lg) (B0 : Nat) (d8 d10 d11 d12 d13 : Bool) (v8 v10 v11 v12 : Value) (W : World) : Prop where
  c8 : d8 = true → d11 = false → W.ownsRow B0 60 3 v8 s.n (s.legs.flatMap lgC)
  c10 : d10 = true → d11 = false → ∃ b', v10 = .slice (some ⟨b', 0, none⟩) 1 1 ∧ Blk W b' 60 #[.int .i64 l.v, .int .i64 l.f, .int .i64 l.t]
  c11 : d11 = true → W.ownsRow B0 60 3 v11 (s.n + 1) ((s.legs ++ [l]).flatMap lgC)
  m0 : d13 = false → SMap W gn n2 m2
  m1 : d13 = true → ∃ k A c, v11 = .slice A (s.n + 1) c ∧ SMap W gn k (putF m2 b.port ⟨b.arr, A, s.n + 1, c, s.legs ++ [l]⟩)
  o11 : d11 = true → d8 = true
  o11b : d11 = true → d10 = true
  o12 : d12 = true → d11 = true ∧ v12 = .agg #[.int .i64 b.arr, v11]
  o13 : d13 = true → d12 = true
section
variable {gn n2 : Nat} {m2 : ByteArray → Option Stp} {b : Cl} {s : Stp} {l : Lg} {B0 : Nat} {d8 d10 d11 d12 d13 : Bool} {v8 v10 v11 v12 : Value} {W W' : World}
theorem StepX.on (h : StepX gn n2 m2 b s l B0 d8 d10 d11 d12 d13 v8 v10 v11 v12 W) (hb : Below W.heap.size W W') : StepX gn n2 m2 b s l B0 d8 d10 d11 d12 d13 v8 v10 v11 v12 W' :=
  ⟨fun x y => own_kept_below (h.c8 x y) hb, fun x y => (h.c10 x y).elim fun b' hh => ⟨b', hh.1, hh.2.below hb hh.2.lt⟩, fun x => own_kept_below (h.c11 x) hb, fun x => (h.m0 x).below hb (h.m0 x).lt, fun x => (h.m1 x).elim fun k hh => hh.elim fun A hh => hh.elim fun c hh => ⟨k, A, c, hh.1, hh.2.below hb hh.2.lt⟩, h.o11, h.o11b, h.o12, h.o13⟩
theorem StepX.start (h : SMap W gn n2 m2) : StepX gn n2 m2 b s l B0 false false false false false v8 v10 v11 v12 W :=
  ⟨fun h => (by cases h), fun h => (by cases h), fun h => (by cases h), fun _ => h, fun h => (by cases h), fun h => (by cases h), fun h => (by cases h), fun h => (by cases h), fun h => (by cases h)⟩
end
set_option maxRecDepth 100000 in
set_option maxHeartbeats 12800000 in
theorem best_any (A : Option Addr) (n c : Nat) (vs : List Vy) (fr to : ByteArray) (ready ch : Int) (w : World) (hx : SliceOf w 2 vyC A n vs) (hl : Lie w vs) (hn : n ≤ 6) (hs : ∀ v ∈ vs, Sm v) (hrd : 0 ≤ ready ∧ ready ≤ 255) (hch : 0 ≤ ch ∧ ch ≤ 255) (hne : (fr.toList == to.toList) = false) :
    Calls Try.prog 15 #[.slice A n c, .string fr, .string to, .int .i64 ready, .int .i64 ch] w (BestP vs fr to ready ch w) := by
  have HSM := Lib.hid hs
  have HST := Lib.hid (start_any A n c vs fr ch w hx hl hn hs hch)
  have hsb := stbuild
  have hmk := smake
  clear hx hl hs
  go_enter Try.func15, Try.ntmps15
  go_wp2_with fail
  refine HST.out.mono ?_
  rintro e w1 ⟨A1, c1, us, rfl, hcap, hsift, hsl, hlie, hb1⟩
  have HSI := Lib.hid hsift
  have HSE := Lib.hid (show Sea w1 A1 n us from ⟨hsl, hlie⟩)
  have HB1 := Lib.hid hb1
  clear hsift hsl hlie hb1 HST
  go_upto_region 4 with ((refine stop_store 94 _ _ rfl ?_; refine wpList_store_new rfl 94 _ _ rfl _ rfl rfl (by kernel_rfl) rfl rfl ?_))
  obtain ⟨w2, hw2⟩ : ∃ W, w1.alloc (.cells #[.slice A1 n c1, .string fr, .int .i64 ch] 94) = W := ⟨_, rfl⟩
  obtain ⟨gs, hgs⟩ : ∃ g, w1.heap.size = g := ⟨_, rfl⟩
  have HB2 : Hid (Below w.heap.size w w2) := Lib.hid (by rw [← hw2]; exact HB1.out.alloc HB1.out.size _)
  have HK2 : Hid (Blk w2 gs 94 #[.slice A1 n c1, .string fr, .int .i64 ch]) := Lib.hid (by rw [← hw2]; exact Blk.new_at _ _ _ _ hgs.symm)
  have HS2 : Hid (Sea w2 A1 n us) := Lib.hid (by rw [← hw2]; exact HSE.out.below (one_alloc _ _))
  have HGS : Hid (w.heap.size ≤ gs) := Lib.hid (by have := HB1.out.size; omega)
  rw [hw2]
  simp only [hgs]
  clear hw2 hgs HSE HB1
  obtain ⟨w3, hup, hm3, hg3, hz3⟩ := (TMap.made w2 .string (fun s : ByteArray => .string s) (fun x : Stp => .agg #[.int .i64 x.day, .slice x.A x.n x.c])).put keyStr (P := Try.prog) (mty := 98) Try.underlying98 Try.underlying9 fr ⟨ready, none, 0, 0, []⟩
  have hf3 : Fr (fun k => k = w2.heap.size) w2 w3 := ((Fr.refl _ w2).alloc _).grown hg3 (fun k hk => by injection hk with hk; exact .inl hk.symm)
  have HX3 : Hid (Below w2.heap.size w2 w3) := Lib.hid (hf3.bel (Below.refl _ _) (fun k e => by omega) (Nat.le_refl _))
  have HBS : Hid (Bst w A1 n c1 us fr ready ch gs w2.heap.size 1 0 (putF (fun _ => none) fr ⟨ready, none, 0, 0, []⟩) w3) := Lib.hid ⟨HB2.out.trans (HX3.out.mono HB2.out.size), HK2.out.below HX3.out HK2.out.lt, HS2.out.below HX3.out, hm3, fun p s hp => (by
      unfold putF at hp
      split at hp
      · injection hp with hp; subst hp; exact SliceOf.none_
      · cases hp), fun p s hp => (by
      unfold putF at hp
      split at hp
      · rename_i e
        injection hp with hp; subst hp; subst e; exact ⟨.here, rfl, by show 0 ≤ 0; omega, hrd.1, by show ready ≤ 1048576; omega⟩
      · cases hp), HGS.out⟩
  clear hm3 hg3 hz3 hf3 HX3 HB2 HK2 HS2
  dsimp only at hup
  go_wp2_with fail
  obtain ⟨gr0, hgr0⟩ : ∃ g, w2.heap.size = g := ⟨_, rfl⟩
  rw [hgr0] at HBS
  simp only [hgr0]
  clear hup hgr0
  have HUN : Hid (∀ v ∈ us, v.n ≤ 8) := Lib.hid (fun v hv => by
    obtain ⟨i, hi, hvi⟩ := List.getElem_of_mem hv
    rcases HSI.out.2 i v (by rw [List.getElem?_eq_getElem hi, hvi]) with ⟨rfl, _⟩ | ⟨h, _⟩
    · simp [Vz]
    · exact (HSM.out v (List.mem_of_getElem? h)).2.1)
  go_loopw [14, 34] (fun mv iv wr => ∃ (q gr nm : Nat) (m : ByteArray → Option Stp), q ≤ 8 ∧ mv = .map (some gr) ∧ iv = .int .i64 q ∧ Hid (Bst w A1 n c1 us fr ready ch gs gr nm q m wr)) (fun _ i _ => 8 - (intOf i).toNat)
  case atStart => exact ⟨0, gr0, 1, _, by omega, rfl, rfl, HBS⟩
  case round =>
    clear HBS
    obtain ⟨q, gr, nm, m, hq, rfl, rfl, HBS⟩ := hrel
    by_cases hq8 : q < 8
    · have hq8' : (q : Int) < 8 := by omega
      have s0 := HBS.out.blk.cell 0; have s1 := HBS.out.blk.cell 1; have s2 := HBS.out.blk.cell 2
      simp only [List.getElem?_toArray, List.getElem?_cons_zero, List.getElem?_cons_succ] at s0 s1 s2
      have HAN := Lib.hid (anew_any A1 n c1 us fr ch gr nm m wr HBS.out.map HBS.out.sea hn HUN.out hch (fun p s hp => (HBS.out.rea p s hp).2.2.2))
      go_wp2_with fail
      refine HAN.out.mono ?_
      rintro e w4 ⟨gf, nf, mf, rfl, hgf, hgm, hfre, hb4⟩
      have HB4 := Lib.hid (HBS.out.on hb4)
      have HGM := Lib.hid hgm
      have HFR := Lib.hid hfre
      have HGF := Lib.hid (⟨Nat.le_trans HBS.out.bel.size hgf, by have := HBS.out.map.lt; omega⟩ : w.heap.size ≤ gf ∧ gr < gf)
      have hln := glen hgm 3
      clear hgm hfre hb4 hgf HAN s0 s1 s2
      by_cases hnf : nf = 0
      · subst hnf
        clear HUN HSM
        cases hqt : m to with
        | none =>
          have hlk := HB4.out.map.look keyStr (P := Try.prog) (mty := 98) Try.underlying98 Try.underlying9 _ zero_st to true
          rw [hqt] at hlk
          simp only [Option.map_none, Option.getD_none, Option.isSome_none, if_true] at hlk
          have HE := Lib.hid (HB4.out.on (one_alloc _ (.cells #[.int .i64 0, .slice none 0 0] 97))).bel
          go_wp2_with ((refine stop_store 97 _ _ rfl ?_; refine wpList_store_new rfl 97 _ _ rfl _ rfl rfl (by kernel_rfl) rfl rfl ?_))
          refine bodyPost_ret (v := .tuple #[.slice none 0 0, .int .i64 0, .bool false]) (by first | kernel_rfl | simp [results, Try.results15, go_sem]) rfl ?_
          exact ⟨HE.out, .inl rfl⟩
        | some s =>
          have hlk := HB4.out.map.look keyStr (P := Try.prog) (mty := 98) Try.underlying98 Try.underlying9 _ zero_st to true
          rw [hqt] at hlk
          simp only [Option.map_some, Option.getD_some, Option.isSome_some, if_true] at hlk
          have HRE := Lib.hid (HB4.out.rea to s hqt)
          have HS9 : Hid (s.n ≤ 8) := Lib.hid (by have := HRE.out.2.2.1; omega)
          have HLN := Lib.hid HRE.out.2.1
          have HE := Lib.hid (HB4.out.on (one_alloc _ (.cells #[.int .i64 s.day, .slice s.A s.n s.c] 97))).bel
          have HSL := Lib.hid ((HB4.out.lie to s hqt).below (one_alloc _ (.cells #[.int .i64 s.day, .slice s.A s.n s.c] 97)))
          have HT9 := Lib.hid (Blk.new _ 97 #[.int .i64 s.day, .slice s.A s.n s.c] : Blk (w4.alloc (.cells #[.int .i64 s.day, .slice s.A s.n s.c] 97)) w4.heap.size 97 #[.int .i64 s.day, .slice s.A s.n s.c])
          clear hqt
          go_upto_region 20 with ((refine stop_store 97 _ _ rfl ?_; refine wpList_store_new rfl 97 _ _ rfl _ rfl rfl (by kernel_rfl) rfl rfl ?_))
          obtain ⟨w20, hw20⟩ : ∃ W, w4.alloc (.cells #[.int .i64 s.day, .slice s.A s.n s.c] 97) = W := ⟨_, rfl⟩
          obtain ⟨g20, hg20⟩ : ∃ g, w4.heap.size = g := ⟨_, rfl⟩
          rw [hw20] at HE HSL HT9 ⊢
          rw [hg20] at HT9
          simp only [hg20]
          clear hw20 hg20 hlk
          try simp only [Act.put, List.setIfInBounds_toArray, List.set_cons_zero, List.set_cons_succ]
          refine wp_region_soft [Is (.pointer (some ⟨g20, 1, none⟩)), Is (.slice s.A s.n s.c), SlOf 3 lgC s.n s.legs, Is (.pointer (some ⟨g20, 0, none⟩)), Is (.int .i64 s.day), SlOf 3 lgC s.n s.legs, Is (.int .i64 s.day), Is (.bool true)] ⟨stab_is _, stab_is _, stab_slof _ _ _ _, stab_is _, stab_is _, stab_slof _ _ _ _, stab_is _, stab_is _, trivial⟩ (by kernel_rfl) (by kernel_rfl) ?_ ?_
          · refine ⟨?_, ?_, ?_, ?_, ?_, ?_, ?_, ?_, trivial⟩
            all_goals intro done vs ac W1 hdep hB hR hE
            all_goals have ec : ∀ v : Value, ac.eval (.const v) = v := fun _ => rfl
            all_goals try simp [Region.binds] at hdep
            · have e20 : ac.eval (.tmp 20) = .pointer (some ⟨g20, 0, none⟩) := (hE 20 (by simp)).trans (by simp [evF, Act.eval])
              exact soft_value (.pointer (some ⟨g20, 1, none⟩)) (by unfold execOp; simp only [e20]; kernel_rfl) rfl
            · have d0 : vs 0 = .pointer (some ⟨g20, 1, none⟩) := hR 0 (by simp [hdep])
              have e88 : ac.eval (.tmp 88) = .pointer (some ⟨g20, 1, none⟩) := (hE 88 (by simp)).trans (by simp [evF, hdep, d0])
              have hc1 : W1.cell? ⟨g20, 1, none⟩ = some (.slice s.A s.n s.c) := (HT9.out.below hB HT9.out.lt).cell 1
              exact soft_value (.slice s.A s.n s.c) (by unfold execOp; simp only [e88]; go_simp) rfl
            · have d1 : vs 1 = .slice s.A s.n s.c := hR 1 (by simp [hdep])
              have e89 : ac.eval (.tmp 89) = .slice s.A s.n s.c := (hE 89 (by simp)).trans (by simp [evF, hdep, d1])
              refine soft_call 39 _ _ rfl (enters_fn Try.func39 (by kernel_rfl) rfl) #[.slice s.A s.n s.c] (by simp [e89]) ?_
              refine (clone_legs s.A s.n s.c s.legs W1 (HSL.out.below hB) (by have := HS9.out; omega)).mono ?_
              rintro e9 w10 ⟨v', rfl, ho', hb'⟩
              obtain ⟨A9, c9, rfl⟩ := own_sl ho'
              exact ⟨_, rfl, hb', A9, c9, rfl, SliceOf.of_own_s ho' lg_len rfl HLN.out⟩
            · have e20 : ac.eval (.tmp 20) = .pointer (some ⟨g20, 0, none⟩) := (hE 20 (by simp)).trans (by simp [evF, Act.eval])
              exact soft_value (.pointer (some ⟨g20, 0, none⟩)) (by unfold execOp; simp only [e20]; kernel_rfl) rfl
            · have d3 : vs 3 = .pointer (some ⟨g20, 0, none⟩) := hR 3 (by simp [hdep])
              have e91 : ac.eval (.tmp 91) = .pointer (some ⟨g20, 0, none⟩) := (hE 91 (by simp)).trans (by simp [evF, hdep, d3])
              have hc0 : W1.cell? ⟨g20, 0, none⟩ = some (.int .i64 s.day) := (HT9.out.below hB HT9.out.lt).cell 0
              exact soft_value (.int .i64 s.day) (by unfold execOp; simp only [e91]; go_simp) rfl
            · obtain ⟨A9, c9, d2, z2⟩ := (show (SlOf 3 lgC s.n s.legs) (vs 2) W1 from hR 2 (by simp [hdep]))
              have e90 : ac.eval (.tmp 90) = .slice A9 s.n c9 := (hE 90 (by simp)).trans (by simp [evF, hdep, d2])
              exact soft_value (.slice A9 s.n c9) (by unfold execOp; simp only [e90]; rfl) ⟨A9, c9, rfl, z2⟩
            · have d4 : vs 4 = .int .i64 s.day := hR 4 (by simp [hdep])
              have e92 : ac.eval (.tmp 92) = .int .i64 s.day := (hE 92 (by simp)).trans (by simp [evF, hdep, d4])
              exact soft_value (.int .i64 s.day) (by unfold execOp; simp only [e92, ec]; rfl) rfl
            · exact soft_value (.bool true) (by unfold execOp; simp only [ec]; rfl) rfl
          · intro vs W hB hR
            obtain ⟨A9, c9, r5, z5⟩ := (show (SlOf 3 lgC s.n s.legs) (vs 5) W from hR 5 (by simp))
            have r6 : vs 6 = .int .i64 s.day := hR 6 (by simp)
            have r7 : vs 7 = .bool true := hR 7 (by simp)
            have HB2 := Lib.hid (HE.out.trans (hB.mono HE.out.size))
            have HZ := Lib.hid z5
            clear hR hB z5
            simp only [fillA, Act.put, List.setIfInBounds_toArray, List.set_cons_zero, List.set_cons_succ, if_true, r5, r6, r7]
            go_wp2_with fail
            refine bodyPost_ret (v := .tuple #[.slice A9 s.n c9, .int .i64 s.day, .bool true]) (by first | kernel_rfl | simp [results, Try.results15, go_sem]) rfl ?_
            exact ⟨HB2.out, .inr ⟨A9, s.n, c9, s.legs, s.day, rfl, HZ.out, HRE.out.1.sift HSI.out, HS9.out⟩⟩
      have hnf' : ((nf : Int) == 0) = false := by simp; omega
      have HCM := Lib.hid (clone_map gr nm m w4 HB4.out.map)
      go_wp2_with fail
      refine HCM.out.mono ?_
      rintro e w5 ⟨rfl, hm5, hb5⟩
      obtain ⟨gn, hgn⟩ : ∃ g, w4.heap.size = g := ⟨_, rfl⟩
      have HGN : Hid (gr < gn ∧ gf < gn ∧ w.heap.size ≤ gn) := Lib.hid (by have := HB4.out.map.lt; have := HGM.out.lt; have := HB4.out.bel.size; omega)
      have HB5 := Lib.hid (HB4.out.on hb5)
      have HG5 := Lib.hid (HGM.out.below hb5 HGM.out.lt)
      rw [hgn] at hm5
      simp only [hgn]
      have HN5 : Hid (Nxt us fr ready ch gn nm q m w5) := Lib.hid ⟨hm5, HB5.out.lie, HB5.out.rea.mono (Nat.le_succ _)⟩
      clear hm5 hb5 hgn HB4 HGM hln HCM hnf hnf'
      obtain ⟨es, ck, hma, hst, hes⟩ := gopen HG5.out
      have HES := Lib.hid hes
      have HSTP := Lib.hid hst
      have hrg := run_range_map w5 99 9 60 gf es ck Try.underlying99 hma
      have HI6 : Hid (IterAt (w5.alloc (.mapIter (some gf) ck #[] ck)) w5.heap.size gf ck #[] ck) := Lib.hid (heap_alloc_new w5 _)
      have HM6 := Lib.hid (hma.alloc (.mapIter (some gf) ck #[] ck))
      have HB6 := Lib.hid (HB5.out.on (one_alloc w5 (.mapIter (some gf) ck #[] ck)))
      have HN6 := Lib.hid (HN5.out.on (one_alloc w5 (.mapIter (some gf) ck #[] ck)))
      have HRR : Hid (gn < w5.heap.size) := Lib.hid HN5.out.map.lt
      clear hes hst hma HB5 HG5 HN5
      go_wp2_with ((at_range; refine wpList_range rfl _ _ rfl _ _ rfl hrg ?_))
      try go_frame
      obtain ⟨w6, hw6⟩ : ∃ W, w5.alloc (.mapIter (some gf) ck #[] ck) = W := ⟨_, rfl⟩
      obtain ⟨r, hr⟩ : ∃ r, w5.heap.size = r := ⟨_, rfl⟩
      rw [hw6] at HI6 HM6 HB6 HN6 ⊢
      rw [hr] at HI6 HRR
      simp only [hr]
      have HRB : Hid (w.heap.size ≤ r) := Lib.hid (by have := HRR.out; have := HGN.out; omega)
      clear hw6 hr hrg
      go_loopw [17] (fun kv wi => ∃ (seen : Array Nat) (n2 : Nat) (m2 : ByteArray → Option Stp), Hid (MapAt wi gf es ck) ∧ Hid (IterAt wi r gf ck seen ck) ∧ Hid (Bst w A1 n c1 us fr ready ch gs gr nm q m wi) ∧ Hid (Nxt us fr ready ch gn n2 q m2 wi)) (fun _ wi => wi.rangeLeft gf r)
      case atStart => exact ⟨#[], nm, m, HM6, HI6, HB6, HN6⟩
      case round =>
        clear HM6 HI6 HB6 HN6
        obtain ⟨seen, n2, m2, HM6, HI6, HB6, HN6⟩ := hrel
        have HMS := Lib.hid (left_of' HM6.out HI6.out)
        rcases next_step 0 HI6.out HM6.out HSTP.out.1 (Nat.le_refl _) (by have := HGN.out; have := HRR.out; omega) HSTP.out.2.1 with ⟨h0, hov⟩ | ⟨e, he, w7, hrun, hit, hen⟩
        · go_wp2_with (at_next; refine wpList_next rfl _ rfl _ _ rfl 0 hov ?_)
          go_roundw
          case rel => exact ⟨q + 1, gn, n2, m2, by omega, rfl, by go_num, Lib.hid ⟨HB6.out.bel, HB6.out.blk, HB6.out.sea, HN6.out.map, HN6.out.lie, HN6.out.rea, HB6.out.hgs⟩⟩
          case measure => simp [intOf]; omega
        · obtain ⟨p, l, hk1, hv1, hmf⟩ := HES.out e (by simp [leftOf] at he; simpa using he.1)
          rw [hk1, hv1] at hrun hen
          have hf7 : Fr (fun k => k = r) wr w7 := (Fr.refl _ wr).grown hit.grown (fun k hk => by injection hk with hk; exact .inl hk.symm)
          have hnc := nc_iter HI6.out
          have HM7 : Hid (MapAt w7 gf es ck) := Lib.hid ((hf7.block gf HM6.out.lt (by have := HGN.out; have := HRR.out; omega)).trans HM6.out)
          have HI7 := Lib.hid hit.at_
          have HB7 := Lib.hid (HB6.out.nc hf7 hnc (by have := HGN.out; have := HRR.out; omega) HRB.out)
          have HN7 := Lib.hid (HN6.out.nc hf7 hnc (by have := HRR.out; omega))
          have HSH := Lib.hid (left_shrinks es seen e he)
          obtain ⟨⟨v, a, b, s, hla, hma, hcut⟩, v', a', b', hla', hbp, hpf⟩ := HFR.out p l hmf
          rw [hla] at hla'
          injection hla' with hla'
          injection hla' with h1 h2
          injection h2 with h2 h3
          subst h1 h2 h3
          subst hbp
          have HLA := Lib.hid hla
          have HMA := Lib.hid hma
          have HCU := Lib.hid hcut
          have HPF := Lib.hid hpf
          clear hla hma hcut hpf hmf hk1 hv1 hf7 hnc he HM6 HI6 HB6 HN6
          have HM8 := Lib.hid (HM7.out.alloc (.cells #[.int .i64 l.v, .int .i64 l.f, .int .i64 l.t] 60))
          have HI8 := Lib.hid (HI7.out.alloc (.cells #[.int .i64 l.v, .int .i64 l.f, .int .i64 l.t] 60))
          have HB8 := Lib.hid (HB7.out.on (one_alloc w7 (.cells #[.int .i64 l.v, .int .i64 l.f, .int .i64 l.t] 60)))
          have HN8 := Lib.hid (HN7.out.on (one_alloc w7 (.cells #[.int .i64 l.v, .int .i64 l.f, .int .i64 l.t] 60)))
          have HL8 := Lib.hid (Blk.new w7 60 #[.int .i64 l.v, .int .i64 l.f, .int .i64 l.t])
          go_upto_region 13 with (first | (at_next; refine wpList_next rfl _ rfl _ _ rfl 0 hrun ?_) | ((refine stop_store 60 _ _ rfl ?_; refine wpList_store_new rfl 60 _ _ rfl _ rfl rfl (by kernel_rfl) rfl rfl ?_)))
          obtain ⟨w8, hw8⟩ : ∃ W, w7.alloc (.cells #[.int .i64 l.v, .int .i64 l.f, .int .i64 l.t] 60) = W := ⟨_, rfl⟩
          obtain ⟨gl, hgl⟩ : ∃ g, w7.heap.size = g := ⟨_, rfl⟩
          rw [hw8] at HM8 HI8 HB8 HN8 HL8 ⊢
          rw [hgl] at HL8
          simp only [hgl]
          clear hw8 hgl hrun hen hit HM7 HI7 HB7 HN7
          try simp only [Act.put, List.setIfInBounds_toArray, List.set_cons_zero, List.set_cons_succ]
          obtain ⟨p1, p2, p3, p4, bv, ov, bc, oc, hA1, hvA, cv0, cv1, ca, cb⟩ := sea_leg HB8.out.sea HLA.out
          subst hA1
          rw [hvA] at cv1
          have ca0 := ca 0 _ rfl
          rw [Nat.add_zero] at ca0
          have HP1 := Lib.hid p1
          have HP2 := Lib.hid p2
          have HCV := Lib.hid cv1
          have HCA := Lib.hid ca0
          have HGS8 := Lib.hid HB8.out.blk
          have NGS : ¬ w8.heap.size ≤ gs := by have := HGS8.out.lt; omega
          have NGL : ¬ w8.heap.size ≤ gl := by have := HL8.out.lt; omega
          have NBV : ¬ w8.heap.size ≤ bv := by have : bv < w8.heap.size := World.block_lt_of_cell? w8 ⟨bv, ov + l.v * 2 + 1, none⟩ cv1; omega
          have NBC : ¬ w8.heap.size ≤ bc := by have : bc < w8.heap.size := World.block_lt_of_cell? w8 ⟨bc, oc + l.f * 4, none⟩ ca0; omega
          clear p1 p2 p3 p4 hvA cv0 cv1 ca cb ca0
          refine wp_region_softX [Is (.map (some gr)), Is (.pointer (some ⟨gs, 0, none⟩)), Is (.slice (some ⟨bv, ov, none⟩) n c1), Is (.pointer (some ⟨gl, 0, none⟩)), Is (.int .i64 (l.v : Int)), Is (.pointer (some ⟨bv, ov + l.v * 2, none⟩)), Is (.pointer (some ⟨bv, ov + l.v * 2 + 1, none⟩)), Is (.slice (some ⟨bc, oc, none⟩) v.n v.c), Is (.pointer (some ⟨gl, 1, none⟩)), Is (.int .i64 (l.f : Int)), Is (.pointer (some ⟨bc, oc + l.f * 4, none⟩)), Is (.pointer (some ⟨bc, oc + l.f * 4, none⟩)), Is (.string a.port), Is (.agg #[.int .i64 s.day, .slice s.A s.n s.c]), AnyV, AnyV] ⟨stab_is _, stab_is _, stab_is _, stab_is _, stab_is _, stab_is _, stab_is _, stab_is _, stab_is _, stab_is _, stab_is _, stab_is _, stab_is _, stab_is _, stab_anyv, stab_anyv, trivial⟩ (fun k => w8.heap.size ≤ k) ⟨stabf_is _ _, stabf_is _ _, stabf_is _ _, stabf_is _ _, stabf_is _ _, stabf_is _ _, stabf_is _ _, stabf_is _ _, stabf_is _ _, stabf_is _ _, stabf_is _ _, stabf_is _ _, stabf_is _ _, stabf_is _ _, stabf_anyv _, stabf_anyv _, trivial⟩ [false, false, false, false, false, false, false, false, false, false, false, false, false, false, true, true] (fun done vs W => (done 14 = true → ∃ b9, vs 14 = .pointer (some ⟨b9, 0, none⟩) ∧ w8.heap.size ≤ b9 ∧ Blk W b9 97 (if done 15 = true then #[.int .i64 s.day, .slice s.A s.n s.c] else #[.int .i64 0, .slice none 0 0])) ∧ (done 15 = true → done 14 = true)) ?_ ?_ (by kernel_rfl) (by kernel_rfl) ?_ ?_
          · intro q_ hq_ done vs v_ W W' h hnd hb
            have n14 : upDn done q_ 14 = done 14 := up_ne done (fun e => by subst e; exact absurd hq_ (by decide))
            have n15 : upDn done q_ 15 = done 15 := up_ne done (fun e => by subst e; exact absurd hq_ (by decide))
            have m14 : upVs vs q_ v_ 14 = vs 14 := upv_ne vs v_ (fun e => by subst e; exact absurd hq_ (by decide))
            rw [n14, n15, m14]
            exact ⟨fun q => (h.1 q).elim fun b hh => ⟨b, hh.1, hh.2.1, hh.2.2.below hb hh.2.2.lt⟩, h.2⟩
          · exact ⟨fun h => (by cases h), fun h => (by cases h)⟩
          · refine ⟨?_, ?_, ?_, ?_, ?_, ?_, ?_, ?_, ?_, ?_, ?_, ?_, ?_, ?_, ?_, ?_, trivial⟩
            all_goals intro done vs ac W1 hdep hnd hB hR hX hE
            all_goals try simp only [Nat.zero_add, Nat.reduceAdd] at hnd ⊢
            all_goals have ec : ∀ v : Value, ac.eval (.const v) = v := fun _ => rfl
            all_goals try simp [Region.binds] at hdep
            · have e14 : ac.eval (.tmp 14) = .map (some gr) := (hE 14 (by simp)).trans (by simp [evF, Act.eval])
              exact soft_value (.map (some gr)) (by unfold execOp; simp only [e14, ec]; rfl) rfl
            · have e13 : ac.eval (.tmp 13) = .pointer (some ⟨gs, 0, none⟩) := (hE 13 (by simp)).trans (by simp [evF, Act.eval])
              exact soft_value (.pointer (some ⟨gs, 0, none⟩)) (by unfold execOp; simp only [e13]; kernel_rfl) rfl
            · have d1 : vs 1 = .pointer (some ⟨gs, 0, none⟩) := hR 1 (by simp [hdep])
              have e52 : ac.eval (.tmp 52) = .pointer (some ⟨gs, 0, none⟩) := (hE 52 (by simp)).trans (by simp [evF, hdep, d1])
              have hc0 : W1.cell? ⟨gs, 0, none⟩ = some (.slice (some ⟨bv, ov, none⟩) n c1) := (HGS8.out.fr hB NGS).cell 0
              exact soft_value (.slice (some ⟨bv, ov, none⟩) n c1) (by unfold execOp; simp only [e52]; go_simp) rfl
            · have e18 : ac.eval (.tmp 18) = .pointer (some ⟨gl, 0, none⟩) := (hE 18 (by simp)).trans (by simp [evF, Act.eval])
              exact soft_value (.pointer (some ⟨gl, 0, none⟩)) (by unfold execOp; simp only [e18]; kernel_rfl) rfl
            · have d3 : vs 3 = .pointer (some ⟨gl, 0, none⟩) := hR 3 (by simp [hdep])
              have e54 : ac.eval (.tmp 54) = .pointer (some ⟨gl, 0, none⟩) := (hE 54 (by simp)).trans (by simp [evF, hdep, d3])
              have hc0 : W1.cell? ⟨gl, 0, none⟩ = some (.int .i64 (l.v : Int)) := (HL8.out.fr hB NGL).cell 0
              exact soft_value (.int .i64 (l.v : Int)) (by unfold execOp; simp only [e54]; go_simp) rfl
            · have d2 : vs 2 = .slice (some ⟨bv, ov, none⟩) n c1 := hR 2 (by simp [hdep])
              have e53 : ac.eval (.tmp 53) = .slice (some ⟨bv, ov, none⟩) n c1 := (hE 53 (by simp)).trans (by simp [evF, hdep, d2])
              have d4 : vs 4 = .int .i64 (l.v : Int) := hR 4 (by simp [hdep])
              have e55 : ac.eval (.tmp 55) = .int .i64 (l.v : Int) := (hE 55 (by simp)).trans (by simp [evF, hdep, d4])
              exact soft_value (.pointer (some ⟨bv, ov + l.v * 2, none⟩)) (by simp [execOp, e53, e55, ixk 45 _ 2 Try.underlying45 (by kernel_rfl) bv ov l.v n c1 HP1.out, Result.andThen]) rfl
            · have d5 : vs 5 = .pointer (some ⟨bv, ov + l.v * 2, none⟩) := hR 5 (by simp [hdep])
              have e56 : ac.eval (.tmp 56) = .pointer (some ⟨bv, ov + l.v * 2, none⟩) := (hE 56 (by simp)).trans (by simp [evF, hdep, d5])
              exact soft_value (.pointer (some ⟨bv, ov + l.v * 2 + 1, none⟩)) (by unfold execOp; simp only [e56]; kernel_rfl) rfl
            · have d6 : vs 6 = .pointer (some ⟨bv, ov + l.v * 2 + 1, none⟩) := hR 6 (by simp [hdep])
              have e57 : ac.eval (.tmp 57) = .pointer (some ⟨bv, ov + l.v * 2 + 1, none⟩) := (hE 57 (by simp)).trans (by simp [evF, hdep, d6])
              have hcx := cell_fr HCV.out hB NBV
              exact soft_value (.slice (some ⟨bc, oc, none⟩) v.n v.c) (by unfold execOp; simp only [e57]; go_simp) rfl
            · have e18 : ac.eval (.tmp 18) = .pointer (some ⟨gl, 0, none⟩) := (hE 18 (by simp)).trans (by simp [evF, Act.eval])
              exact soft_value (.pointer (some ⟨gl, 1, none⟩)) (by unfold execOp; simp only [e18]; kernel_rfl) rfl
            · have d8 : vs 8 = .pointer (some ⟨gl, 1, none⟩) := hR 8 (by simp [hdep])
              have e59 : ac.eval (.tmp 59) = .pointer (some ⟨gl, 1, none⟩) := (hE 59 (by simp)).trans (by simp [evF, hdep, d8])
              have hc1 : W1.cell? ⟨gl, 1, none⟩ = some (.int .i64 (l.f : Int)) := (HL8.out.fr hB NGL).cell 1
              exact soft_value (.int .i64 (l.f : Int)) (by unfold execOp; simp only [e59]; go_simp) rfl
            · have d7 : vs 7 = .slice (some ⟨bc, oc, none⟩) v.n v.c := hR 7 (by simp [hdep])
              have e58 : ac.eval (.tmp 58) = .slice (some ⟨bc, oc, none⟩) v.n v.c := (hE 58 (by simp)).trans (by simp [evF, hdep, d7])
              have d9 : vs 9 = .int .i64 (l.f : Int) := hR 9 (by simp [hdep])
              have e60 : ac.eval (.tmp 60) = .int .i64 (l.f : Int) := (hE 60 (by simp)).trans (by simp [evF, hdep, d9])
              exact soft_value (.pointer (some ⟨bc, oc + l.f * 4, none⟩)) (by simp [execOp, e58, e60, ixk 46 _ 4 Try.underlying46 (by kernel_rfl) bc oc l.f v.n v.c HP2.out, Result.andThen]) rfl
            · have d10 : vs 10 = .pointer (some ⟨bc, oc + l.f * 4, none⟩) := hR 10 (by simp [hdep])
              have e61 : ac.eval (.tmp 61) = .pointer (some ⟨bc, oc + l.f * 4, none⟩) := (hE 61 (by simp)).trans (by simp [evF, hdep, d10])
              exact soft_value (.pointer (some ⟨bc, oc + l.f * 4, none⟩)) (by unfold execOp; simp only [e61]; kernel_rfl) rfl
            · have d11 : vs 11 = .pointer (some ⟨bc, oc + l.f * 4, none⟩) := hR 11 (by simp [hdep])
              have e62 : ac.eval (.tmp 62) = .pointer (some ⟨bc, oc + l.f * 4, none⟩) := (hE 62 (by simp)).trans (by simp [evF, hdep, d11])
              have hcx := cell_fr HCA.out hB NBC
              exact soft_value (.string a.port) (by unfold execOp; simp only [e62]; go_simp) rfl
            · have d0 : vs 0 = .map (some gr) := hR 0 (by simp [hdep])
              have e51 : ac.eval (.tmp 51) = .map (some gr) := (hE 51 (by simp)).trans (by simp [evF, hdep, d0])
              have d12 : vs 12 = .string a.port := hR 12 (by simp [hdep])
              have e63 : ac.eval (.tmp 63) = .string a.port := (hE 63 (by simp)).trans (by simp [evF, hdep, d12])
              have hBb : Below w8.heap.size w8 W1 := hB.bel (Below.refl _ _) (fun k hk => hk) (Nat.le_refl _)
              have hlk := (HB8.out.map.below hBb HB8.out.map.lt).look keyStr (P := Try.prog) (mty := 98) Try.underlying98 Try.underlying9 _ zero_st a.port false
              rw [HMA.out] at hlk
              simp only [Option.map_some, Option.getD_some, Bool.false_eq_true, if_false] at hlk
              exact wp_look2 (.tmp 51) (.tmp 63) 98 false rfl _ _ (.agg #[.int .i64 s.day, .slice s.A s.n s.c]) e51 e63 hlk ⟨_, rfl, Below.refl _ _, rfl⟩
            · have d15 : done 15 = false := not_of hX.2 hnd
              have n15 : upDn done 14 15 = false := by rw [up_ne done (by decide)]; exact d15
              refine wp_alloc_z 97 rfl #[.int .i64 0, .slice none 0 0] (by kernel_rfl) ⟨_, rfl, (Fr.refl _ _).alloc _, ⟨fun _ => ⟨W1.heap.size, by rw [upv_same], hB.size, ?_⟩, fun h => (by rw [n15] at h; cases h)⟩, trivial⟩
              simp only [n15, Bool.false_eq_true, if_false]
              exact Blk.new _ _ _
            · obtain ⟨b9, hb1, hb2, hb3⟩ := hX.1 (by simp [hdep])
              have d14 : vs 14 = .pointer (some ⟨b9, 0, none⟩) := hb1
              have e19 : ac.eval (.tmp 19) = .pointer (some ⟨b9, 0, none⟩) := (hE 19 (by simp)).trans (by simp [evF, hdep, d14])
              have d13 : vs 13 = .agg #[.int .i64 s.day, .slice s.A s.n s.c] := hR 13 (by simp [hdep])
              have e64 : ac.eval (.tmp 64) = .agg #[.int .i64 s.day, .slice s.A s.n s.c] := (hE 64 (by simp)).trans (by simp [evF, hdep, d13])
              rw [hnd] at hb3
              simp only [Bool.false_eq_true, if_false] at hb3
              refine wp_store_row 97 (.tmp 19) (.tmp 64) rfl b9 #[.int .i64 s.day, .slice s.A s.n s.c] e19 e64 97 #[.int .i64 0, .slice none 0 0] hb3 (by kernel_rfl) rfl (by simp [Value.oneCell']) ⟨_, rfl, (fr_row _ _ _).mono (fun k hk => by rw [hk]; exact hb2), ⟨fun _ => ⟨b9, by rw [upv_ne vs _ (by decide)]; exact hb1, hb2, ?_⟩, fun _ => by rw [up_ne done (by decide)]; simp [hdep]⟩, trivial⟩
              simp only [up_same, if_true]
              exact setRow_heap W1 b9 _ _ _ (0, 0) hb3
          intro done vs W hall hB hR hX
          obtain ⟨b9, hb1, hb2, hb3⟩ := hX.1 (hall 14 (by simp))
          rw [hall 15 (by simp)] at hb3
          simp only [if_true] at hb3
          have hBb : Below w8.heap.size w8 W := hB.bel (Below.refl _ _) (fun k hk => hk) (Nat.le_refl _)
          have HT9 := Lib.hid hb3
          have HM9 : Hid (MapAt W gf es ck) := Lib.hid (HM8.out.below hBb HM8.out.lt)
          have HI9 : Hid (IterAt W r gf ck (seen.push e.born) ck) := Lib.hid (HI8.out.below hBb HI8.out.lt)
          have HB9 := Lib.hid (HB8.out.on hBb)
          have HN9 := Lib.hid (HN8.out.on hBb)
          have HL9 := Lib.hid (HL8.out.below hBb HL8.out.lt)
          have HGS9 := Lib.hid HB9.out.blk
          have HS9 : Hid (s.n ≤ 8) := Lib.hid (by have := (HB9.out.rea _ _ HMA.out).2.2.1; omega)
          have HSL := Lib.hid (HB9.out.lie _ _ HMA.out)
          have HLN := Lib.hid (HB9.out.rea _ _ HMA.out).2.1
          simp only [fillA, Act.put, List.setIfInBounds_toArray, List.set_cons_zero, List.set_cons_succ, if_true, hb1]
          clear hall hB hR hX hb1 hb2 hb3 hBb NGS NGL NBV NBC HM8 HI8 HB8 HN8 HL8 HGS8 HCV HCA
          go_wp2_with fail
          obtain ⟨w9, hw9⟩ : ∃ w9, W = w9 := ⟨_, rfl⟩
          rw [hw9] at HT9 HM9 HI9 HB9 HN9 HL9 HGS9 HSL ⊢
          clear hw9
          obtain ⟨ag, hag⟩ : ∃ z, (.agg #[.string b.port, .int .i64 b.cut, .int .i64 b.arr, .int .i64 b.dep] : Value) = z := ⟨_, rfl⟩
          have HFL : Hid (∀ w, (Instr.field 50 ag 2).run Try.prog w = .ok (.int .i64 b.arr) w) := Lib.hid (fun w => by rw [← hag]; kernel_rfl)
          have hngn : NC w9 gn := by obtain ⟨es', ck', hm'⟩ := HN9.out.map.mapAt; exact nc_map hm'
          have HNX := Lib.hid hngn
          have HAR : Hid (∀ W1, Fr (fun k => k = gn ∨ w9.heap.size ≤ k) w9 W1 → Calls Try.prog 38 #[.agg #[.slice (some ⟨bv, ov, none⟩) n c1, .string fr, .int .i64 ch], .agg #[.int .i64 l.v, .int .i64 l.f, .int .i64 l.t]] W1 fun e w' => e = .returned ag ∧ Below W1.heap.size W1 w') := Lib.hid (fun W1 hf => by
            rw [← hag]
            exact arrive_any _ n c1 us fr ch l v a b W1 (HB9.out.sea.nc (x := gn) (fr_old hf) HNX.out) HLA.out)
          clear hag hngn
          have NGS9 : ¬ (gs = gn ∨ w9.heap.size ≤ gs) := by
            rintro (h | h)
            · exact HNX.out ⟨gs, 0, none⟩ _ (HGS9.out.cell 0) h
            · have := HGS9.out.lt; omega
          have NGL9 : ¬ (gl = gn ∨ w9.heap.size ≤ gl) := by
            rintro (h | h)
            · exact HNX.out ⟨gl, 0, none⟩ _ (HL9.out.cell 0) h
            · have := HL9.out.lt; omega
          have NT9 : ¬ (b9 = gn ∨ w9.heap.size ≤ b9) := by
            rintro (h | h)
            · exact HNX.out ⟨b9, 0, none⟩ _ (HT9.out.cell 0) h
            · have := HT9.out.lt; omega
          obtain ⟨i0, hi, hz0, hz1, hz2⟩ := info_parts infoLg
          have hq0 : 0 < 3 := by omega
          refine wp_region_softX [Is (.map (some gn)), Is (.string b.port), Is (.agg #[.slice (some ⟨bv, ov, none⟩) n c1, .string fr, .int .i64 ch]), Is (.agg #[.int .i64 (l.v : Int), .int .i64 (l.f : Int), .int .i64 (l.t : Int)]), Is (ag), Is (.int .i64 b.arr), Is (.pointer (some ⟨b9, 1, none⟩)), Is (.slice s.A s.n s.c), AnyV, Is (.agg #[.int .i64 (l.v : Int), .int .i64 (l.f : Int), .int .i64 (l.t : Int)]), AnyV, AnyV, AnyV, AnyV] ⟨stab_is _, stab_is _, stab_is _, stab_is _, stab_is _, stab_is _, stab_is _, stab_is _, stab_anyv, stab_is _, stab_anyv, stab_anyv, stab_anyv, stab_anyv, trivial⟩ (fun k => k = gn ∨ w9.heap.size ≤ k) ⟨stabf_is _ _, stabf_is _ _, stabf_is _ _, stabf_is _ _, stabf_is _ _, stabf_is _ _, stabf_is _ _, stabf_is _ _, stabf_anyv _, stabf_is _ _, stabf_anyv _, stabf_anyv _, stabf_anyv _, stabf_anyv _, trivial⟩ [false, false, false, false, false, false, false, false, true, false, true, true, true, true] (fun done vs W => StepX gn n2 m2 b s l w9.heap.size (done 8) (done 10) (done 11) (done 12) (done 13) (vs 8) (vs 10) (vs 11) (vs 12) W) ?_ ?_ (by kernel_rfl) (by kernel_rfl) ?_ ?_
          · intro q_ hq_ done vs v_ W W' h hnd hb
            have n8 : upDn done q_ 8 = done 8 := up_ne done (fun e => by subst e; exact absurd hq_ (by decide))
            have n10 : upDn done q_ 10 = done 10 := up_ne done (fun e => by subst e; exact absurd hq_ (by decide))
            have n11 : upDn done q_ 11 = done 11 := up_ne done (fun e => by subst e; exact absurd hq_ (by decide))
            have n12 : upDn done q_ 12 = done 12 := up_ne done (fun e => by subst e; exact absurd hq_ (by decide))
            have n13 : upDn done q_ 13 = done 13 := up_ne done (fun e => by subst e; exact absurd hq_ (by decide))
            have m8 : upVs vs q_ v_ 8 = vs 8 := upv_ne vs v_ (fun e => by subst e; exact absurd hq_ (by decide))
            have m10 : upVs vs q_ v_ 10 = vs 10 := upv_ne vs v_ (fun e => by subst e; exact absurd hq_ (by decide))
            have m11 : upVs vs q_ v_ 11 = vs 11 := upv_ne vs v_ (fun e => by subst e; exact absurd hq_ (by decide))
            have m12 : upVs vs q_ v_ 12 = vs 12 := upv_ne vs v_ (fun e => by subst e; exact absurd hq_ (by decide))
            rw [n8, n10, n11, n12, n13, m8, m10, m11, m12]
            exact h.on hb
          · exact StepX.start HN9.out.map
          · refine ⟨?_, ?_, ?_, ?_, ?_, ?_, ?_, ?_, ?_, ?_, ?_, ?_, ?_, ?_, trivial⟩
            all_goals intro done vs ac W1 hdep hnd hB hR hX hE
            all_goals try simp only [Nat.zero_add, Nat.reduceAdd] at hnd ⊢
            all_goals have ec : ∀ v : Value, ac.eval (.const v) = v := fun _ => rfl
            all_goals try simp [Region.binds] at hdep
            · have e16 : ac.eval (.tmp 16) = .map (some gn) := (hE 16 (by simp)).trans (by simp [evF, Act.eval])
              exact soft_value (.map (some gn)) (by unfold execOp; simp only [e16, ec]; rfl) rfl
            · have e17 : ac.eval (.tmp 17) = .string b.port := (hE 17 (by simp)).trans (by simp [evF, Act.eval])
              exact soft_value (.string b.port) (by unfold execOp; simp only [e17, ec]; rfl) rfl
            · have e13 : ac.eval (.tmp 13) = .pointer (some ⟨gs, 0, none⟩) := (hE 13 (by simp)).trans (by simp [evF, Act.eval])
              exact wp_load_row 94 _ rfl (gs) e13 94 _ (0, 0) _ (HGS9.out.fr hB NGS9) Try.underlying94 rfl (by kernel_rfl) ⟨_, rfl, Below.refl _ _, rfl⟩
            · have e18 : ac.eval (.tmp 18) = .pointer (some ⟨gl, 0, none⟩) := (hE 18 (by simp)).trans (by simp [evF, Act.eval])
              exact wp_load_row 60 _ rfl (gl) e18 60 _ (0, 0) _ (HL9.out.fr hB NGL9) Try.underlying60 rfl (by kernel_rfl) ⟨_, rfl, Below.refl _ _, rfl⟩
            · have d2 : vs 2 = .agg #[.slice (some ⟨bv, ov, none⟩) n c1, .string fr, .int .i64 ch] := hR 2 (by simp [hdep])
              have e67 : ac.eval (.tmp 67) = .agg #[.slice (some ⟨bv, ov, none⟩) n c1, .string fr, .int .i64 ch] := (hE 67 (by simp)).trans (by simp [evF, hdep, d2])
              have d3 : vs 3 = .agg #[.int .i64 (l.v : Int), .int .i64 (l.f : Int), .int .i64 (l.t : Int)] := hR 3 (by simp [hdep])
              have e68 : ac.eval (.tmp 68) = .agg #[.int .i64 (l.v : Int), .int .i64 (l.f : Int), .int .i64 (l.t : Int)] := (hE 68 (by simp)).trans (by simp [evF, hdep, d3])
              refine soft_call 38 _ _ rfl (enters_fn Try.func38 (by kernel_rfl) rfl) #[.agg #[.slice (some ⟨bv, ov, none⟩) n c1, .string fr, .int .i64 ch], .agg #[.int .i64 (l.v : Int), .int .i64 (l.f : Int), .int .i64 (l.t : Int)]] (by simp [e67, e68]) ?_
              refine (HAR.out W1 hB).mono ?_
              rintro e9 w9 ⟨rfl, hb9⟩
              exact ⟨_, rfl, hb9, rfl⟩
            · have d4 : vs 4 = ag := hR 4 (by simp [hdep])
              have e69 : ac.eval (.tmp 69) = ag := (hE 69 (by simp)).trans (by simp [evF, hdep, d4])
              exact soft_value (.int .i64 b.arr) (by unfold execOp; simp only [e69]; simp [HFL.out, Result.andThen]) rfl
            · have e19 : ac.eval (.tmp 19) = .pointer (some ⟨b9, 0, none⟩) := (hE 19 (by simp)).trans (by simp [evF, Act.eval])
              exact soft_value (.pointer (some ⟨b9, 1, none⟩)) (by unfold execOp; simp only [e19]; kernel_rfl) rfl
            · have d6 : vs 6 = .pointer (some ⟨b9, 1, none⟩) := hR 6 (by simp [hdep])
              have e71 : ac.eval (.tmp 71) = .pointer (some ⟨b9, 1, none⟩) := (hE 71 (by simp)).trans (by simp [evF, hdep, d6])
              have hc1 : W1.cell? ⟨b9, 1, none⟩ = some (.slice s.A s.n s.c) := (HT9.out.fr hB NT9).cell 1
              exact soft_value (.slice s.A s.n s.c) (by unfold execOp; simp only [e71]; go_simp) rfl
            · have d7 : vs 7 = .slice s.A s.n s.c := hR 7 (by simp [hdep])
              have e72 : ac.eval (.tmp 72) = .slice s.A s.n s.c := (hE 72 (by simp)).trans (by simp [evF, hdep, d7])
              have d11 : done 11 = false := not_of hX.o11 hnd
              have d12 : done 12 = false := not_of (fun h => (hX.o12 h).1) d11
              have d13 : done 13 = false := not_of hX.o13 d12
              refine wp_call_fn 39 _ _ rfl (enters_fn Try.func39 (by kernel_rfl) rfl) #[.slice s.A s.n s.c] (by simp [e72]) ?_
              refine (clone_legs s.A s.n s.c s.legs W1 (HSL.out.nc (fr_old hB) HNX.out (fun x => by rw [lg_len]; omega)) (by have := HS9.out; omega)).mono ?_
              rintro e9 w10 ⟨v', rfl, ho', hb'⟩
              refine ⟨_, rfl, _, rfl, (Fr.refl _ _).on hb', ?_, trivial⟩
              have n10 : upDn done 8 10 = done 10 := up_ne done (by decide)
              have n11 : upDn done 8 11 = done 11 := up_ne done (by decide)
              have n12 : upDn done 8 12 = done 12 := up_ne done (by decide)
              have n13 : upDn done 8 13 = done 13 := up_ne done (by decide)
              have m10 : upVs vs 8 v' 10 = vs 10 := upv_ne vs v' (by decide)
              have m11 : upVs vs 8 v' 11 = vs 11 := upv_ne vs v' (by decide)
              have m12 : upVs vs 8 v' 12 = vs 12 := upv_ne vs v' (by decide)
              rw [up_same, upv_same, n10, n11, n12, n13, m10, m11, m12, d11, d12, d13]
              exact ⟨fun _ _ => own_lower_w ho' hB.size, fun q _ => (hX.c10 q d11).elim fun b h => ⟨b, h.1, h.2.below hb' h.2.lt⟩, fun h => (by cases h), fun _ => (hX.m0 d13).below hb' (hX.m0 d13).lt, fun h => (by cases h), fun h => (by cases h), fun h => (by cases h), fun h => (by cases h), fun h => (by cases h)⟩
            · have e18 : ac.eval (.tmp 18) = .pointer (some ⟨gl, 0, none⟩) := (hE 18 (by simp)).trans (by simp [evF, Act.eval])
              exact wp_load_row 60 _ rfl (gl) e18 60 _ (0, 0) _ (HL9.out.fr hB NGL9) Try.underlying60 rfl (by kernel_rfl) ⟨_, rfl, Below.refl _ _, rfl⟩
            · have d9 : vs 9 = .agg #[.int .i64 (l.v : Int), .int .i64 (l.f : Int), .int .i64 (l.t : Int)] := hR 9 (by simp [hdep])
              have e74 : ac.eval (.tmp 74) = .agg #[.int .i64 (l.v : Int), .int .i64 (l.f : Int), .int .i64 (l.t : Int)] := (hE 74 (by simp)).trans (by simp [evF, hdep, d9])
              have d11 : done 11 = false := not_of (fun h => hX.o11b h) hnd
              have d12 : done 12 = false := not_of (fun h => (hX.o12 h).1) d11
              have d13 : done 13 = false := not_of hX.o13 d12
              refine wp_bs1 51 60 1 _ rfl #[(0, .agg #[.int .i64 (l.v : Int), .int .i64 (l.f : Int), .int .i64 (l.t : Int)])] (by simp [e74]) #[.int .i64 (l.v : Int), .int .i64 (l.f : Int), .int .i64 (l.t : Int)] (lslice W1 l) ⟨_, rfl, (Fr.refl _ _).alloc _, ?_, trivial⟩
              obtain ⟨v', hv'⟩ : ∃ v', Value.slice (some ⟨W1.heap.size, 0, none⟩) 1 1 = v' := ⟨_, rfl⟩
              rw [hv']
              have hbk : Blk (W1.alloc (.cells #[.int .i64 (l.v : Int), .int .i64 (l.f : Int), .int .i64 (l.t : Int)] 60)) W1.heap.size 60 #[.int .i64 (l.v : Int), .int .i64 (l.f : Int), .int .i64 (l.t : Int)] := Blk.new _ _ _
              have n8 : upDn done 10 8 = done 8 := up_ne done (by decide)
              have n11 : upDn done 10 11 = done 11 := up_ne done (by decide)
              have n12 : upDn done 10 12 = done 12 := up_ne done (by decide)
              have n13 : upDn done 10 13 = done 13 := up_ne done (by decide)
              have m8 : upVs vs 10 v' 8 = vs 8 := upv_ne vs v' (by decide)
              have m11 : upVs vs 10 v' 11 = vs 11 := upv_ne vs v' (by decide)
              have m12 : upVs vs 10 v' 12 = vs 12 := upv_ne vs v' (by decide)
              rw [up_same, upv_same, n8, n11, n12, n13, m8, m11, m12, d11, d12, d13]
              exact ⟨fun q _ => (hX.c8 q d11).alloc _, fun _ _ => ⟨_, hv'.symm, hbk⟩, fun h => (by cases h), fun _ => (hX.m0 d13).alloc _, fun h => (by cases h), fun h => (by cases h), fun h => (by cases h), fun h => (by cases h), fun h => (by cases h)⟩
            · have d8 : vs 8 = vs 8 := rfl
              have e73 : ac.eval (.tmp 73) = (vs 8) := (hE 73 (by simp)).trans (by simp [evF, hdep, d8])
              have d10 : vs 10 = vs 10 := rfl
              have e75 : ac.eval (.tmp 75) = (vs 10) := (hE 75 (by simp)).trans (by simp [evF, hdep, d10])
              have d12 : done 12 = false := not_of (fun h => (hX.o12 h).1) hnd
              have d13 : done 13 = false := not_of hX.o13 d12
              have d8t : done 8 = true := by simp [hdep]
              have d10t : done 10 = true := by simp [hdep]
              have ho := hX.c8 d8t hnd
              obtain ⟨b10, hb10, hk10⟩ := hX.c10 d10t hnd
              rw [hb10] at e75
              refine wp_append_any W1 (.tmp 73) (.tmp 75) 51 rfl w9.heap.size 60 i0 _ 3 24 Try.underlying51 hi hz0 hz1 hz2 rfl hq0 (vs 8) s.n (s.legs.flatMap lgC) e73 ho W1.heap.size (some ⟨b10, 0, none⟩) 1 1 ([l].flatMap lgC) e75 ((SliceOf.blk (en := lgC) hk10 [l] rfl lg_len rfl).reads lg_len) (lg_one _) (by have := HS9.out; unfold maxLen; omega) (by have := HS9.out; omega) hB.size ?_
              intro v' w' ho' hg' hl'
              rw [← List.flatMap_append] at ho'
              have hng : (some gn : Option Nat) ≠ (vs 8).ownBlock := fun e => (hX.m0 d13).ne_own ho e.symm
              refine ⟨_, rfl, (Fr.refl _ _).grown hg' (fun k hk => .inl (.inr (ho.lt k hk).1)), ?_, trivial⟩
              have n8 : upDn done 11 8 = done 8 := up_ne done (by decide)
              have n10 : upDn done 11 10 = done 10 := up_ne done (by decide)
              have n12 : upDn done 11 12 = done 12 := up_ne done (by decide)
              have n13 : upDn done 11 13 = done 13 := up_ne done (by decide)
              have m8 : upVs vs 11 v' 8 = vs 8 := upv_ne vs v' (by decide)
              have m10 : upVs vs 11 v' 10 = vs 10 := upv_ne vs v' (by decide)
              have m12 : upVs vs 11 v' 12 = vs 12 := upv_ne vs v' (by decide)
              rw [up_same, upv_same, n8, n10, n12, n13, m8, m10, m12, d8t, d10t, d12, d13]
              exact ⟨fun _ h => (by cases h), fun _ h => (by cases h), fun _ => ho', fun _ => (hX.m0 d13).kept hg' hng, fun h => (by cases h), fun _ => rfl, fun _ => rfl, fun h => (by cases h), fun h => (by cases h)⟩
            · have d5 : vs 5 = .int .i64 b.arr := hR 5 (by simp [hdep])
              have e70 : ac.eval (.tmp 70) = .int .i64 b.arr := (hE 70 (by simp)).trans (by simp [evF, hdep, d5])
              have d11 : vs 11 = vs 11 := rfl
              have e76 : ac.eval (.tmp 76) = (vs 11) := (hE 76 (by simp)).trans (by simp [evF, hdep, d11])
              have d13 : done 13 = false := not_of hX.o13 hnd
              have d11t : done 11 = true := by simp [hdep]
              have ho := hX.c11 d11t
              obtain ⟨A11, c11, hv11⟩ := own_sl ho
              rw [hv11] at e76
              refine wp_value (.agg #[.int .i64 b.arr, .slice A11 (s.n + 1) c11]) (by unfold execOp; simp [e70, e76, stbuild2, Result.andThen]) ⟨_, rfl, Fr.refl _ _, ?_, trivial⟩
              obtain ⟨v', hv'⟩ : ∃ v', Value.agg #[.int .i64 b.arr, .slice A11 (s.n + 1) c11] = v' := ⟨_, rfl⟩
              rw [hv']
              have n8 : upDn done 12 8 = done 8 := up_ne done (by decide)
              have n10 : upDn done 12 10 = done 10 := up_ne done (by decide)
              have n11 : upDn done 12 11 = done 11 := up_ne done (by decide)
              have n13 : upDn done 12 13 = done 13 := up_ne done (by decide)
              have m8 : upVs vs 12 v' 8 = vs 8 := upv_ne vs v' (by decide)
              have m10 : upVs vs 12 v' 10 = vs 10 := upv_ne vs v' (by decide)
              have m11 : upVs vs 12 v' 11 = vs 11 := upv_ne vs v' (by decide)
              rw [up_same, upv_same, n8, n10, n11, n13, m8, m10, m11, d11t, d13]
              exact ⟨fun _ h => (by cases h), fun _ h => (by cases h), fun _ => ho, fun _ => hX.m0 d13, fun h => (by cases h), fun _ => hX.o11 d11t, fun _ => hX.o11b d11t, fun _ => ⟨rfl, by rw [hv11]; exact hv'.symm⟩, fun h => (by cases h)⟩
            · have d0 : vs 0 = .map (some gn) := hR 0 (by simp [hdep])
              have e65 : ac.eval (.tmp 65) = .map (some gn) := (hE 65 (by simp)).trans (by simp [evF, hdep, d0])
              have d1 : vs 1 = .string b.port := hR 1 (by simp [hdep])
              have e66 : ac.eval (.tmp 66) = .string b.port := (hE 66 (by simp)).trans (by simp [evF, hdep, d1])
              have d12 : vs 12 = vs 12 := rfl
              have e77 : ac.eval (.tmp 77) = (vs 12) := (hE 77 (by simp)).trans (by simp [evF, hdep, d12])
              have d12t : done 12 = true := by simp [hdep]
              have d11t := (hX.o12 d12t).1
              have ho := hX.c11 d11t
              obtain ⟨A11, c11, hv11⟩ := own_sl ho
              have h12 := (hX.o12 d12t).2
              rw [hv11] at h12
              rw [h12] at e77
              have hm := hX.m0 hnd
              obtain ⟨w10, hup, hm10, hg10, hz10⟩ := hm.put keyStr (P := Try.prog) (mty := 98) Try.underlying98 Try.underlying9 b.port ⟨b.arr, A11, s.n + 1, c11, s.legs ++ [l]⟩
              refine wp_upd (.tmp 65) (.tmp 66) (.tmp 77) 98 rfl _ _ _ e65 e66 e77 hup ⟨_, rfl, (Fr.refl _ _).grown hg10 (fun k hk => by injection hk with hk; exact .inl (.inl hk.symm)), ?_, trivial⟩
              have n8 : upDn done 13 8 = done 8 := up_ne done (by decide)
              have n10 : upDn done 13 10 = done 10 := up_ne done (by decide)
              have n11 : upDn done 13 11 = done 11 := up_ne done (by decide)
              have n12 : upDn done 13 12 = done 12 := up_ne done (by decide)
              have m8 : upVs vs 13 undef 8 = vs 8 := upv_ne vs undef (by decide)
              have m10 : upVs vs 13 undef 10 = vs 10 := upv_ne vs undef (by decide)
              have m11 : upVs vs 13 undef 11 = vs 11 := upv_ne vs undef (by decide)
              have m12 : upVs vs 13 undef 12 = vs 12 := upv_ne vs undef (by decide)
              rw [up_same, n8, n10, n11, n12, m8, m10, m11, m12, d11t, d12t]
              exact ⟨fun _ h => (by cases h), fun _ h => (by cases h), fun _ => ho.kept hg10 (.inr (fun e => hm.ne_own ho e)), fun h => (by cases h), fun _ => ⟨_, A11, c11, hv11, hm10⟩, fun _ => hX.o11 d11t, fun _ => hX.o11b d11t, fun _ => ⟨rfl, by rw [hv11]; exact h12⟩, fun _ => rfl⟩
          intro done vs W hall hB hR hX
          have hd11 := hall 11 (by simp)
          have hd13 := hall 13 (by simp)
          have ho := hX.c11 hd11
          obtain ⟨k', A', c', hv', hm'⟩ := hX.m1 hd13
          rw [hv'] at ho
          have hf := fr_old hB
          have HNN : Hid (Nxt us fr ready ch gn k' q (putF m2 b.port ⟨b.arr, A', s.n + 1, c', s.legs ++ [l]⟩) W) := Lib.hid ⟨hm', fun p x hp => (by
            unfold putF at hp
            split at hp
            · injection hp with hp
              subst hp
              exact SliceOf.of_own_s ho lg_len rfl (by rw [List.length_append, HLN.out]; rfl)
            · exact (HN9.out.lie p x hp).nc hf HNX.out (fun x => by rw [lg_len]; omega)), rea_put HSI.out HB9.out.rea HN9.out.rea HLA.out HMA.out HCU.out HPF.out A' c'⟩
          have HBN := Lib.hid (HB9.out.nc hf HNX.out (by have := HGN.out; omega) (by have := HGN.out; omega))
          have HMN : Hid (MapAt W gf es ck) := Lib.hid ((hf.block gf HM9.out.lt (by have := HGN.out; omega)).trans HM9.out)
          have HIN : Hid (IterAt W r gf ck (seen.push e.born) ck) := Lib.hid ((hf.block r (Array.getElem?_eq_some_iff.1 HI9.out).1 (by have := HRR.out; omega)).trans HI9.out)
          clear hd11 hd13 ho hv' hm' hf hB hR hX hall HN9 HB9 HM9 HI9 HGS9 HL9 HT9 HSL HAR HFL NGS9 NGL9 NT9 HNX
          simp only [fillA, Act.put, List.setIfInBounds_toArray, List.set_cons_zero, List.set_cons_succ, if_true]
          go_wp2_with fail
          go_roundw
          case rel => exact ⟨_, _, _, HMN, HIN, HBN, HNN⟩
          case measure => rw [left_of' HMN.out HIN.out, HMS.out]; exact HSH.out
    · have hq8' : ¬ (q : Int) < 8 := by omega
      clear HUN HSM
      cases hqt : m to with
      | none =>
        have hlk := HBS.out.map.look keyStr (P := Try.prog) (mty := 98) Try.underlying98 Try.underlying9 _ zero_st to true
        rw [hqt] at hlk
        simp only [Option.map_none, Option.getD_none, Option.isSome_none, if_true] at hlk
        have HE := Lib.hid (HBS.out.on (one_alloc _ (.cells #[.int .i64 0, .slice none 0 0] 97))).bel
        go_wp2_with ((refine stop_store 97 _ _ rfl ?_; refine wpList_store_new rfl 97 _ _ rfl _ rfl rfl (by kernel_rfl) rfl rfl ?_))
        refine bodyPost_ret (v := .tuple #[.slice none 0 0, .int .i64 0, .bool false]) (by first | kernel_rfl | simp [results, Try.results15, go_sem]) rfl ?_
        exact ⟨HE.out, .inl rfl⟩
      | some s =>
        have hlk := HBS.out.map.look keyStr (P := Try.prog) (mty := 98) Try.underlying98 Try.underlying9 _ zero_st to true
        rw [hqt] at hlk
        simp only [Option.map_some, Option.getD_some, Option.isSome_some, if_true] at hlk
        have HRE := Lib.hid (HBS.out.rea to s hqt)
        have HS9 : Hid (s.n ≤ 8) := Lib.hid (by have := HRE.out.2.2.1; omega)
        have HLN := Lib.hid HRE.out.2.1
        have HE := Lib.hid (HBS.out.on (one_alloc _ (.cells #[.int .i64 s.day, .slice s.A s.n s.c] 97))).bel
        have HSL := Lib.hid ((HBS.out.lie to s hqt).below (one_alloc _ (.cells #[.int .i64 s.day, .slice s.A s.n s.c] 97)))
        have HT9 := Lib.hid (Blk.new _ 97 #[.int .i64 s.day, .slice s.A s.n s.c] : Blk (wr.alloc (.cells #[.int .i64 s.day, .slice s.A s.n s.c] 97)) wr.heap.size 97 #[.int .i64 s.day, .slice s.A s.n s.c])
        clear hqt
        go_upto_region 20 with ((refine stop_store 97 _ _ rfl ?_; refine wpList_store_new rfl 97 _ _ rfl _ rfl rfl (by kernel_rfl) rfl rfl ?_))
        obtain ⟨w20, hw20⟩ : ∃ W, wr.alloc (.cells #[.int .i64 s.day, .slice s.A s.n s.c] 97) = W := ⟨_, rfl⟩
        obtain ⟨g20, hg20⟩ : ∃ g, wr.heap.size = g := ⟨_, rfl⟩
        rw [hw20] at HE HSL HT9 ⊢
        rw [hg20] at HT9
        simp only [hg20]
        clear hw20 hg20 hlk
        try simp only [Act.put, List.setIfInBounds_toArray, List.set_cons_zero, List.set_cons_succ]
        refine wp_region_soft [Is (.pointer (some ⟨g20, 1, none⟩)), Is (.slice s.A s.n s.c), SlOf 3 lgC s.n s.legs, Is (.pointer (some ⟨g20, 0, none⟩)), Is (.int .i64 s.day), SlOf 3 lgC s.n s.legs, Is (.int .i64 s.day), Is (.bool true)] ⟨stab_is _, stab_is _, stab_slof _ _ _ _, stab_is _, stab_is _, stab_slof _ _ _ _, stab_is _, stab_is _, trivial⟩ (by kernel_rfl) (by kernel_rfl) ?_ ?_
        · refine ⟨?_, ?_, ?_, ?_, ?_, ?_, ?_, ?_, trivial⟩
          all_goals intro done vs ac W1 hdep hB hR hE
          all_goals have ec : ∀ v : Value, ac.eval (.const v) = v := fun _ => rfl
          all_goals try simp [Region.binds] at hdep
          · have e20 : ac.eval (.tmp 20) = .pointer (some ⟨g20, 0, none⟩) := (hE 20 (by simp)).trans (by simp [evF, Act.eval])
            exact soft_value (.pointer (some ⟨g20, 1, none⟩)) (by unfold execOp; simp only [e20]; kernel_rfl) rfl
          · have d0 : vs 0 = .pointer (some ⟨g20, 1, none⟩) := hR 0 (by simp [hdep])
            have e88 : ac.eval (.tmp 88) = .pointer (some ⟨g20, 1, none⟩) := (hE 88 (by simp)).trans (by simp [evF, hdep, d0])
            have hc1 : W1.cell? ⟨g20, 1, none⟩ = some (.slice s.A s.n s.c) := (HT9.out.below hB HT9.out.lt).cell 1
            exact soft_value (.slice s.A s.n s.c) (by unfold execOp; simp only [e88]; go_simp) rfl
          · have d1 : vs 1 = .slice s.A s.n s.c := hR 1 (by simp [hdep])
            have e89 : ac.eval (.tmp 89) = .slice s.A s.n s.c := (hE 89 (by simp)).trans (by simp [evF, hdep, d1])
            refine soft_call 39 _ _ rfl (enters_fn Try.func39 (by kernel_rfl) rfl) #[.slice s.A s.n s.c] (by simp [e89]) ?_
            refine (clone_legs s.A s.n s.c s.legs W1 (HSL.out.below hB) (by have := HS9.out; omega)).mono ?_
            rintro e9 w10 ⟨v', rfl, ho', hb'⟩
            obtain ⟨A9, c9, rfl⟩ := own_sl ho'
            exact ⟨_, rfl, hb', A9, c9, rfl, SliceOf.of_own_s ho' lg_len rfl HLN.out⟩
          · have e20 : ac.eval (.tmp 20) = .pointer (some ⟨g20, 0, none⟩) := (hE 20 (by simp)).trans (by simp [evF, Act.eval])
            exact soft_value (.pointer (some ⟨g20, 0, none⟩)) (by unfold execOp; simp only [e20]; kernel_rfl) rfl
          · have d3 : vs 3 = .pointer (some ⟨g20, 0, none⟩) := hR 3 (by simp [hdep])
            have e91 : ac.eval (.tmp 91) = .pointer (some ⟨g20, 0, none⟩) := (hE 91 (by simp)).trans (by simp [evF, hdep, d3])
            have hc0 : W1.cell? ⟨g20, 0, none⟩ = some (.int .i64 s.day) := (HT9.out.below hB HT9.out.lt).cell 0
            exact soft_value (.int .i64 s.day) (by unfold execOp; simp only [e91]; go_simp) rfl
          · obtain ⟨A9, c9, d2, z2⟩ := (show (SlOf 3 lgC s.n s.legs) (vs 2) W1 from hR 2 (by simp [hdep]))
            have e90 : ac.eval (.tmp 90) = .slice A9 s.n c9 := (hE 90 (by simp)).trans (by simp [evF, hdep, d2])
            exact soft_value (.slice A9 s.n c9) (by unfold execOp; simp only [e90]; rfl) ⟨A9, c9, rfl, z2⟩
          · have d4 : vs 4 = .int .i64 s.day := hR 4 (by simp [hdep])
            have e92 : ac.eval (.tmp 92) = .int .i64 s.day := (hE 92 (by simp)).trans (by simp [evF, hdep, d4])
            exact soft_value (.int .i64 s.day) (by unfold execOp; simp only [e92, ec]; rfl) rfl
          · exact soft_value (.bool true) (by unfold execOp; simp only [ec]; rfl) rfl
        · intro vs W hB hR
          obtain ⟨A9, c9, r5, z5⟩ := (show (SlOf 3 lgC s.n s.legs) (vs 5) W from hR 5 (by simp))
          have r6 : vs 6 = .int .i64 s.day := hR 6 (by simp)
          have r7 : vs 7 = .bool true := hR 7 (by simp)
          have HB2 := Lib.hid (HE.out.trans (hB.mono HE.out.size))
          have HZ := Lib.hid z5
          clear hR hB z5
          simp only [fillA, Act.put, List.setIfInBounds_toArray, List.set_cons_zero, List.set_cons_succ, if_true, r5, r6, r7]
          go_wp2_with fail
          refine bodyPost_ret (v := .tuple #[.slice A9 s.n c9, .int .i64 s.day, .bool true]) (by first | kernel_rfl | simp [results, Try.results15, go_sem]) rfl ?_
          exact ⟨HB2.out, .inr ⟨A9, s.n, c9, s.legs, s.day, rfl, HZ.out, HRE.out.1.sift HSI.out, HS9.out⟩⟩
end Go.Proofs.Ytlicmhgpldmliaa.kit
