/- Voyages: copies of legs, of maps; how many a map holds; walking over one. No condition. -/
import Derived.Test.YtlicmhgpldmliaaWyG
import Derived.Test.YtlicmhgpldmliaaLaygW
import Derived.Lib.Slices
import Derived.Laws.IdiomRangeMap
import Derived.Test.YtlicmhgpldmliaaSoftX
namespace Go.Proofs.Ytlicmhgpldmliaa.kit
open Go.RowKit
set_option linter.unusedVariables false
set_option linter.unusedSimpArgs false
theorem infoLg : (Try.prog.info? 60).map (fun i => (i.zero, i.size, i.bytes)) = some (some (.agg #[.int .i64 0, .int .i64 0, .int .i64 0]), 3, 24) := by kernel_rfl
/-- Legs that a clone copies: a row of one's own. -/
theorem clone_legs (A : Option Addr) (n c : Nat) (xs : List Lg) (w : World) (hx : SliceOf w 3 lgC A n xs) (hm : n ≤ 4096) :
    Calls Try.prog 39 #[.slice A n c] w fun e w' => ∃ v, e = .returned v ∧ w'.ownsRow w.heap.size 60 3 v n (xs.flatMap lgC) ∧ Below w.heap.size w w' := by
  have q : ∀ (w : World) (a : Option Addr) (n c n' c' : Nat), (binOp .eql 51 (.slice a n c) (.slice none n' c')).run Try.prog w = .ok (.bool a.isNone) w := fun w a n c n' c' => Lib.run_eql_slice_nil w _ _ a n c n' c' Try.underlying51
  cases A with
  | none =>
    have hn : n = 0 := by
      rcases Nat.eq_zero_or_pos n with h | h
      · exact h
      · obtain ⟨b, off, h2, _⟩ := hx.at_ h
        cases h2
    subst hn
    have hxs : xs = [] := List.eq_nil_of_length_eq_zero hx.len
    subst hxs
    clear hx
    go_enter Try.func39, Try.ntmps39
    go_wp2_with fail
    go_ret
    exact ⟨_, rfl, World.ownsRow_nil _ _ _ _, Below.refl _ _⟩
  | some a =>
    have HR := Lib.hid ((hx.below (one_alloc w (.cells #[] 60))).reads lg_len)
    have HO := Lib.hid (own_first0 (e := 60) (C := 3) w)
    have HB := Lib.hid (one_alloc w (.cells #[] 60))
    have hbs : (Instr.buildSlice 51 0 #[]).run Try.prog w = .ok (.slice (some ⟨w.heap.size, 0, none⟩) 0 0) (w.alloc (.cells #[] 60)) := by kernel_rfl
    obtain ⟨i0, hi, hz0, hz1, hz2⟩ := info_parts infoLg
    have HS : Hid (w.heap.size ≤ (w.alloc (.cells #[] 60)).heap.size) := Lib.hid (size_first0 _ _)
    clear hx
    go_enter Try.func39, Try.ntmps39
    go_wp2_with (at_builtin; refine wpList_append_any_s _ rfl (.tmp 5) (.tmp 6) 51 rfl w.heap.size 60 i0 _ 3 24 Try.underlying51 hi hz0 hz1 hz2 rfl (by omega) _ 0 [] rfl HO.out _ (some a) n c (xs.flatMap lgC) rfl HR.out (lg_one xs) (by unfold maxLen; omega) (by omega) HS.out ?_; intro A9 c9 w9 hown9 hg9 hl9; have HB9 := Lib.hid (grown_emp0 HB.out hg9 (Nat.le_refl _)); have HO9 := Lib.hid hown9; clear hown9 hg9 hl9)
    go_ret
    exact ⟨_, rfl, by simpa using HO9.out, HB9.out⟩
/-- The copy of a map. -/
theorem clone_map (gr nm : Nat) (m : ByteArray → Option Stp) (w : World) (h : SMap w gr nm m) :
    Calls Try.prog 37 #[.map (some gr)] w fun e w' => e = .returned (.map (some w.heap.size)) ∧ SMap w' w.heap.size nm m ∧ Below w.heap.size w w' := by
  obtain ⟨es, ck, ys, h1, h2⟩ := h
  refine (AnyW.maps_Clone Try.cloneB gr es ck w h1).mono ?_
  rintro e w' ⟨rfl, rfl⟩
  exact ⟨rfl, ⟨es, ck, ys, heap_alloc_new w _, h2⟩, one_alloc _ _⟩
theorem glen {W : World} {gf nf : Nat} {mf : ByteArray → Option Lg} (h : GMap W gf nf mf) (ty : TypeId) : (Builtin.len_ #[99] ty #[.map (some gf)]).run Try.prog W = .ok (.int .i64 nf) W := by
  obtain ⟨es, ck, ys, h1, h2, h3, h4, _⟩ := h
  have h5 : es.size = nf := by
    have := congrArg List.length h3
    simp only [List.length_map, Array.length_toList] at this
    omega
  simp [Builtin.len_, run_underlying Try.underlying99, MapKept.run_getObj_map h1, Result.andThen, goInt, h5]
/-- A map of legs, opened for a walk over it. -/
theorem gopen {W : World} {gf nf : Nat} {mf : ByteArray → Option Lg} (h : GMap W gf nf mf) : ∃ es ck, MapAt W gf es ck ∧ MapKept.Stamped es ck ∧ ∀ e ∈ es.toList, ∃ p l, e.key = .string p ∧ e.val = .agg #[.int .i64 l.v, .int .i64 l.f, .int .i64 l.t] ∧ mf p = some l := by
  obtain ⟨es, ck, ys, h1, h2, h3, h4, h5⟩ := h
  refine ⟨es, ck, h1, h2, fun e he => ?_⟩
  have h6 : (e.key, e.val) ∈ es.toList.map (fun e => (e.key, e.val)) := List.mem_map.2 ⟨e, he, rfl⟩
  rw [h3] at h6
  obtain ⟨p, hp, hpe⟩ := List.mem_map.1 h6
  injection hpe with h7 h8
  exact ⟨p.1, p.2, h7.symm, h8.symm, (h5 _ _).2 hp⟩
theorem left_of' {w : World} {b r since last ck : Nat} {es : Array MapEntry} {seen : Array Nat} (hM : MapAt w b es ck) (hI : IterAt w r b since seen last) : w.rangeLeft b r = (leftOf es seen).size := by
  unfold World.rangeLeft
  unfold MapAt at hM
  unfold IterAt at hI
  rw [hM, hI]
/-- The legs of what was reached lie there. -/
def LegsLie (W : World) (m : ByteArray → Option Stp) : Prop := ∀ p s, m p = some s → SliceOf W 3 lgC s.A s.n s.legs
theorem LegsLie.below {W W' : World} {m : ByteArray → Option Stp} (h : LegsLie W m) (hb : Below W.heap.size W W') : LegsLie W' m := fun p s hp => (h p s hp).below hb
theorem LegsLie.kp {W W' : World} {m : ByteArray → Option Stp} {gr : Nat} (h : LegsLie W m) (hk : Kp1 gr W W') {es : Array MapEntry} {ck : Nat} (hm : MapAt W gr es ck) : LegsLie W' m := fun p s hp => (h p s hp).kp hk (fun x => by rw [lg_len]; omega) hm
/-- What was reached within q rides. -/
def Rea (us : List Vy) (fr : ByteArray) (ready ch : Int) (q : Nat) (m : ByteArray → Option Stp) : Prop :=
  ∀ p s, m p = some s → WayP us fr ready ch s.legs p s.day ∧ s.legs.length = s.n ∧ s.n ≤ q ∧ 0 ≤ s.day ∧ s.day ≤ 1048576
theorem Rea.mono {us : List Vy} {fr : ByteArray} {ready ch : Int} {q q' : Nat} {m : ByteArray → Option Stp} (h : Rea us fr ready ch q m) (hq : q ≤ q') : Rea us fr ready ch q' m := fun p s hp => by
  obtain ⟨h1, h2, h3, h4⟩ := h p s hp
  exact ⟨h1, h2, by omega, h4⟩
/-- A voyage with a call is one that may be. -/
theorem sift_ok {vs us : List Vy} (h : Sift vs us) {l : Lg} {v : Vy} {a b : Cl} (hl : legA us l = some (v, a, b)) : VyOK v ∧ legA vs l = some (v, a, b) := by
  obtain ⟨h1, h2, h3, h4⟩ := legA_some.1 hl
  rcases h.2 _ _ h1 with ⟨rfl, _⟩ | ⟨h5, h6⟩
  · simp [Vz] at h2
  · exact ⟨h6, legA_some.2 ⟨h5, h2, h3, h4⟩⟩
theorem sift_back {vs us : List Vy} (h : Sift vs us) {l : Lg} {v : Vy} {a b : Cl} (hl : legA vs l = some (v, a, b)) (hv : VyOK v) : legA us l = some (v, a, b) := by
  obtain ⟨h1, h2, h3, h4⟩ := legA_some.1 hl
  have hlt := (List.getElem?_eq_some_iff.1 h1).1
  obtain ⟨u, hu⟩ : ∃ u, us[l.v]? = some u := ⟨_, List.getElem?_eq_getElem (by rw [h.1]; exact hlt)⟩
  rcases h.2 _ _ hu with ⟨_, h5⟩ | ⟨h5, _⟩
  · exact absurd hv (h5 v h1)
  · rw [h1] at h5
    injection h5 with h5
    subst h5
    exact legA_some.2 ⟨hu, h2, h3, h4⟩
theorem WayP.sift {vs us : List Vy} {fr : ByteArray} {ready ch : Int} (hs : Sift vs us) : ∀ {ls : List Lg} {p : ByteArray} {d : Int}, WayP us fr ready ch ls p d → WayP vs fr ready ch ls p d := by
  intro ls p d h
  induction h with
  | here => exact .here
  | on h hl hv ha hc hb ih => exact .on ih (sift_ok hs hl).2 hv ha hc hb
/-- A ride more. -/
theorem rea_put {vs us : List Vy} {fr : ByteArray} {ready ch : Int} {q : Nat} {m m2 : ByteArray → Option Stp} (hs : Sift vs us) (hm : Rea us fr ready ch q m) (h2 : Rea us fr ready ch (q + 1) m2) {l : Lg} {v : Vy} {a b : Cl} {s : Stp} (hl : legA us l = some (v, a, b)) (ha : m a.port = some s) (hc : (if a.port = fr then s.day else s.day + ch) ≤ a.cut) (hb : b.port ≠ fr) (A : Option Addr) (c : Nat) :
    Rea us fr ready ch (q + 1) (putF m2 b.port ⟨b.arr, A, s.n + 1, c, s.legs ++ [l]⟩) := by
  intro p x hp
  unfold putF at hp
  by_cases e : p = b.port
  · rw [if_pos e] at hp
    injection hp with hp
    subst hp
    obtain ⟨w1, w2, w3, w4⟩ := hm _ _ ha
    have hv := (sift_ok hs hl).1
    have hbo := (hv.2.1 _ _ (legA_some.1 hl).2.2.1).2.2.1
    rw [e]
    exact ⟨.on w1 hl hv rfl hc hb, by rw [List.length_append, w2]; rfl, by show s.n + 1 ≤ q + 1; omega, hbo.1, hbo.2⟩
  · rw [if_neg e] at hp
    exact h2 p x hp
end Go.Proofs.Ytlicmhgpldmliaa.kit
