/- Two calendars made together, both ways: the book of that region. No condition. -/
import Derived.Test.YtmgijoomfailoaaDoorBoE
import Derived.Test.YtmgijoomfailoaaDoorBoC
import Derived.Test.YtmgijoomfailoaaDoorBook
namespace Go.Proofs.YtmgijoomfailoaaDoor.cal
open Go.RowKit Go.Proofs.YtmgijoomfailoaaDoor.kit
set_option linter.unusedVariables false

/-- A calendar by value, that reads as c. -/
def calAt (W : World) (v : Value) (c : Cal) : Prop := ∃ (A : Option Addr) (n k : Nat) (B : Option Addr) (m d : Nat), v = .agg #[.slice A n k, .slice B m d] ∧ SliceOf W 1 intC A n c.rest ∧ SliceOf W 1 intC B m c.hol ∧ n ≤ 40 ∧ m ≤ 120
/-- A box for a calendar, made since; full: it holds x. -/
def boxAt (W : World) (B : Nat) (v : Value) (full : Bool) (x : Value) : Prop := ∃ (g : Nat) (A : Option Addr) (n k : Nat) (A' : Option Addr) (m d : Nat), v = .pointer (some ⟨g, 0, none⟩) ∧ B ≤ g ∧ Blk W g 31 #[.slice A n k, .slice A' m d] ∧ (full = true → x = .agg #[.slice A n k, .slice A' m d])
theorem calAt.below {W W' : World} {v : Value} {c : Cal} (h : calAt W v c) (hb : Below W.heap.size W W') : calAt W' v c := by
  obtain ⟨A, n, k, B, m, d, h1, h2, h3, h4⟩ := h
  exact ⟨A, n, k, B, m, d, h1, h2.below hb, h3.below hb, h4⟩
theorem boxAt.below {W W' : World} {B : Nat} {v x : Value} {f : Bool} (h : boxAt W B v f x) (hb : Below W.heap.size W W') : boxAt W' B v f x := by
  obtain ⟨g, A, n, k, A', m, d, h1, h2, h3, h4⟩ := h
  exact ⟨g, A, n, k, A', m, d, h1, h2, h3.below hb h3.lt, h4⟩
structure BJ (w : World) (B : Nat) (a b : Cal) (ca cb : Array Value) (ga gb : Nat) (done : Nat → Bool) (vs : Nat → Value) (W : World) : Prop where
  bel : Below w.heap.size w W
  ka : Blk W ga 31 ca
  kb : Blk W gb 31 cb
  sz : B ≤ W.heap.size
  v0 : done 0 = true → vs 0 = .agg ca
  v1 : done 1 = true → vs 1 = .agg cb
  v3 : done 3 = true → vs 3 = .agg cb
  v4 : done 4 = true → vs 4 = .agg ca
  v2 : done 2 = true → calAt W (vs 2) (bothV a b)
  v5 : done 5 = true → calAt W (vs 5) (bothV b a)
  v6 : done 6 = true → boxAt W B (vs 6) (done 8) (vs 2)
  v7 : done 7 = true → boxAt W B (vs 7) (done 9) (vs 5)
  ne : done 6 = true → done 7 = true → vs 6 ≠ vs 7
  d8 : done 8 = true → done 2 = true ∧ done 6 = true
  d9 : done 9 = true → done 5 = true ∧ done 7 = true
section
variable {w W W' : World} {B : Nat} {a b : Cal} {ca cb : Array Value} {ga gb : Nat} {done : Nat → Bool} {vs : Nat → Value}
theorem BJ.below (h : BJ w B a b ca cb ga gb done vs W) (hb : Below W.heap.size W W') : BJ w B a b ca cb ga gb done vs W' :=
  ⟨h.bel.trans (hb.mono h.bel.size), h.ka.below hb h.ka.lt, h.kb.below hb h.kb.lt, Nat.le_trans h.sz hb.size, h.v0, h.v1, h.v3, h.v4, fun q => (h.v2 q).below hb, fun q => (h.v5 q).below hb, fun q => (h.v6 q).below hb, fun q => (h.v7 q).below hb, h.ne, h.d8, h.d9⟩
theorem BJ.at0 (h : BJ w B a b ca cb ga gb done vs W) (hn : done 0 = false) : BJ w B a b ca cb ga gb (upB done 0) (upV vs 0 (.agg ca)) W :=
  ⟨h.bel, h.ka, h.kb, h.sz, fun _ => rfl, by simpa [upB, upV] using h.v1, by simpa [upB, upV] using h.v3, by simpa [upB, upV] using h.v4, by simpa [upB, upV] using h.v2, by simpa [upB, upV] using h.v5, by simpa [upB, upV] using h.v6, by simpa [upB, upV] using h.v7, by simpa [upB, upV] using h.ne, by simpa [upB] using h.d8, by simpa [upB] using h.d9⟩
theorem BJ.at1 (h : BJ w B a b ca cb ga gb done vs W) (hn : done 1 = false) : BJ w B a b ca cb ga gb (upB done 1) (upV vs 1 (.agg cb)) W :=
  ⟨h.bel, h.ka, h.kb, h.sz, by simpa [upB, upV] using h.v0, fun _ => rfl, by simpa [upB, upV] using h.v3, by simpa [upB, upV] using h.v4, by simpa [upB, upV] using h.v2, by simpa [upB, upV] using h.v5, by simpa [upB, upV] using h.v6, by simpa [upB, upV] using h.v7, by simpa [upB, upV] using h.ne, by simpa [upB] using h.d8, by simpa [upB] using h.d9⟩
theorem BJ.at3 (h : BJ w B a b ca cb ga gb done vs W) (hn : done 3 = false) : BJ w B a b ca cb ga gb (upB done 3) (upV vs 3 (.agg cb)) W :=
  ⟨h.bel, h.ka, h.kb, h.sz, by simpa [upB, upV] using h.v0, by simpa [upB, upV] using h.v1, fun _ => rfl, by simpa [upB, upV] using h.v4, by simpa [upB, upV] using h.v2, by simpa [upB, upV] using h.v5, by simpa [upB, upV] using h.v6, by simpa [upB, upV] using h.v7, by simpa [upB, upV] using h.ne, by simpa [upB] using h.d8, by simpa [upB] using h.d9⟩
theorem BJ.at4 (h : BJ w B a b ca cb ga gb done vs W) (hn : done 4 = false) : BJ w B a b ca cb ga gb (upB done 4) (upV vs 4 (.agg ca)) W :=
  ⟨h.bel, h.ka, h.kb, h.sz, by simpa [upB, upV] using h.v0, by simpa [upB, upV] using h.v1, by simpa [upB, upV] using h.v3, fun _ => rfl, by simpa [upB, upV] using h.v2, by simpa [upB, upV] using h.v5, by simpa [upB, upV] using h.v6, by simpa [upB, upV] using h.v7, by simpa [upB, upV] using h.ne, by simpa [upB] using h.d8, by simpa [upB] using h.d9⟩
theorem BJ.at2 (h : BJ w B a b ca cb ga gb done vs W) (hn : done 2 = false) {v : Value} (hv : calAt W v (bothV a b)) : BJ w B a b ca cb ga gb (upB done 2) (upV vs 2 v) W := by
  have h8 : done 8 = false := by
    cases q : done 8
    · rfl
    · have := (h.d8 q).1; rw [hn] at this; cases this
  exact
  ⟨h.bel, h.ka, h.kb, h.sz, by simpa [upB, upV] using h.v0, by simpa [upB, upV] using h.v1, by simpa [upB, upV] using h.v3, by simpa [upB, upV] using h.v4, fun _ => by simpa [upV] using hv, by simpa [upB, upV] using h.v5,
    fun q => by
      obtain ⟨g, A, n, k, A', m, d, h1, h2, h3, _⟩ := h.v6 (by simpa [upB] using q)
      exact ⟨g, A, n, k, A', m, d, by simpa [upV] using h1, h2, h3, fun q8 => by simp [upB, h8] at q8⟩, by simpa [upB, upV] using h.v7, by simpa [upB, upV] using h.ne, by simp [upB]; exact fun q => (h.d8 q).2, by simpa [upB] using h.d9⟩
theorem BJ.at5 (h : BJ w B a b ca cb ga gb done vs W) (hn : done 5 = false) {v : Value} (hv : calAt W v (bothV b a)) : BJ w B a b ca cb ga gb (upB done 5) (upV vs 5 v) W := by
  have h9 : done 9 = false := by
    cases q : done 9
    · rfl
    · have := (h.d9 q).1; rw [hn] at this; cases this
  exact
  ⟨h.bel, h.ka, h.kb, h.sz, by simpa [upB, upV] using h.v0, by simpa [upB, upV] using h.v1, by simpa [upB, upV] using h.v3, by simpa [upB, upV] using h.v4, by simpa [upB, upV] using h.v2, fun _ => by simpa [upV] using hv, by simpa [upB, upV] using h.v6,
    fun q => by
      obtain ⟨g, A, n, k, A', m, d, h1, h2, h3, _⟩ := h.v7 (by simpa [upB] using q)
      exact ⟨g, A, n, k, A', m, d, by simpa [upV] using h1, h2, h3, fun q8 => by simp [upB, h9] at q8⟩, by simpa [upB, upV] using h.ne, by simpa [upB] using h.d8, by simp [upB]; exact fun q => (h.d9 q).2⟩
theorem BJ.at6 (h : BJ w B a b ca cb ga gb done vs W) (hn : done 6 = false) :
    BJ w B a b ca cb ga gb (upB done 6) (upV vs 6 (.pointer (some ⟨W.heap.size, 0, none⟩))) (W.alloc (.cells #[.slice none 0 0, .slice none 0 0] 31)) := by
  have h8 : done 8 = false := by
    cases q : done 8
    · rfl
    · have := (h.d8 q).2; rw [hn] at this; cases this
  have hb := one_alloc W (.cells #[.slice none 0 0, .slice none 0 0] 31)
  have h' := h.below hb
  refine ⟨h'.bel, h'.ka, h'.kb, h'.sz, by simpa [upB, upV] using h.v0, by simpa [upB, upV] using h.v1, by simpa [upB, upV] using h.v3, by simpa [upB, upV] using h.v4, by simpa [upB, upV] using h'.v2, by simpa [upB, upV] using h'.v5, ?_, by simpa [upB, upV] using h'.v7, ?_, by simp [upB]; intro q; first | exact (h.d8 q).1 | exact h.d8 q, by simp [upB]; intro q; first | exact (h.d9 q).1 | exact h.d9 q⟩
  · intro _
    exact ⟨W.heap.size, none, 0, 0, none, 0, 0, by simp [upV], h.sz, Blk.new _ _ _, fun q8 => by simp [upB, h8] at q8⟩
  · intro _ h7
    have h7' : done 7 = true := by simpa [upB] using h7
    obtain ⟨g, A, n, k, A', m, d, h1, h2, h3, _⟩ := h.v7 h7'
    have := h3.lt
    simp only [upV, if_true, show ¬ (7 : Nat) = 6 by omega, if_false, h1]
    intro e
    injection e with e
    injection e with e
    injection e with e
    omega
theorem BJ.at7 (h : BJ w B a b ca cb ga gb done vs W) (hn : done 7 = false) :
    BJ w B a b ca cb ga gb (upB done 7) (upV vs 7 (.pointer (some ⟨W.heap.size, 0, none⟩))) (W.alloc (.cells #[.slice none 0 0, .slice none 0 0] 31)) := by
  have h9 : done 9 = false := by
    cases q : done 9
    · rfl
    · have := (h.d9 q).2; rw [hn] at this; cases this
  have hb := one_alloc W (.cells #[.slice none 0 0, .slice none 0 0] 31)
  have h' := h.below hb
  refine ⟨h'.bel, h'.ka, h'.kb, h'.sz, by simpa [upB, upV] using h.v0, by simpa [upB, upV] using h.v1, by simpa [upB, upV] using h.v3, by simpa [upB, upV] using h.v4, by simpa [upB, upV] using h'.v2, by simpa [upB, upV] using h'.v5, by simpa [upB, upV] using h'.v6, ?_, ?_, by simp [upB]; intro q; first | exact (h.d8 q).1 | exact h.d8 q, by simp [upB]; intro q; first | exact (h.d9 q).1 | exact h.d9 q⟩
  · intro _
    exact ⟨W.heap.size, none, 0, 0, none, 0, 0, by simp [upV], h.sz, Blk.new _ _ _, fun q8 => by simp [upB, h9] at q8⟩
  · intro h6 _
    have h6' : done 6 = true := by simpa [upB] using h6
    obtain ⟨g, A, n, k, A', m, d, h1, h2, h3, _⟩ := h.v6 h6'
    have := h3.lt
    simp only [upV, if_true, show ¬ (6 : Nat) = 7 by omega, if_false, h1]
    intro e
    injection e with e
    injection e with e
    injection e with e
    omega
/-- A store into a block of a calendar. -/
theorem calAt.row {g : Nat} {v : Value} {c : Cal} {A1 A2 : Option Addr} {n1 c1 n2 c2 : Nat} {cells : Array Value} (h : calAt W v c) (hg : Blk W g 31 #[.slice A1 n1 c1, .slice A2 n2 c2]) : calAt (W.setRow g cells) v c := by
  obtain ⟨A, n, k, B, m, d, h1, h2, h3, h4⟩ := h
  have hs : W.heap.size ≤ (W.setRow g cells).heap.size := by simp [World.setRow]
  exact ⟨A, n, k, B, m, d, h1, SliceOf.row h2 hg hs (fun p hp => cell_setRow W g cells p hp), SliceOf.row h3 hg hs (fun p hp => cell_setRow W g cells p hp), h4⟩
theorem boxAt.far {g : Nat} {cells : Array Value} {B' : Nat} {v x : Value} {f : Bool} (h : boxAt W B' v f x) (hne : v ≠ .pointer (some ⟨g, 0, none⟩)) : boxAt (W.setRow g cells) B' v f x := by
  obtain ⟨g', A, n, k, A', m, d, h1, h2, h3, h4⟩ := h
  refine ⟨g', A, n, k, A', m, d, h1, h2, (setRow_other W g g' cells (fun e => hne (by rw [h1, e]))).trans h3, h4⟩
theorem BJ.at8 (h : BJ w B a b ca cb ga gb done vs W) (hga : ga < B) (hgb : gb < B) (hw : w.heap.size ≤ B) (h2 : done 2 = true) (h6 : done 6 = true) : ∃ (g : Nat) (old cells : Array Value), vs 6 = .pointer (some ⟨g, 0, none⟩) ∧ vs 2 = .agg cells ∧ Blk W g 31 old ∧ old.size = 2 ∧ cells.size = 2 ∧ (cells.all (·.oneCell') = true) ∧ BJ w B a b ca cb ga gb (upB done 8) (upV vs 8 undef) (W.setRow g cells) := by
  obtain ⟨A, n, k, A', m, d, c1, c2, c3, c4⟩ := h.v2 h2
  obtain ⟨g, P, p, q, P', p', q', b1, b2, b3, _⟩ := h.v6 h6
  have hn : Blk (W.setRow g #[.slice A n k, .slice A' m d]) g 31 #[.slice A n k, .slice A' m d] := setRow_heap W g _ _ _ (0, 0) b3
  refine ⟨g, _, #[.slice A n k, .slice A' m d], b1, c1, b3, rfl, rfl, by simp [Value.oneCell'], ⟨?_, ?_, ?_, ?_, ?_, ?_, ?_, ?_, ?_, ?_, ?_, ?_, ?_, ?_, ?_⟩⟩
  · exact h.bel.trans ⟨rfl, rfl, rfl, by simp [World.setRow], fun j hj => setRow_other W g j _ (by omega)⟩
  · exact (setRow_other W g ga _ (by omega)).trans h.ka
  · exact (setRow_other W g gb _ (by omega)).trans h.kb
  · have := h.sz; simpa [World.setRow] using this
  · simpa [upB, upV] using h.v0
  · simpa [upB, upV] using h.v1
  · simpa [upB, upV] using h.v3
  · simpa [upB, upV] using h.v4
  · intro q; have := (h.v2 (by simpa [upB] using q)).row (cells := #[.slice A n k, .slice A' m d]) b3; simpa [upV] using this
  · intro q; have := (h.v5 (by simpa [upB] using q)).row (cells := #[.slice A n k, .slice A' m d]) b3; simpa [upV] using this
  · intro q
    exact ⟨g, A, n, k, A', m, d, by simpa [upV] using b1, b2, hn, fun _ => by simpa [upV] using c1⟩
  · intro q
    have h7 : done 7 = true := by simpa [upB] using q
    have := (h.v7 h7).far (cells := #[.slice A n k, .slice A' m d]) (g := g) (fun e => h.ne h6 h7 (by rw [b1, e]))
    simpa [upB, upV] using this
  · simpa [upB, upV] using h.ne
  · intro _; exact ⟨by simpa [upB] using h2, by simpa [upB] using h6⟩
  · simpa [upB] using h.d9
theorem BJ.at9 (h : BJ w B a b ca cb ga gb done vs W) (hga : ga < B) (hgb : gb < B) (hw : w.heap.size ≤ B) (h5 : done 5 = true) (h7 : done 7 = true) : ∃ (g : Nat) (old cells : Array Value), vs 7 = .pointer (some ⟨g, 0, none⟩) ∧ vs 5 = .agg cells ∧ Blk W g 31 old ∧ old.size = 2 ∧ cells.size = 2 ∧ (cells.all (·.oneCell') = true) ∧ BJ w B a b ca cb ga gb (upB done 9) (upV vs 9 undef) (W.setRow g cells) := by
  obtain ⟨A, n, k, A', m, d, c1, c2, c3, c4⟩ := h.v5 h5
  obtain ⟨g, P, p, q, P', p', q', b1, b2, b3, _⟩ := h.v7 h7
  have hn : Blk (W.setRow g #[.slice A n k, .slice A' m d]) g 31 #[.slice A n k, .slice A' m d] := setRow_heap W g _ _ _ (0, 0) b3
  refine ⟨g, _, #[.slice A n k, .slice A' m d], b1, c1, b3, rfl, rfl, by simp [Value.oneCell'], ⟨?_, ?_, ?_, ?_, ?_, ?_, ?_, ?_, ?_, ?_, ?_, ?_, ?_, ?_, ?_⟩⟩
  · exact h.bel.trans ⟨rfl, rfl, rfl, by simp [World.setRow], fun j hj => setRow_other W g j _ (by omega)⟩
  · exact (setRow_other W g ga _ (by omega)).trans h.ka
  · exact (setRow_other W g gb _ (by omega)).trans h.kb
  · have := h.sz; simpa [World.setRow] using this
  · simpa [upB, upV] using h.v0
  · simpa [upB, upV] using h.v1
  · simpa [upB, upV] using h.v3
  · simpa [upB, upV] using h.v4
  · intro q; have := (h.v2 (by simpa [upB] using q)).row (cells := #[.slice A n k, .slice A' m d]) b3; simpa [upV] using this
  · intro q; have := (h.v5 (by simpa [upB] using q)).row (cells := #[.slice A n k, .slice A' m d]) b3; simpa [upV] using this
  · intro q
    have h6 : done 6 = true := by simpa [upB] using q
    have := (h.v6 h6).far (cells := #[.slice A n k, .slice A' m d]) (g := g) (fun e => h.ne h6 h7 (by rw [b1, e]))
    simpa [upB, upV] using this
  · intro q
    exact ⟨g, A, n, k, A', m, d, by simpa [upV] using b1, b2, hn, fun _ => by simpa [upV] using c1⟩
  · simpa [upB, upV] using h.ne
  · simpa [upB] using h.d8
  · intro _; exact ⟨by simpa [upB] using h5, by simpa [upB] using h7⟩
end
end Go.Proofs.YtmgijoomfailoaaDoor.cal
