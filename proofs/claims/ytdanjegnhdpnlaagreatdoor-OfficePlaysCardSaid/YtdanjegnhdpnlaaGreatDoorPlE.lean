/- The document's office takes a letter. No condition. -/
import Derived.Test.YtdanjegnhdpnlaaGreatDoorPlD
import Derived.Test.YtdanjegnhdpnlaaGreatDoorOfT
namespace Go.Proofs.YtdanjegnhdpnlaaGreatDoor.kit
open Go.RowKit Go.PlainAid
set_option linter.unusedVariables false
set_option linter.unusedSimpArgs false
set_option maxRecDepth 100000
set_option maxHeartbeats 12800000
/-! a result that is stored once -/
def ResX (gr k src : Nat) (done : Nat → Bool) (vs : Nat → Value) (W : World) : Prop :=
  (done k = false → Blk W gr 37 #[.slice none 0 0, .slice none 0 0]) ∧ (done k = true → done src = true ∧ ∃ cs, vs src = .agg cs ∧ Blk W gr 37 cs)
theorem resX_stab {bs : List Bool} {gr k src : Nat} (hk : isBig bs k = true) : XStab bs (ResX gr k src) := by
  intro q hq done vs v W W' ⟨h1, h2⟩ hnd hb
  have hne : k ≠ q := by rintro rfl; rw [hk] at hq; cases hq
  refine ⟨fun h => ?_, fun h => ?_⟩
  · rw [up_ne done hne] at h
    exact (h1 h).below hb (h1 h).lt
  · rw [up_ne done hne] at h
    obtain ⟨h3, cs, h4, h5⟩ := h2 h
    have hs : src ≠ q := by rintro rfl; rw [hnd] at h3; cases h3
    exact ⟨by rw [up_ne done hs]; exact h3, cs, by rw [upv_ne vs v hs]; exact h4, h5.below hb h5.lt⟩
theorem resX_start {gr k src : Nat} {vs : Nat → Value} {W : World} (h : Blk W gr 37 #[.slice none 0 0, .slice none 0 0]) : ResX gr k src (fun _ => false) vs W := ⟨fun _ => h, fun h => (by cases h)⟩
theorem resX_put {gr k src : Nat} {done : Nat → Bool} {vs : Nat → Value} {W : World} {cs : Array Value} {v : Value} (hd : done src = true) (hs : vs src = .agg cs) (hne : src ≠ k) (hb : Blk W gr 37 cs) : ResX gr k src (upDn done k) (upVs vs k v) W :=
  ⟨fun h => (by rw [up_same] at h; cases h), fun _ => ⟨by rw [up_ne done hne]; exact hd, cs, by rw [upv_ne vs v hne]; exact hs, hb⟩⟩
/-! what stays while that one block is turned -/
section
variable {S : Nat → Prop} {B : Nat}
theorem stabf_dochi (hs : ∀ k, S k → k < B) (d : Dl) (m : Mon) : StabF S (DocHi B d m) := fun _ _ _ ⟨A, c, h1, h2, h3⟩ hf => ⟨A, c, h1, h2.fr hf (fun b off e q => by have := h3 b off e; have := hs b q; omega), h3⟩
theorem stabf_docv (hs : ∀ k, S k → k < B) (p : Pp) : StabF S (DocV B p) := fun _ _ _ ⟨g, h1, h2⟩ hf => ⟨g, h1, (h2.fr hf (fun k hk _ q => by have := hs k q; omega)).wide (Nat.le_refl _) hf.size⟩
/-- Letters, as a value. -/
def OlV (B : Nat) (dl : ByteArray) (dy : Int) (xs : List Ol) : Value → World → Prop := fun v W => v = v ∧ OlAt W B v dl dy xs
theorem stab_olv (B : Nat) (dl : ByteArray) (dy : Int) (xs : List Ol) : Stab (OlV B dl dy xs) := fun _ _ _ h hb => ⟨rfl, h.2.below hb⟩
theorem stabf_olv (hs : ∀ k, S k → k < B) (dl : ByteArray) (dy : Int) (xs : List Ol) : StabF S (OlV B dl dy xs) := fun _ _ _ h hf => ⟨rfl, h.2.fr hf (fun k hk _ q => by have := hs k q; omega)⟩
/-- A letter with one paper. -/
def LetW (B : Nat) (a dl : ByteArray) (dy : Int) (p : Pp) : Value → World → Prop := fun v W => ∃ g, v = .agg #[.string ⟨#[]⟩, .string a, .int .i64 0, .int .i64 7, .int .i64 0, .string dl, .string ⟨#[]⟩, .string ⟨#[]⟩, .int .i64 0, .int .i64 dy, .string ⟨#[]⟩, .int .i64 0, .slice (some ⟨g, 0, none⟩) 1 1, .slice none 0 0] ∧ DocsAt W B W.heap.size (.slice (some ⟨g, 0, none⟩) 1 1) (some p)
theorem stab_letw (B : Nat) (a dl : ByteArray) (dy : Int) (p : Pp) : Stab (LetW B a dl dy p) := fun _ _ _ ⟨g, h1, h2⟩ hb => ⟨g, h1, (h2.below hb).wide (Nat.le_refl _) hb.size⟩
theorem stabf_letw (hs : ∀ k, S k → k < B) (a dl : ByteArray) (dy : Int) (p : Pp) : StabF S (LetW B a dl dy p) := fun _ _ _ ⟨g, h1, h2⟩ hf => ⟨g, h1, (h2.fr hf (fun k hk _ q => by have := hs k q; omega)).wide (Nat.le_refl _) hf.size⟩
end
theorem lbuildW (w : World) (a dl : ByteArray) (dy : Int) (g : Nat) : (Instr.build 57 #[(1, .string a), (3, .int .i64 7), (5, .string dl), (9, .int .i64 dy), (11, .slice (some ⟨g, 0, none⟩) 1 1)]).run Tryz.prog w = .ok (.agg #[.string ⟨#[]⟩, .string a, .int .i64 0, .int .i64 7, .int .i64 0, .string dl, .string ⟨#[]⟩, .string ⟨#[]⟩, .int .i64 0, .int .i64 dy, .string ⟨#[]⟩, .int .i64 0, .slice (some ⟨g, 0, none⟩) 1 1, .slice none 0 0]) w := run_build w _ _ _ (by kernel_rfl)
theorem lsliceW (w : World) (a dl : ByteArray) (dy : Int) (g : Nat) : (Instr.buildSlice 30 1 #[(0, .agg #[.string ⟨#[]⟩, .string a, .int .i64 0, .int .i64 7, .int .i64 0, .string dl, .string ⟨#[]⟩, .string ⟨#[]⟩, .int .i64 0, .int .i64 dy, .string ⟨#[]⟩, .int .i64 0, .slice (some ⟨g, 0, none⟩) 1 1, .slice none 0 0])]).run Tryz.prog w = .ok (.slice (some ⟨w.heap.size, 0, none⟩) 1 1) (w.alloc (.cells #[.string ⟨#[]⟩, .string a, .int .i64 0, .int .i64 7, .int .i64 0, .string dl, .string ⟨#[]⟩, .string ⟨#[]⟩, .int .i64 0, .int .i64 dy, .string ⟨#[]⟩, .int .i64 0, .slice (some ⟨g, 0, none⟩) 1 1, .slice none 0 0] 57)) := by kernel_rfl
theorem lbuildM (w : World) (a dl cu : ByteArray) (dy am : Int) : (Instr.build 57 #[(1, .string a), (3, .int .i64 16), (5, .string dl), (9, .int .i64 dy), (10, .agg #[.string cu, .int .i64 am])]).run Tryz.prog w = .ok (.agg #[.string ⟨#[]⟩, .string a, .int .i64 0, .int .i64 16, .int .i64 0, .string dl, .string ⟨#[]⟩, .string ⟨#[]⟩, .int .i64 0, .int .i64 dy, .string cu, .int .i64 am, .slice none 0 0, .slice none 0 0]) w := run_build w _ _ _ (by kernel_rfl)
theorem lsliceM (w : World) (a dl cu : ByteArray) (dy am : Int) : (Instr.buildSlice 30 1 #[(0, .agg #[.string ⟨#[]⟩, .string a, .int .i64 0, .int .i64 16, .int .i64 0, .string dl, .string ⟨#[]⟩, .string ⟨#[]⟩, .int .i64 0, .int .i64 dy, .string cu, .int .i64 am, .slice none 0 0, .slice none 0 0])]).run Tryz.prog w = .ok (.slice (some ⟨w.heap.size, 0, none⟩) 1 1) (w.alloc (.cells #[.string ⟨#[]⟩, .string a, .int .i64 0, .int .i64 16, .int .i64 0, .string dl, .string ⟨#[]⟩, .string ⟨#[]⟩, .int .i64 0, .int .i64 dy, .string cu, .int .i64 am, .slice none 0 0, .slice none 0 0] 57)) := by kernel_rfl
theorem due_nn (d : Dl) : 0 ≤ dueV d := by
  unfold dueV
  split
  · rename_i h; exact h.2
  · exact Int.le_refl _
/-- What the document's Take brings. -/
def RTake (w : World) (A0 B0 : Option Addr) (of pa : List Int) (i : Nat) (dl : ByteArray) (dy : Int) (r : List Ol × St) (e : Ending) (w' : World) : Prop :=
  ∃ A c B d v, e = .returned (.tuple #[.agg #[.slice A of.length c, .slice B pa.length d], v]) ∧ Below w.heap.size w w' ∧ SliceOf w' 1 inC A of.length (of.set i r.2.st) ∧ SliceOf w' 1 inC B pa.length (pa.set i r.2.paid) ∧ OlAt w' w.heap.size v dl dy r.1 ∧ (∀ x off, A = some ⟨x, off, none⟩ → w.heap.size ≤ x ∨ A = A0) ∧ ∀ x off, B = some ⟨x, off, none⟩ → w.heap.size ≤ x ∨ B = B0
theorem set_same {xs : List Int} {i : Nat} {z : Int} (h : xs[i]? = some z) : xs.set i z = xs := by
  obtain ⟨hi, he⟩ := List.getElem?_eq_some_iff.1 h
  rw [← he]
  exact List.set_getElem_self hi
theorem rt_same {w w9 : World} {A B : Option Addr} {n c d i : Nat} {of pa : List Int} {dl : ByteArray} {dy : Int} {S : St} (hA : SliceOf w 1 inC A n of) (hB : SliceOf w 1 inC B n pa) (hof : of[i]? = some S.st) (hpa : pa[i]? = some S.paid) (hb : Below w.heap.size w w9) :
    RTake w A B of pa i dl dy ([], S) (.returned (.tuple #[.agg #[.slice A n c, .slice B n d], .slice none 0 0])) w9 :=
  ⟨A, c, B, d, _, by rw [hA.len, hB.len], hb, by rw [set_same hof, hA.len]; exact hA.below hb, by rw [set_same hpa, hB.len]; exact hB.below hb, .inl ⟨rfl, rfl⟩, fun _ _ _ => .inr rfl, fun _ _ _ => .inr rfl⟩
theorem quiet_load {P : Program} {o : Oper} {a : Act} {C : World → Prop} {K : Act → Prop} (ty : TypeId) (x : Operand) (ho : o.op = .load ty x) (ad : Addr) (hx : a.eval x = .pointer (some ad)) (v : Value)
    (h : ∀ w, C w → (loadVar ty ad).run P w = .ok v w) (hk : K (a.put o.dst v)) : o.quiet P a C K :=
  ⟨v, fun w hc => by
    unfold Oper.quietAt execOp
    simp only [ho, hx, Instr.loadAt, Instr.sureAddr, Sem.run_bind, Sem.run_pure, Result.andThen_ok, h w hc]
    exact ⟨rfl, rfl⟩, hk⟩

theorem rtake_some (s : Su) (nm : ByteArray) (ps : List Pty) (xs : List Dx) (aA oA aB oB n c cB : Nat) (of pa : List Int) (l : Lt) (dy : Int) (i : Nat) (x : Dx) (S : St) (w : World)
    (hp : SliceOf w 3 ptyC s.pA s.pn ps) (hd : SliceOf w 17 dxC s.dA s.dn xs) (h1 : s.pn ≤ maxLen) (h2 : s.dn ≤ maxLen)
    (hA : SliceOf w 1 inC (some ⟨aA, oA, none⟩) n of) (hB : SliceOf w 1 inC (some ⟨aB, oB, none⟩) n pa) (hn : n ≤ 100) (hin : i < n)
    (hi : dealI nm (whoV nm ps).1 xs l.deal = (i : Int)) (hx : xs[i]? = some x) (hnum : x.d.num = l.deal) (hof : of[i]? = some S.st) (hpa : pa[i]? = some S.paid) (hok : x.d.ok) (hS : S.ok) (h0 : (whoV nm ps).1 = 4 → S.paid = 0) (hk : (whoV nm ps).1 = 3 ∨ (whoV nm ps).1 = 4) (hl : I64 l.amt) :
    Calls Tryz.prog 18 #[.agg #[.slice s.pA s.pn s.pc, .slice s.dA s.dn s.dc, .slice s.fA s.fn s.fc, .slice s.rA s.rn s.rc, .slice s.hA s.hn s.hc], .string nm, .agg #[.slice (some ⟨aA, oA, none⟩) n c, .slice (some ⟨aB, oB, none⟩) n cB], .agg #[.string l.fr, .string l.to, .int .i64 l.num, .int .i64 l.kind, .int .i64 l.ack, .string l.deal, .string l.text, .string l.party, .int .i64 l.idx, .int .i64 l.day, .string l.cur, .int .i64 l.amt, .slice l.A1 l.n1 l.c1, .slice l.A2 l.n2 l.c2], .int .i64 dy] w (RTake w (some ⟨aA, oA, none⟩) (some ⟨aB, oB, none⟩) of pa i l.deal dy (takeV (whoV nm ps).1 (whoV nm ps).2 x.d S l)) := by
  have HDI := Lib.hid (fun W (hb : Below w.heap.size w W) => rdeal_any s nm l.deal ps xs W (hp.below hb) (hd.below hb) h1 h2)
  have HKI := Lib.hid (fun W (hb : Below w.heap.size w W) => rkind_any s nm ps W (hp.below hb) h1)
  have HBI := Lib.hid (fun W (hb : Below w.heap.size w W) => rbank_any s nm ps W (hp.below hb) h1)
  have HBK := Lib.hid (fun h => bank_who (nm := nm) (ps := ps) h)
  have HDU := Lib.hid (fun W => rdue_any x.d x.A x.n x.c W hok)
  have HDD := Lib.hid hd
  have HXI := Lib.hid hx
  have HSA := Lib.hid hA; have HSB := Lib.hid hB; have HOF := Lib.hid hof; have HPA := Lib.hid hpa; have HNUM := Lib.hid hnum; have HOK := Lib.hid hok
  have hlo := hS.lo; have hhi := hS.hi
  have hdl : s.dn ≤ 9223372036854775807 := h2
  have hin2 : i < s.dn := by have := (List.getElem?_eq_some_iff.1 hx).1; have := hd.len; omega
  have hl1 := hl.1; have hl2 := hl.2
  obtain ⟨bA, xA, eA, hAL, hcA⟩ := hA.at_ (by omega)
  injection eA with eA
  injection eA with eA1 eA2
  subst eA1 eA2
  obtain ⟨bB, xB, eB, hBL, hcB⟩ := hB.at_ (by omega)
  injection eB with eB
  injection eB with eB1 eB2
  subst eB1 eB2
  have HCA : Hid (w.cell? ⟨aA, oA + i, none⟩ = some (.int .i64 S.st)) := Lib.hid (by have := hcA i _ hof 0 _ rfl; simpa using this)
  have HCB : Hid (w.cell? ⟨aB, oB + i, none⟩ = some (.int .i64 S.paid)) := Lib.hid (by have := hcB i _ hpa 0 _ rfl; simpa using this)
  have HB0 : Hid (Below w.heap.size w ((((w.alloc (.cells #[.slice s.pA s.pn s.pc, .slice s.dA s.dn s.dc, .slice s.fA s.fn s.fc, .slice s.rA s.rn s.rc, .slice s.hA s.hn s.hc] 29)).alloc (.cells #[.slice (some ⟨aA, oA, none⟩) n c, .slice (some ⟨aB, oB, none⟩) n cB] 37)).alloc (.cells #[.string l.fr, .string l.to, .int .i64 l.num, .int .i64 l.kind, .int .i64 l.ack, .string l.deal, .string l.text, .string l.party, .int .i64 l.idx, .int .i64 l.day, .string l.cur, .int .i64 l.amt, .slice l.A1 l.n1 l.c1, .slice l.A2 l.n2 l.c2] 57)).alloc (.cells #[.slice none 0 0, .slice none 0 0] 37))) := Lib.hid (((two_alloc w _ _).alloc (by simp; omega) _).alloc (by simp; omega) _)
  have HKS0 : Hid (Blk ((((w.alloc (.cells #[.slice s.pA s.pn s.pc, .slice s.dA s.dn s.dc, .slice s.fA s.fn s.fc, .slice s.rA s.rn s.rc, .slice s.hA s.hn s.hc] 29)).alloc (.cells #[.slice (some ⟨aA, oA, none⟩) n c, .slice (some ⟨aB, oB, none⟩) n cB] 37)).alloc (.cells #[.string l.fr, .string l.to, .int .i64 l.num, .int .i64 l.kind, .int .i64 l.ack, .string l.deal, .string l.text, .string l.party, .int .i64 l.idx, .int .i64 l.day, .string l.cur, .int .i64 l.amt, .slice l.A1 l.n1 l.c1, .slice l.A2 l.n2 l.c2] 57)).alloc (.cells #[.slice none 0 0, .slice none 0 0] 37)) w.heap.size 29 #[.slice s.pA s.pn s.pc, .slice s.dA s.dn s.dc, .slice s.fA s.fn s.fc, .slice s.rA s.rn s.rc, .slice s.hA s.hn s.hc]) := Lib.hid ((((Blk.new _ _ _).alloc _).alloc _).alloc _)
  have HKT0 : Hid (Blk ((((w.alloc (.cells #[.slice s.pA s.pn s.pc, .slice s.dA s.dn s.dc, .slice s.fA s.fn s.fc, .slice s.rA s.rn s.rc, .slice s.hA s.hn s.hc] 29)).alloc (.cells #[.slice (some ⟨aA, oA, none⟩) n c, .slice (some ⟨aB, oB, none⟩) n cB] 37)).alloc (.cells #[.string l.fr, .string l.to, .int .i64 l.num, .int .i64 l.kind, .int .i64 l.ack, .string l.deal, .string l.text, .string l.party, .int .i64 l.idx, .int .i64 l.day, .string l.cur, .int .i64 l.amt, .slice l.A1 l.n1 l.c1, .slice l.A2 l.n2 l.c2] 57)).alloc (.cells #[.slice none 0 0, .slice none 0 0] 37)) (w.heap.size + 1) 37 #[.slice (some ⟨aA, oA, none⟩) n c, .slice (some ⟨aB, oB, none⟩) n cB]) := Lib.hid (((blk_second _ _ _ _).alloc _).alloc _)
  have HKL0 : Hid (Blk ((((w.alloc (.cells #[.slice s.pA s.pn s.pc, .slice s.dA s.dn s.dc, .slice s.fA s.fn s.fc, .slice s.rA s.rn s.rc, .slice s.hA s.hn s.hc] 29)).alloc (.cells #[.slice (some ⟨aA, oA, none⟩) n c, .slice (some ⟨aB, oB, none⟩) n cB] 37)).alloc (.cells #[.string l.fr, .string l.to, .int .i64 l.num, .int .i64 l.kind, .int .i64 l.ack, .string l.deal, .string l.text, .string l.party, .int .i64 l.idx, .int .i64 l.day, .string l.cur, .int .i64 l.amt, .slice l.A1 l.n1 l.c1, .slice l.A2 l.n2 l.c2] 57)).alloc (.cells #[.slice none 0 0, .slice none 0 0] 37)) (w.heap.size + 1 + 1) 57 #[.string l.fr, .string l.to, .int .i64 l.num, .int .i64 l.kind, .int .i64 l.ack, .string l.deal, .string l.text, .string l.party, .int .i64 l.idx, .int .i64 l.day, .string l.cur, .int .i64 l.amt, .slice l.A1 l.n1 l.c1, .slice l.A2 l.n2 l.c2]) := Lib.hid ((Blk.new_at _ _ _ _ (by simp)).alloc _)
  have HKR0 : Hid (Blk ((((w.alloc (.cells #[.slice s.pA s.pn s.pc, .slice s.dA s.dn s.dc, .slice s.fA s.fn s.fc, .slice s.rA s.rn s.rc, .slice s.hA s.hn s.hc] 29)).alloc (.cells #[.slice (some ⟨aA, oA, none⟩) n c, .slice (some ⟨aB, oB, none⟩) n cB] 37)).alloc (.cells #[.string l.fr, .string l.to, .int .i64 l.num, .int .i64 l.kind, .int .i64 l.ack, .string l.deal, .string l.text, .string l.party, .int .i64 l.idx, .int .i64 l.day, .string l.cur, .int .i64 l.amt, .slice l.A1 l.n1 l.c1, .slice l.A2 l.n2 l.c2] 57)).alloc (.cells #[.slice none 0 0, .slice none 0 0] 37)) (w.heap.size + 1 + 1 + 1) 37 #[.slice none 0 0, .slice none 0 0]) := Lib.hid (Blk.new_at _ _ _ _ (by simp))
  obtain ⟨K, hK⟩ : ∃ K, (whoV nm ps).1 = K := ⟨_, rfl⟩
  obtain ⟨bank, hbk⟩ : ∃ b, (whoV nm ps).2 = b := ⟨_, rfl⟩
  simp only [hK] at HDI HKI hi h0 hk ⊢
  rw [hi] at HDI
  rw [hK, hbk] at HBK
  rw [hbk]
  obtain ⟨D, hD⟩ : ∃ D, dueV x.d = D := ⟨_, rfl⟩
  rw [hD] at HDU
  have hDn : 0 ≤ D := by rw [← hD]; exact due_nn _
  have HDE := Lib.hid hD
  obtain ⟨g, hg⟩ : ∃ g, w.heap.size = g := ⟨_, rfl⟩
  have HGE := Lib.hid hg
  have HAL : Hid (aA < g) := Lib.hid (hg ▸ hAL)
  have HBL : Hid (aB < g) := Lib.hid (hg ▸ hBL)
  clear hp hd hx hA hB hof hpa hok hS hnum hl hcA hcB hK hbk hi hD hAL hBL h1 h2
  go_enter Tryz.func18, Tryz.ntmps18
  go_upto_region 1 with (fail)
  obtain ⟨w1, hw1⟩ : ∃ W, ((((w.alloc (.cells #[.slice s.pA s.pn s.pc, .slice s.dA s.dn s.dc, .slice s.fA s.fn s.fc, .slice s.rA s.rn s.rc, .slice s.hA s.hn s.hc] 29)).alloc (.cells #[.slice (some ⟨aA, oA, none⟩) n c, .slice (some ⟨aB, oB, none⟩) n cB] 37)).alloc (.cells #[.string l.fr, .string l.to, .int .i64 l.num, .int .i64 l.kind, .int .i64 l.ack, .string l.deal, .string l.text, .string l.party, .int .i64 l.idx, .int .i64 l.day, .string l.cur, .int .i64 l.amt, .slice l.A1 l.n1 l.c1, .slice l.A2 l.n2 l.c2] 57)).alloc (.cells #[.slice none 0 0, .slice none 0 0] 37)) = W := ⟨_, rfl⟩
  rw [hw1] at HB0 HKS0 HKT0 HKL0 HKR0 ⊢
  simp only [hg] at HKS0 HKT0 HKL0 HKR0 ⊢
  clear hw1 hg
  have a5 := HKL0.out.cell 5
  simp only [List.getElem?_toArray, List.getElem?_cons_zero, List.getElem?_cons_succ] at a5
  go_wp2_with ((refine stop_load 29 _ rfl ?_; refine wpList_load_want rfl 29 _ rfl g rfl 29 _ _ HKS0.out Tryz.underlying29 rfl (by kernel_rfl) ?_))
  refine (HDI.out _ HB0.out).mono ?_
  rintro e w2 ⟨rfl, hb2⟩
  clear a5
  have HKS2 := Lib.hid (HKS0.out.below hb2 HKS0.out.lt)
  have HKT2 := Lib.hid (HKT0.out.below hb2 HKT0.out.lt)
  have HKL2 := Lib.hid (HKL0.out.below hb2 HKL0.out.lt)
  have HKR2 := Lib.hid (HKR0.out.below hb2 HKR0.out.lt)
  have HB2 := Lib.hid (HB0.out.trans ((hb2).mono HB0.out.size))
  clear HKS0 HKT0 HKL0 HKR0 HB0
  clear hb2
  have s1 := HKS2.out.cell 1
  simp only [List.getElem?_toArray, List.getElem?_cons_zero, List.getElem?_cons_succ] at s1
  have ni : ¬ (i : Int) < 0 := by omega
  have i0 : (i : Int) < (s.dn : Int) := by omega
  obtain ⟨b, off, x', hdA, hxk, hc⟩ := el_at (HDD.out.below HB2.out) hin2
  rw [HXI.out] at hxk
  injection hxk with hxk
  subst hxk
  rw [hdA] at s1
  have HDA := Lib.hid hdA
  clear hdA
  have HC := Lib.hid hc
  have HKD4 : Hid (Blk (w2.alloc (.cells #[.string x.d.num, .string x.d.sel, .string x.d.buy, .string x.d.car, .string x.d.iss, .string x.d.hou, .string x.d.ins, .string x.d.fr, .string x.d.dst, .string x.d.cur, .int .i64 x.d.amt, .slice x.A x.n x.c, .int .i64 x.d.term, .int .i64 x.d.lat, .int .i64 x.d.exp, .int .i64 x.d.ten, .int .i64 x.d.dut] 53)) w2.heap.size 53 #[.string x.d.num, .string x.d.sel, .string x.d.buy, .string x.d.car, .string x.d.iss, .string x.d.hou, .string x.d.ins, .string x.d.fr, .string x.d.dst, .string x.d.cur, .int .i64 x.d.amt, .slice x.A x.n x.c, .int .i64 x.d.term, .int .i64 x.d.lat, .int .i64 x.d.exp, .int .i64 x.d.ten, .int .i64 x.d.dut]) := Lib.hid (Blk.new _ _ _)
  clear hc
  go_upto_region 5 with (first | ((refine stop_store 53 _ _ rfl ?_; refine wpList_store_new rfl 53 _ _ rfl _ rfl rfl (by kernel_rfl) rfl rfl ?_)) | (refine stop_load 53 _ rfl ?_; refine wpList_load_at rfl 53 _ rfl b (off + i * 17) rfl (dlC x.d (.slice x.A x.n x.c)) _ HC.out Tryz.underlying53 rfl (by kernel_rfl) ?_))
  have hba : Below w2.heap.size w2 (w2.alloc (.cells #[.string x.d.num, .string x.d.sel, .string x.d.buy, .string x.d.car, .string x.d.iss, .string x.d.hou, .string x.d.ins, .string x.d.fr, .string x.d.dst, .string x.d.cur, .int .i64 x.d.amt, .slice x.A x.n x.c, .int .i64 x.d.term, .int .i64 x.d.lat, .int .i64 x.d.exp, .int .i64 x.d.ten, .int .i64 x.d.dut] 53)) := one_alloc _ _
  have HKS4 := Lib.hid (HKS2.out.below hba HKS2.out.lt)
  have HKT4 := Lib.hid (HKT2.out.below hba HKT2.out.lt)
  have HKL4 := Lib.hid (HKL2.out.below hba HKL2.out.lt)
  have HKR4 := Lib.hid (HKR2.out.below hba HKR2.out.lt)
  have HB4 := Lib.hid (HB2.out.trans ((hba).mono HB2.out.size))
  clear HKS2 HKT2 HKL2 HKR2 HB2
  obtain ⟨w4, hw4⟩ : ∃ W, w2.alloc (.cells #[.string x.d.num, .string x.d.sel, .string x.d.buy, .string x.d.car, .string x.d.iss, .string x.d.hou, .string x.d.ins, .string x.d.fr, .string x.d.dst, .string x.d.cur, .int .i64 x.d.amt, .slice x.A x.n x.c, .int .i64 x.d.term, .int .i64 x.d.lat, .int .i64 x.d.exp, .int .i64 x.d.ten, .int .i64 x.d.dut] 53) = W := ⟨_, rfl⟩
  obtain ⟨g4, hg4⟩ : ∃ g, w2.heap.size = g := ⟨_, rfl⟩
  rw [hw4] at HKS4 HKT4 HKL4 HKR4 HB4 HKD4
  change Code.wp _ _ _ _ (w2.alloc (.cells #[.string x.d.num, .string x.d.sel, .string x.d.buy, .string x.d.car, .string x.d.iss, .string x.d.hou, .string x.d.ins, .string x.d.fr, .string x.d.dst, .string x.d.cur, .int .i64 x.d.amt, .slice x.A x.n x.c, .int .i64 x.d.term, .int .i64 x.d.lat, .int .i64 x.d.exp, .int .i64 x.d.ten, .int .i64 x.d.dut] 53))
  rw [hw4]
  rw [hg4] at HKD4
  simp only [hg4]
  clear hw4 hg4 hba s1 HC
  go_wp2_with ((refine stop_load 53 _ rfl ?_; refine wpList_load_want rfl 53 _ rfl g4 rfl 53 _ _ HKD4.out Tryz.underlying53 rfl (by kernel_rfl) ?_))
  refine (HDU.out _).mono ?_
  rintro e w5 ⟨rfl, hb5⟩
  have HKD5 := Lib.hid (HKD4.out.below hb5 HKD4.out.lt)
  have HKS5 := Lib.hid (HKS4.out.below hb5 HKS4.out.lt)
  have HKT5 := Lib.hid (HKT4.out.below hb5 HKT4.out.lt)
  have HKL5 := Lib.hid (HKL4.out.below hb5 HKL4.out.lt)
  have HKR5 := Lib.hid (HKR4.out.below hb5 HKR4.out.lt)
  have HB5 := Lib.hid (HB4.out.trans ((hb5).mono HB4.out.size))
  clear HKS4 HKT4 HKL4 HKR4 HB4
  clear hb5 HKD4
  go_wp2_with ((refine stop_load 29 _ rfl ?_; refine wpList_load_want rfl 29 _ rfl g rfl 29 _ _ HKS5.out Tryz.underlying29 rfl (by kernel_rfl) ?_))
  refine (HKI.out _ HB5.out).mono ?_
  rintro e w6 ⟨rfl, hb6⟩
  have HKD6 := Lib.hid (HKD5.out.below hb6 HKD5.out.lt)
  have HKS6 := Lib.hid (HKS5.out.below hb6 HKS5.out.lt)
  have HKT6 := Lib.hid (HKT5.out.below hb6 HKT5.out.lt)
  have HKL6 := Lib.hid (HKL5.out.below hb6 HKL5.out.lt)
  have HKR6 := Lib.hid (HKR5.out.below hb6 HKR5.out.lt)
  have HB6 := Lib.hid (HB5.out.trans ((hb6).mono HB5.out.size))
  clear HKS5 HKT5 HKL5 HKR5 HB5
  clear hb6 HKD5 HDI HKI HDU
  have a0 := HKL6.out.cell 0; have a3 := HKL6.out.cell 3; have a10 := HKL6.out.cell 10; have a11 := HKL6.out.cell 11
  have d0 := HKD6.out.cell 0; have d1 := HKD6.out.cell 1; have e2 := HKD6.out.cell 2; have d9 := HKD6.out.cell 9; have d10 := HKD6.out.cell 10
  have u0 := HKT6.out.cell 0; have u1 := HKT6.out.cell 1
  simp only [List.getElem?_toArray, List.getElem?_cons_zero, List.getElem?_cons_succ] at a0 a3 a10 a11 d0 d1 e2 d9 d10 u0 u1
  have ca : w6.cell? ⟨aA, oA + i, none⟩ = some (.int .i64 S.st) := ((HB6.out).cell (p := ⟨aA, oA + i, none⟩) (by have := HAL.out; have := HGE.out; simp; omega)).trans HCA.out
  have cb : w6.cell? ⟨aB, oB + i, none⟩ = some (.int .i64 S.paid) := ((HB6.out).cell (p := ⟨aB, oB + i, none⟩) (by have := HBL.out; have := HGE.out; simp; omega)).trans HCB.out
  have in0 : (i : Int) < (n : Int) := by omega
  by_cases hK4 : K = 4
  · subst hK4
    have HP0 : Hid (S.paid = 0) := Lib.hid (h0 rfl)
    clear h0 hk
    by_cases k6 : l.kind = 6
    · have q1 : (l.kind != 6) = false := by rw [k6]; rfl
      by_cases f1 : l.fr = x.d.sel
      · have q2 : (l.fr.toList == x.d.sel.toList) = true := by rw [eq_str]; exact decide_eq_true f1
        by_cases s1 : S.st = 0
        · have q3 : (S.st != 0) = false := by rw [s1]; rfl
          have HV : Hid (takeV 4 bank x.d S l = (covL x.d, ⟨1, S.paid⟩)) := Lib.hid (by unfold takeV covrV; rw [if_neg (by omega), if_neg (by omega), if_pos ⟨rfl, k6⟩, if_pos ⟨f1, s1⟩])
          clear k6 f1 s1
          have hrb := fun w => rbuild w 11 10
          obtain ⟨r, hr⟩ : ∃ r, scaleV ⟨x.d.cur, x.d.amt⟩ 11 10 1 = r := ⟨_, rfl⟩
          have HSC : Hid (∀ W, Calls Tryz.prog 32 #[.agg #[.string x.d.cur, .int .i64 x.d.amt], .agg #[.int .i64 11, .int .i64 10], .int .i64 1] W fun e w' => e = .returned (.tuple #[.agg #[.string r.1.cur, .int .i64 r.1.amt], .bool r.2]) ∧ Below W.heap.size W w') := Lib.hid (fun W => by
            have := rscale1 ⟨x.d.cur, x.d.amt⟩ 11 10 W HOK.out.cur ⟨by omega, by omega⟩ ⟨by omega, by omega⟩
            rw [hr] at this
            exact this)
          have HCV : Hid (covV x.d = r.1) := Lib.hid (by unfold covV; rw [hr])
          have HCI : Hid (I64 (covV x.d).amt) := Lib.hid (by unfold covV; exact scale_amt _ _ _ _)
          clear hr
          go_wp2_with fail
          refine (HSC.out _).mono ?_
          rintro e w7 ⟨rfl, hb7⟩
          clear a0 a3 a10 a11 d0 d1 e2 d9 d10 u0 u1 ca cb
          have HKD7 := Lib.hid (HKD6.out.below hb7 HKD6.out.lt)
          have HKS7 := Lib.hid (HKS6.out.below hb7 HKS6.out.lt)
          have HKT7 := Lib.hid (HKT6.out.below hb7 HKT6.out.lt)
          have HKL7 := Lib.hid (HKL6.out.below hb7 HKL6.out.lt)
          have HKR7 := Lib.hid (HKR6.out.below hb7 HKR6.out.lt)
          have HB7 := Lib.hid (HB6.out.trans ((hb7).mono HB6.out.size))
          clear HKS6 HKT6 HKL6 HKR6 HB6
          have HM8 : Hid (Blk (w7.alloc (.cells #[.string r.1.cur, .int .i64 r.1.amt] 50)) w7.heap.size 50 #[.string r.1.cur, .int .i64 r.1.amt]) := Lib.hid (Blk.new _ _ _)
          clear hb7 HSC HKD6 hrb
          go_upto_region 10 with ((refine stop_store 50 _ _ rfl ?_; refine wpList_store_new rfl 50 _ _ rfl _ rfl rfl (by kernel_rfl) rfl rfl ?_))
          have hba : Below w7.heap.size w7 (w7.alloc (.cells #[.string r.1.cur, .int .i64 r.1.amt] 50)) := one_alloc _ _
          have HKDz := Lib.hid (HKD7.out.below hba HKD7.out.lt)
          have HKSz := Lib.hid (HKS7.out.below hba HKS7.out.lt)
          have HKTz := Lib.hid (HKT7.out.below hba HKT7.out.lt)
          have HKLz := Lib.hid (HKL7.out.below hba HKL7.out.lt)
          have HKRz := Lib.hid (HKR7.out.below hba HKR7.out.lt)
          have HBz := Lib.hid (HB7.out.trans ((hba).mono HB7.out.size))
          clear HKS7 HKT7 HKL7 HKR7 HB7
          obtain ⟨wz, hwz⟩ : ∃ W, w7.alloc (.cells #[.string r.1.cur, .int .i64 r.1.amt] 50) = W := ⟨_, rfl⟩
          obtain ⟨g8, hg8⟩ : ∃ g, w7.heap.size = g := ⟨_, rfl⟩
          rw [hwz] at HKSz HKTz HKLz HKRz HBz HKDz HM8
          change Code.wp _ _ _ _ (w7.alloc (.cells #[.string r.1.cur, .int .i64 r.1.amt] 50))
          rw [hwz]
          rw [hg8] at HM8
          simp only [hg8]
          have HKMz : Hid (Blk wz g8 50 #[.string (covV x.d).cur, .int .i64 (covV x.d).amt]) := Lib.hid (by rw [HCV.out]; exact HM8.out)
          clear hwz hg8 hba HM8 HKD7
          have NT : ¬ g + 1 = g + 1 + 1 + 1 := by omega
          have ND : ¬ g4 = g + 1 + 1 + 1 := HKDz.out.ne_ HKRz.out (by decide)
          have HSA8 := Lib.hid (HSA.out.below HBz.out); have HSB8 := Lib.hid (HSB.out.below HBz.out)
          have HLO : Hid (∀ k, k = g + 1 + 1 + 1 → k < wz.heap.size) := Lib.hid (fun k e => e ▸ HKRz.out.lt)
          have HNA : Hid (∀ b off, (some (⟨aA, oA, none⟩ : Addr)) = some ⟨b, off, none⟩ → ¬ b = g + 1 + 1 + 1) := Lib.hid (fun b off e q => by injection e with e; injection e with e; have := HAL.out; omega)
          have HNB : Hid (∀ b off, (some (⟨aB, oB, none⟩ : Addr)) = some ⟨b, off, none⟩ → ¬ b = g + 1 + 1 + 1) := Lib.hid (fun b off e q => by injection e with e; injection e with e; have := HBL.out; omega)
          have HCA8 := Lib.hid (((HBz.out).cell (p := ⟨aA, oA + i, none⟩) (by have := HAL.out; have := HGE.out; simp; omega)).trans HCA.out); have HCB8 := Lib.hid (((HBz.out).cell (p := ⟨aB, oB + i, none⟩) (by have := HBL.out; have := HGE.out; simp; omega)).trans HCB.out)
          try simp only [Act.put, List.setIfInBounds_toArray, List.set_cons_zero, List.set_cons_succ]
          have NM : ¬ g8 = g + 1 + 1 + 1 := HKMz.out.ne_ HKRz.out (by decide)
          as_aux_lemma =>
            refine wp_region_softX [Is (.agg #[.slice (some ⟨aA, oA, none⟩) n c, .slice (some ⟨aB, oB, none⟩) n cB]), Is (.int .i64 (i : Int)), StHi wz.heap.size (of.set i 1) (pa.set i 0), Is (.pointer (some ⟨g4, 1, none⟩)), Is (.string x.d.sel), Is (.pointer (some ⟨g4, 0, none⟩)), Is (.string x.d.num), Is (.int .i64 dy), Is (.agg #[.string x.d.num, .string x.d.sel, .string x.d.buy, .string x.d.car, .string x.d.iss, .string x.d.hou, .string x.d.ins, .string x.d.fr, .string x.d.dst, .string x.d.cur, .int .i64 x.d.amt, .slice x.A x.n x.c, .int .i64 x.d.term, .int .i64 x.d.lat, .int .i64 x.d.exp, .int .i64 x.d.ten, .int .i64 x.d.dut]), Is (.agg #[.string (covV x.d).cur, .int .i64 (covV x.d).amt]), DocHi wz.heap.size x.d (covV x.d), DocV wz.heap.size (covP x.d (covV x.d)), LetW wz.heap.size x.d.sel x.d.num dy (covP x.d (covV x.d)), OlV wz.heap.size x.d.num dy (covL x.d), AnyV, OlV wz.heap.size x.d.num dy (covL x.d)] ⟨stab_is _, stab_is _, stab_sthi _ _ _, stab_is _, stab_is _, stab_is _, stab_is _, stab_is _, stab_is _, stab_is _, stab_dochi _ _ _, stab_docv _ _, stab_letw _ _ _ _ _, stab_olv _ _ _ _, stab_anyv, stab_olv _ _ _ _, trivial⟩ (fun k => k = g + 1 + 1 + 1) ⟨stabf_is _ _, stabf_is _ _, stabf_sthi HLO.out _ _, stabf_is _ _, stabf_is _ _, stabf_is _ _, stabf_is _ _, stabf_is _ _, stabf_is _ _, stabf_is _ _, stabf_dochi HLO.out _ _, stabf_docv HLO.out _, stabf_letw HLO.out _ _ _ _, stabf_olv HLO.out _ _ _, stabf_anyv _, stabf_olv HLO.out _ _ _, trivial⟩ [false, false, false, false, false, false, false, false, false, false, false, false, false, false, true, false] (ResX (g + 1 + 1 + 1) 14 2) (resX_stab rfl) (resX_start HKRz.out) (by kernel_rfl) (by kernel_rfl) ?_ ?_
            · refine ⟨?_, ?_, ?_, ?_, ?_, ?_, ?_, ?_, ?_, ?_, ?_, ?_, ?_, ?_, ?_, ?_, trivial⟩
              all_goals intro done vs ac W1 hdep hnd hB hR hX hE
              all_goals try simp only [Nat.zero_add, Nat.reduceAdd] at hnd ⊢
              all_goals have ec : ∀ v : Value, ac.eval (.const v) = v := fun _ => rfl
              all_goals try simp [Region.binds] at hdep
              · have e7 : ac.eval (.tmp 7) = .pointer (some ⟨g + 1, 0, none⟩) := (hE 7 (by simp)).trans (by simp [evF, Act.eval])
                exact wp_load_row 37 _ rfl (g + 1) e7 37 _ (0, 0) _ (HKTz.out.fr hB NT) Tryz.underlying37 rfl (by kernel_rfl) ⟨_, rfl, Below.refl _ _, rfl⟩
              · have e12 : ac.eval (.tmp 12) = .int .i64 (i : Int) := (hE 12 (by simp)).trans (by simp [evF, Act.eval])
                exact soft_value (.int .i64 (i : Int)) (by unfold execOp; simp only [e12, ec]; rfl) rfl
              · have d0 : vs 0 = .agg #[.slice (some ⟨aA, oA, none⟩) n c, .slice (some ⟨aB, oB, none⟩) n cB] := hR 0 (by simp [hdep])
                have e63 : ac.eval (.tmp 63) = .agg #[.slice (some ⟨aA, oA, none⟩) n c, .slice (some ⟨aB, oB, none⟩) n cB] := (hE 63 (by simp)).trans (by simp [evF, hdep, d0])
                have d1 : vs 1 = .int .i64 (i : Int) := hR 1 (by simp [hdep])
                have e64 : ac.eval (.tmp 64) = .int .i64 (i : Int) := (hE 64 (by simp)).trans (by simp [evF, hdep, d1])
                refine soft_call 33 _ _ rfl (enters_fn Tryz.func33 (by kernel_rfl) rfl) #[.agg #[.slice (some ⟨aA, oA, none⟩) n c, .slice (some ⟨aB, oB, none⟩) n cB], .int .i64 (i : Int), .int .i64 1, .int .i64 0] (by simp [e63, e64, ec]) ?_
                refine (rset_any (some ⟨aA, oA, none⟩) (some ⟨aB, oB, none⟩) n c cB of pa i 1 0 W1 (HSA8.out.fr hB HNA.out) (HSB8.out.fr hB HNB.out) hn hin).mono ?_
                rintro e9 w9 ⟨v9, rfl, hb9, hs9⟩
                exact ⟨_, rfl, hb9, hs9.lower hB.size⟩
              · have e13 : ac.eval (.tmp 13) = .pointer (some ⟨g4, 0, none⟩) := (hE 13 (by simp)).trans (by simp [evF, Act.eval])
                exact soft_value (.pointer (some ⟨g4, 1, none⟩)) (by unfold execOp; simp only [e13]; kernel_rfl) rfl
              · have d3 : vs 3 = .pointer (some ⟨g4, 1, none⟩) := hR 3 (by simp [hdep])
                have e66 : ac.eval (.tmp 66) = .pointer (some ⟨g4, 1, none⟩) := (hE 66 (by simp)).trans (by simp [evF, hdep, d3])
                have hc1 : W1.cell? ⟨g4, 1, none⟩ = some (.string x.d.sel) := (HKDz.out.fr hB ND).cell 1
                exact soft_value (.string x.d.sel) (by unfold execOp; simp only [e66]; go_simp) rfl
              · have e13 : ac.eval (.tmp 13) = .pointer (some ⟨g4, 0, none⟩) := (hE 13 (by simp)).trans (by simp [evF, Act.eval])
                exact soft_value (.pointer (some ⟨g4, 0, none⟩)) (by unfold execOp; simp only [e13]; kernel_rfl) rfl
              · have d5 : vs 5 = .pointer (some ⟨g4, 0, none⟩) := hR 5 (by simp [hdep])
                have e68 : ac.eval (.tmp 68) = .pointer (some ⟨g4, 0, none⟩) := (hE 68 (by simp)).trans (by simp [evF, hdep, d5])
                have hc0 : W1.cell? ⟨g4, 0, none⟩ = some (.string x.d.num) := (HKDz.out.fr hB ND).cell 0
                exact soft_value (.string x.d.num) (by unfold execOp; simp only [e68]; go_simp) rfl
              · have e4 : ac.eval (.tmp 4) = .int .i64 dy := (hE 4 (by simp)).trans (by simp [evF, Act.eval])
                exact soft_value (.int .i64 dy) (by unfold execOp; simp only [e4, ec]; rfl) rfl
              · have e13 : ac.eval (.tmp 13) = .pointer (some ⟨g4, 0, none⟩) := (hE 13 (by simp)).trans (by simp [evF, Act.eval])
                exact wp_load_row 53 _ rfl (g4) e13 53 _ (0, 0) _ (HKDz.out.fr hB ND) Tryz.underlying53 rfl (by kernel_rfl) ⟨_, rfl, Below.refl _ _, rfl⟩
              · have e15 : ac.eval (.tmp 15) = .pointer (some ⟨g8, 0, none⟩) := (hE 15 (by simp)).trans (by simp [evF, Act.eval])
                exact wp_load_row 50 _ rfl (g8) e15 50 _ (0, 0) _ (HKMz.out.fr hB NM) Tryz.underlying50 rfl (by kernel_rfl) ⟨_, rfl, Below.refl _ _, rfl⟩
              · have d8 : vs 8 = .agg #[.string x.d.num, .string x.d.sel, .string x.d.buy, .string x.d.car, .string x.d.iss, .string x.d.hou, .string x.d.ins, .string x.d.fr, .string x.d.dst, .string x.d.cur, .int .i64 x.d.amt, .slice x.A x.n x.c, .int .i64 x.d.term, .int .i64 x.d.lat, .int .i64 x.d.exp, .int .i64 x.d.ten, .int .i64 x.d.dut] := hR 8 (by simp [hdep])
                have e71 : ac.eval (.tmp 71) = .agg #[.string x.d.num, .string x.d.sel, .string x.d.buy, .string x.d.car, .string x.d.iss, .string x.d.hou, .string x.d.ins, .string x.d.fr, .string x.d.dst, .string x.d.cur, .int .i64 x.d.amt, .slice x.A x.n x.c, .int .i64 x.d.term, .int .i64 x.d.lat, .int .i64 x.d.exp, .int .i64 x.d.ten, .int .i64 x.d.dut] := (hE 71 (by simp)).trans (by simp [evF, hdep, d8])
                have d9 : vs 9 = .agg #[.string (covV x.d).cur, .int .i64 (covV x.d).amt] := hR 9 (by simp [hdep])
                have e72 : ac.eval (.tmp 72) = .agg #[.string (covV x.d).cur, .int .i64 (covV x.d).amt] := (hE 72 (by simp)).trans (by simp [evF, hdep, d9])
                refine soft_call 34 _ _ rfl (enters_fn Tryz.func34 (by kernel_rfl) rfl) #[.agg #[.string x.d.num, .string x.d.sel, .string x.d.buy, .string x.d.car, .string x.d.iss, .string x.d.hou, .string x.d.ins, .string x.d.fr, .string x.d.dst, .string x.d.cur, .int .i64 x.d.amt, .slice x.A x.n x.c, .int .i64 x.d.term, .int .i64 x.d.lat, .int .i64 x.d.exp, .int .i64 x.d.ten, .int .i64 x.d.dut], .agg #[.string (covV x.d).cur, .int .i64 (covV x.d).amt]] (by simp [e71, e72, ec]) ?_
                refine (rcov_any x.d x.A x.n x.c (covV x.d) W1 HCI.out HOK.out.num).mono ?_
                rintro e9 w9 ⟨fa, fc, rfl, hs9, hl9, hb9⟩
                exact ⟨_, rfl, hb9, ⟨fa, fc, rfl, hs9, fun x off e => Nat.le_trans hB.size (hl9 x off e)⟩⟩
              · obtain ⟨A10, c10, d10, h10, l10⟩ := (show (DocHi wz.heap.size x.d (covV x.d)) (vs 10) W1 from hR 10 (by simp [hdep]))
                have e73 : ac.eval (.tmp 73) = .agg #[.int .i64 3, .string (⟨#[105, 110, 45]⟩ ++ x.d.num), .string x.d.ins, .slice A10 5 c10] := (hE 73 (by simp)).trans (by simp [evF, hdep, d10])
                have hdn := Lib.hid (docs_new c10 h10 l10 hB.size (Nat.le_refl _))
                obtain ⟨W2, hw2⟩ : ∃ W, W1.alloc (.cells #[.int .i64 3, .string (⟨#[105, 110, 45]⟩ ++ x.d.num), .string x.d.ins, .slice A10 5 c10] 109) = W := ⟨_, rfl⟩
                have hds := dslice W1 3 (⟨#[105, 110, 45]⟩ ++ x.d.num) x.d.ins A10 5 c10
                have hba : Below W1.heap.size W1 W2 := hw2 ▸ one_alloc W1 _
                have hpv : (Array.map (fun x : Nat × Operand => (x.1, ac.eval x.2)) #[(0, Operand.tmp 73)]) = #[(0, .agg #[.int .i64 3, .string (⟨#[105, 110, 45]⟩ ++ x.d.num), .string x.d.ins, .slice A10 5 c10])] := by simp [e73]
                refine wp_bs1 54 109 1 #[(0, .tmp 73)] rfl _ hpv _ hds ?_
                rw [hw2] at hdn ⊢
                exact ⟨_, rfl, hba, _, rfl, hdn.out⟩
              · have d4 : vs 4 = .string x.d.sel := hR 4 (by simp [hdep])
                have e67 : ac.eval (.tmp 67) = .string x.d.sel := (hE 67 (by simp)).trans (by simp [evF, hdep, d4])
                have d6 : vs 6 = .string x.d.num := hR 6 (by simp [hdep])
                have e69 : ac.eval (.tmp 69) = .string x.d.num := (hE 69 (by simp)).trans (by simp [evF, hdep, d6])
                have d7 : vs 7 = .int .i64 dy := hR 7 (by simp [hdep])
                have e70 : ac.eval (.tmp 70) = .int .i64 dy := (hE 70 (by simp)).trans (by simp [evF, hdep, d7])
                obtain ⟨g11, d11, x11⟩ := (show (DocV wz.heap.size (covP x.d (covV x.d))) (vs 11) W1 from hR 11 (by simp [hdep]))
                have e74 : ac.eval (.tmp 74) = .slice (some ⟨g11, 0, none⟩) 1 1 := (hE 74 (by simp)).trans (by simp [evF, hdep, d11])
                exact soft_value (.agg #[.string ⟨#[]⟩, .string x.d.sel, .int .i64 0, .int .i64 7, .int .i64 0, .string x.d.num, .string ⟨#[]⟩, .string ⟨#[]⟩, .int .i64 0, .int .i64 dy, .string ⟨#[]⟩, .int .i64 0, .slice (some ⟨g11, 0, none⟩) 1 1, .slice none 0 0]) (by simp [execOp, e67, e69, e70, e74, ec, lbuildW, Result.andThen]) ⟨_, rfl, x11⟩
              · obtain ⟨g12, d12, x12⟩ := (show (LetW wz.heap.size x.d.sel x.d.num dy (covP x.d (covV x.d))) (vs 12) W1 from hR 12 (by simp [hdep]))
                have e75 : ac.eval (.tmp 75) = .agg #[.string ⟨#[]⟩, .string x.d.sel, .int .i64 0, .int .i64 7, .int .i64 0, .string x.d.num, .string ⟨#[]⟩, .string ⟨#[]⟩, .int .i64 0, .int .i64 dy, .string ⟨#[]⟩, .int .i64 0, .slice (some ⟨g12, 0, none⟩) 1 1, .slice none 0 0] := (hE 75 (by simp)).trans (by simp [evF, hdep, d12])
                refine wp_bs1 30 57 1 _ rfl #[(0, .agg #[.string ⟨#[]⟩, .string x.d.sel, .int .i64 0, .int .i64 7, .int .i64 0, .string x.d.num, .string ⟨#[]⟩, .string ⟨#[]⟩, .int .i64 0, .int .i64 dy, .string ⟨#[]⟩, .int .i64 0, .slice (some ⟨g12, 0, none⟩) 1 1, .slice none 0 0])] (by simp [e75]) _ (lsliceW W1 x.d.sel x.d.num dy g12) ⟨_, rfl, one_alloc _ _, ⟨rfl, .inr (.inl ⟨_, _, _, rfl, rfl, hB.size, Blk.new _ _ _, x12.below (one_alloc _ _)⟩)⟩⟩
              · have e10 : ac.eval (.tmp 10) = .pointer (some ⟨g + 1 + 1 + 1, 0, none⟩) := (hE 10 (by simp)).trans (by simp [evF, Act.eval])
                obtain ⟨A2, c2, B2, k2, d2, h2, i2, l2, j2⟩ := (show (StHi wz.heap.size (of.set i 1) (pa.set i 0)) (vs 2) W1 from hR 2 (by simp [hdep]))
                have e65 : ac.eval (.tmp 65) = .agg #[.slice A2 (of.set i 1).length c2, .slice B2 (pa.set i 0).length k2] := (hE 65 (by simp)).trans (by simp [evF, hdep, d2])
                refine wp_store_row 37 (.tmp 10) (.tmp 65) rfl (g + 1 + 1 + 1) #[.slice A2 (of.set i 1).length c2, .slice B2 (pa.set i 0).length k2] e10 e65 37 _ (hX.1 hnd) (by kernel_rfl) rfl (by simp [Value.oneCell']) ⟨_, rfl, fr_row _ _ _, ?_, trivial⟩
                exact resX_put (by simp [hdep]) d2 (by decide) (setRow_heap W1 (g + 1 + 1 + 1) _ _ _ (0, 0) (hX.1 hnd))
              · obtain ⟨d13, o13⟩ := (show (OlV wz.heap.size x.d.num dy (covL x.d)) (vs 13) W1 from hR 13 (by simp [hdep]))
                have e76 : ac.eval (.tmp 76) = (vs 13) := (hE 76 (by simp)).trans (by simp [evF, hdep, d13])
                exact soft_value (vs 13) (by unfold execOp; simp only [e76]; rfl) ⟨rfl, o13⟩
            · intro done vs W hall hB hR hX
              obtain ⟨A7, c7, B7, k7, e7, h7, i7, l7, j7⟩ := (show StHi wz.heap.size (of.set i 1) (pa.set i 0) (vs 2) W from hR 2 (by simp))
              obtain ⟨_, cs, hcs, hbk⟩ := hX.2 (hall 14 (by simp))
              have hov : OlV wz.heap.size x.d.num dy (takeV 4 bank x.d S l).1 (vs 15) W := by rw [(HV).out]; exact hR 15 (by simp)
              rw [e7] at hcs
              injection hcs with hcs
              subst hcs
              have r0 := hbk.cell 0; have r1 := hbk.cell 1
              simp only [List.getElem?_toArray, List.getElem?_cons_zero, List.getElem?_cons_succ] at r0 r1
              have hbw : Below w.heap.size w W := hB.bel HBz.out (fun k e => by have := HGE.out; omega) HBz.out.size
              have HFIN : Hid (RTake w (some ⟨aA, oA, none⟩) (some ⟨aB, oB, none⟩) of pa i l.deal dy (takeV 4 bank x.d S l) (.returned (.tuple #[.agg #[.slice A7 ((of.set i 1)).length c7, .slice B7 ((pa.set i 0)).length k7], vs 15])) W) := Lib.hid (by
                have e1 : ((of.set i 1)).length = of.length := List.length_set
                have e2 : ((pa.set i 0)).length = pa.length := List.length_set
                rw [e1] at h7
                rw [e2] at i7
                refine ⟨A7, c7, B7, k7, vs 15, by rw [e1, e2], hbw, ?_, ?_, ?_, fun x off e => .inl (Nat.le_trans HBz.out.size (l7 x off e)), fun x off e => .inl (Nat.le_trans HBz.out.size (j7 x off e))⟩
                · rw [(HV).out]; exact h7
                · rw [(HV).out]; first | exact i7 | (show SliceOf W 1 inC B7 pa.length (pa.set i S.paid); rw [HP0.out]; exact i7)
                · have q := hov.2.lower HBz.out.size; rw [HNUM.out] at q; exact q)
              clear hR hB hX hall hov hbw h7 i7 hbk
              obtain ⟨v9, hv9⟩ : ∃ v, vs 15 = v := ⟨_, rfl⟩
              rw [hv9] at HFIN
              simp only [fillA, Act.put, List.setIfInBounds_toArray, List.set_cons_zero, List.set_cons_succ, if_true, hv9, e7]
              go_wp2_with fail
              refine bodyPost_ret (v := .tuple #[.agg #[.slice A7 ((of.set i 1)).length c7, .slice B7 ((pa.set i 0)).length k7], v9]) (by simp [results, Tryz.results18, go_sem, r0, r1]) rfl HFIN.out
        · have q3 : (S.st != 0) = true := by simpa using s1
          have HV : Hid (takeV 4 bank x.d S l = ([], S)) := Lib.hid (by unfold takeV covrV; rw [if_neg (by omega), if_neg (by omega), if_pos ⟨rfl, k6⟩, if_neg (fun h => s1 h.2)])
          clear k6 f1 s1
          have HKTz := HKT6; have HKDz := HKD6; have HKRz := HKR6; have HBz := HB6
          have t0 := HKTz.out.cell 0; have t1 := HKTz.out.cell 1
          simp only [List.getElem?_toArray, List.getElem?_cons_zero, List.getElem?_cons_succ] at t0 t1
          as_aux_lemma =>
            go_wp2_with (refine stop_store 37 _ _ rfl ?_; refine wpList_store_fr rfl 37 _ _ rfl _ rfl rfl HKRz.out (by kernel_rfl) rfl rfl ?_; intro w9 hm9 fr9)
            have r0 := hm9.cell 0; have r1 := hm9.cell 1
            simp only [List.getElem?_toArray, List.getElem?_cons_zero, List.getElem?_cons_succ] at r0 r1
            have hb9 : Below w.heap.size w w9 := fr9.bel HBz.out (fun k e => by have := HGE.out; omega) HBz.out.size
            refine bodyPost_ret (v := .tuple #[.agg #[.slice (some ⟨aA, oA, none⟩) n c, .slice (some ⟨aB, oB, none⟩) n cB], .slice none 0 0]) (by simp [results, Tryz.results18, go_sem, r0, r1]) rfl ?_
            rw [(HV).out]
            exact rt_same HSA.out HSB.out HOF.out HPA.out hb9
      · have q2 : (l.fr.toList == x.d.sel.toList) = false := by rw [eq_str]; exact decide_eq_false f1
        have HV : Hid (takeV 4 bank x.d S l = ([], S)) := Lib.hid (by unfold takeV covrV; rw [if_neg (by omega), if_neg (by omega), if_pos ⟨rfl, k6⟩, if_neg (fun h => f1 h.1)])
        clear k6 f1
        have HKTz := HKT6; have HKDz := HKD6; have HKRz := HKR6; have HBz := HB6
        have t0 := HKTz.out.cell 0; have t1 := HKTz.out.cell 1
        simp only [List.getElem?_toArray, List.getElem?_cons_zero, List.getElem?_cons_succ] at t0 t1
        as_aux_lemma =>
          go_wp2_with (refine stop_store 37 _ _ rfl ?_; refine wpList_store_fr rfl 37 _ _ rfl _ rfl rfl HKRz.out (by kernel_rfl) rfl rfl ?_; intro w9 hm9 fr9)
          have r0 := hm9.cell 0; have r1 := hm9.cell 1
          simp only [List.getElem?_toArray, List.getElem?_cons_zero, List.getElem?_cons_succ] at r0 r1
          have hb9 : Below w.heap.size w w9 := fr9.bel HBz.out (fun k e => by have := HGE.out; omega) HBz.out.size
          refine bodyPost_ret (v := .tuple #[.agg #[.slice (some ⟨aA, oA, none⟩) n c, .slice (some ⟨aB, oB, none⟩) n cB], .slice none 0 0]) (by simp [results, Tryz.results18, go_sem, r0, r1]) rfl ?_
          rw [(HV).out]
          exact rt_same HSA.out HSB.out HOF.out HPA.out hb9
    · have q1 : (l.kind != 6) = true := by simpa using k6
      have HV : Hid (takeV 4 bank x.d S l = ([], S)) := Lib.hid (by unfold takeV; rw [if_neg (by omega), if_neg (by omega), if_neg (fun h => k6 h.2)])
      clear k6
      have HKTz := HKT6; have HKDz := HKD6; have HKRz := HKR6; have HBz := HB6
      have t0 := HKTz.out.cell 0; have t1 := HKTz.out.cell 1
      simp only [List.getElem?_toArray, List.getElem?_cons_zero, List.getElem?_cons_succ] at t0 t1
      as_aux_lemma =>
        go_wp2_with (refine stop_store 37 _ _ rfl ?_; refine wpList_store_fr rfl 37 _ _ rfl _ rfl rfl HKRz.out (by kernel_rfl) rfl rfl ?_; intro w9 hm9 fr9)
        have r0 := hm9.cell 0; have r1 := hm9.cell 1
        simp only [List.getElem?_toArray, List.getElem?_cons_zero, List.getElem?_cons_succ] at r0 r1
        have hb9 : Below w.heap.size w w9 := fr9.bel HBz.out (fun k e => by have := HGE.out; omega) HBz.out.size
        refine bodyPost_ret (v := .tuple #[.agg #[.slice (some ⟨aA, oA, none⟩) n c, .slice (some ⟨aB, oB, none⟩) n cB], .slice none 0 0]) (by simp [results, Tryz.results18, go_sem, r0, r1]) rfl ?_
        rw [(HV).out]
        exact rt_same HSA.out HSB.out HOF.out HPA.out hb9
  · have hK3 : K = 3 := by
      rcases hk with h | h
      · exact h
      · exact absurd h hK4
    subst hK3
    clear h0 hk hK4
    have HBQ : Hid (rBank nm ps = bank) := Lib.hid (HBK.out rfl)
    by_cases k15 : l.kind = 15
    · have q1 : (l.kind == 15) = true := by rw [k15]; rfl
      have q18 : (l.kind == 18) = false := by rw [k15]; rfl
      by_cases f1 : l.fr = x.d.buy
      · have q2 : (l.fr.toList == x.d.buy.toList) = true := by rw [eq_str]; exact decide_eq_true f1
        by_cases s1 : S.st = 0
        · have q3 : (S.st == 0) = true := by rw [s1]; rfl
          by_cases hD0 : D = 0
          · have q4 : (D == 0) = true := by rw [hD0]; rfl
            have HV : Hid (takeV 3 bank x.d S l = (freeL x.d, ⟨2, S.paid⟩)) := Lib.hid (by unfold takeV declV; rw [if_pos ⟨rfl, k15⟩, if_pos ⟨f1, s1⟩, HDE.out, if_neg (by omega)])
            clear k15 f1 s1 hD0
            go_upto_region 13 with (fail)
            clear a0 a3 a10 a11 d0 d1 e2 d9 d10 u0 u1 ca cb
            have HKTz := HKT6; have HKDz := HKD6; have HKRz := HKR6; have HBz := HB6
            obtain ⟨wz, hwz⟩ : ∃ W, w6 = W := ⟨_, rfl⟩
            rw [hwz] at HKTz HKDz HKRz HBz ⊢
            clear hwz
            have NT : ¬ g + 1 = g + 1 + 1 + 1 := by omega
            have ND : ¬ g4 = g + 1 + 1 + 1 := HKDz.out.ne_ HKRz.out (by decide)
            have HSA8 := Lib.hid (HSA.out.below HBz.out); have HSB8 := Lib.hid (HSB.out.below HBz.out)
            have HLO : Hid (∀ k, k = g + 1 + 1 + 1 → k < wz.heap.size) := Lib.hid (fun k e => e ▸ HKRz.out.lt)
            have HNA : Hid (∀ b off, (some (⟨aA, oA, none⟩ : Addr)) = some ⟨b, off, none⟩ → ¬ b = g + 1 + 1 + 1) := Lib.hid (fun b off e q => by injection e with e; injection e with e; have := HAL.out; omega)
            have HNB : Hid (∀ b off, (some (⟨aB, oB, none⟩ : Addr)) = some ⟨b, off, none⟩ → ¬ b = g + 1 + 1 + 1) := Lib.hid (fun b off e q => by injection e with e; injection e with e; have := HBL.out; omega)
            have HCA8 := Lib.hid (((HBz.out).cell (p := ⟨aA, oA + i, none⟩) (by have := HAL.out; have := HGE.out; simp; omega)).trans HCA.out); have HCB8 := Lib.hid (((HBz.out).cell (p := ⟨aB, oB + i, none⟩) (by have := HBL.out; have := HGE.out; simp; omega)).trans HCB.out)
            try simp only [Act.put, List.setIfInBounds_toArray, List.set_cons_zero, List.set_cons_succ]
            as_aux_lemma =>
              refine wp_region_softX [Is (.agg #[.slice (some ⟨aA, oA, none⟩) n c, .slice (some ⟨aB, oB, none⟩) n cB]), Is (.int .i64 (i : Int)), Is (.pointer (some ⟨g + 1, 1, none⟩)), Is (.slice (some ⟨aB, oB, none⟩) n cB), Is (.int .i64 (i : Int)), Is (.pointer (some ⟨aB, oB + i, none⟩)), Is (.int .i64 S.paid), StHi wz.heap.size (of.set i 2) (pa.set i S.paid), Is (.agg #[.string x.d.num, .string x.d.sel, .string x.d.buy, .string x.d.car, .string x.d.iss, .string x.d.hou, .string x.d.ins, .string x.d.fr, .string x.d.dst, .string x.d.cur, .int .i64 x.d.amt, .slice x.A x.n x.c, .int .i64 x.d.term, .int .i64 x.d.lat, .int .i64 x.d.exp, .int .i64 x.d.ten, .int .i64 x.d.dut]), Is (.int .i64 dy), OlV wz.heap.size x.d.num dy (freeL x.d), AnyV, OlV wz.heap.size x.d.num dy (freeL x.d)] ⟨stab_is _, stab_is _, stab_is _, stab_is _, stab_is _, stab_is _, stab_is _, stab_sthi _ _ _, stab_is _, stab_is _, stab_olv _ _ _ _, stab_anyv, stab_olv _ _ _ _, trivial⟩ (fun k => k = g + 1 + 1 + 1) ⟨stabf_is _ _, stabf_is _ _, stabf_is _ _, stabf_is _ _, stabf_is _ _, stabf_is _ _, stabf_is _ _, stabf_sthi HLO.out _ _, stabf_is _ _, stabf_is _ _, stabf_olv HLO.out _ _ _, stabf_anyv _, stabf_olv HLO.out _ _ _, trivial⟩ [false, false, false, false, false, false, false, false, false, false, false, true, false] (ResX (g + 1 + 1 + 1) 11 7) (resX_stab rfl) (resX_start HKRz.out) (by kernel_rfl) (by kernel_rfl) ?_ ?_
              · refine ⟨?_, ?_, ?_, ?_, ?_, ?_, ?_, ?_, ?_, ?_, ?_, ?_, ?_, trivial⟩
                all_goals intro done vs ac W1 hdep hnd hB hR hX hE
                all_goals try simp only [Nat.zero_add, Nat.reduceAdd] at hnd ⊢
                all_goals have ec : ∀ v : Value, ac.eval (.const v) = v := fun _ => rfl
                all_goals try simp [Region.binds] at hdep
                · have e7 : ac.eval (.tmp 7) = .pointer (some ⟨g + 1, 0, none⟩) := (hE 7 (by simp)).trans (by simp [evF, Act.eval])
                  exact wp_load_row 37 _ rfl (g + 1) e7 37 _ (0, 0) _ (HKTz.out.fr hB NT) Tryz.underlying37 rfl (by kernel_rfl) ⟨_, rfl, Below.refl _ _, rfl⟩
                · have e12 : ac.eval (.tmp 12) = .int .i64 (i : Int) := (hE 12 (by simp)).trans (by simp [evF, Act.eval])
                  exact soft_value (.int .i64 (i : Int)) (by unfold execOp; simp only [e12, ec]; rfl) rfl
                · have e7 : ac.eval (.tmp 7) = .pointer (some ⟨g + 1, 0, none⟩) := (hE 7 (by simp)).trans (by simp [evF, Act.eval])
                  exact soft_value (.pointer (some ⟨g + 1, 1, none⟩)) (by unfold execOp; simp only [e7]; kernel_rfl) rfl
                · have d2 : vs 2 = .pointer (some ⟨g + 1, 1, none⟩) := hR 2 (by simp [hdep])
                  have e99 : ac.eval (.tmp 99) = .pointer (some ⟨g + 1, 1, none⟩) := (hE 99 (by simp)).trans (by simp [evF, hdep, d2])
                  have hc1 : W1.cell? ⟨g + 1, 1, none⟩ = some (.slice (some ⟨aB, oB, none⟩) n cB) := (HKTz.out.fr hB NT).cell 1
                  exact soft_value (.slice (some ⟨aB, oB, none⟩) n cB) (by unfold execOp; simp only [e99]; go_simp) rfl
                · have e12 : ac.eval (.tmp 12) = .int .i64 (i : Int) := (hE 12 (by simp)).trans (by simp [evF, Act.eval])
                  exact soft_value (.int .i64 (i : Int)) (by unfold execOp; simp only [e12, ec]; rfl) rfl
                · have d3 : vs 3 = .slice (some ⟨aB, oB, none⟩) n cB := hR 3 (by simp [hdep])
                  have e100 : ac.eval (.tmp 100) = .slice (some ⟨aB, oB, none⟩) n cB := (hE 100 (by simp)).trans (by simp [evF, hdep, d3])
                  have d4 : vs 4 = .int .i64 (i : Int) := hR 4 (by simp [hdep])
                  have e101 : ac.eval (.tmp 101) = .int .i64 (i : Int) := (hE 101 (by simp)).trans (by simp [evF, hdep, d4])
                  have hix := ixk (w := W1) 35 _ 1 Tryz.underlying35 (by kernel_rfl) aB oB i n cB hin
                  rw [Nat.mul_one] at hix
                  exact soft_value (.pointer (some ⟨aB, oB + i, none⟩)) (by simp only [execOp, e100, e101]; simp [hix, Result.andThen]) rfl
                · have d5 : vs 5 = .pointer (some ⟨aB, oB + i, none⟩) := hR 5 (by simp [hdep])
                  have e102 : ac.eval (.tmp 102) = .pointer (some ⟨aB, oB + i, none⟩) := (hE 102 (by simp)).trans (by simp [evF, hdep, d5])
                  have hcc := cell_fr HCB8.out hB (HNB.out _ _ rfl)
                  exact soft_value (.int .i64 S.paid) (by unfold execOp; simp only [e102]; go_simp) rfl
                · have d0 : vs 0 = .agg #[.slice (some ⟨aA, oA, none⟩) n c, .slice (some ⟨aB, oB, none⟩) n cB] := hR 0 (by simp [hdep])
                  have e97 : ac.eval (.tmp 97) = .agg #[.slice (some ⟨aA, oA, none⟩) n c, .slice (some ⟨aB, oB, none⟩) n cB] := (hE 97 (by simp)).trans (by simp [evF, hdep, d0])
                  have d1 : vs 1 = .int .i64 (i : Int) := hR 1 (by simp [hdep])
                  have e98 : ac.eval (.tmp 98) = .int .i64 (i : Int) := (hE 98 (by simp)).trans (by simp [evF, hdep, d1])
                  have d6 : vs 6 = .int .i64 S.paid := hR 6 (by simp [hdep])
                  have e103 : ac.eval (.tmp 103) = .int .i64 S.paid := (hE 103 (by simp)).trans (by simp [evF, hdep, d6])
                  refine soft_call 33 _ _ rfl (enters_fn Tryz.func33 (by kernel_rfl) rfl) #[.agg #[.slice (some ⟨aA, oA, none⟩) n c, .slice (some ⟨aB, oB, none⟩) n cB], .int .i64 (i : Int), .int .i64 2, .int .i64 S.paid] (by simp [e97, e98, e103, ec]) ?_
                  refine (rset_any (some ⟨aA, oA, none⟩) (some ⟨aB, oB, none⟩) n c cB of pa i 2 S.paid W1 (HSA8.out.fr hB HNA.out) (HSB8.out.fr hB HNB.out) hn hin).mono ?_
                  rintro e9 w9 ⟨v9, rfl, hb9, hs9⟩
                  exact ⟨_, rfl, hb9, hs9.lower hB.size⟩
                · have e13 : ac.eval (.tmp 13) = .pointer (some ⟨g4, 0, none⟩) := (hE 13 (by simp)).trans (by simp [evF, Act.eval])
                  exact wp_load_row 53 _ rfl (g4) e13 53 _ (0, 0) _ (HKDz.out.fr hB ND) Tryz.underlying53 rfl (by kernel_rfl) ⟨_, rfl, Below.refl _ _, rfl⟩
                · have e4 : ac.eval (.tmp 4) = .int .i64 dy := (hE 4 (by simp)).trans (by simp [evF, Act.eval])
                  exact soft_value (.int .i64 dy) (by unfold execOp; simp only [e4, ec]; rfl) rfl
                · have d8 : vs 8 = .agg #[.string x.d.num, .string x.d.sel, .string x.d.buy, .string x.d.car, .string x.d.iss, .string x.d.hou, .string x.d.ins, .string x.d.fr, .string x.d.dst, .string x.d.cur, .int .i64 x.d.amt, .slice x.A x.n x.c, .int .i64 x.d.term, .int .i64 x.d.lat, .int .i64 x.d.exp, .int .i64 x.d.ten, .int .i64 x.d.dut] := hR 8 (by simp [hdep])
                  have e105 : ac.eval (.tmp 105) = .agg #[.string x.d.num, .string x.d.sel, .string x.d.buy, .string x.d.car, .string x.d.iss, .string x.d.hou, .string x.d.ins, .string x.d.fr, .string x.d.dst, .string x.d.cur, .int .i64 x.d.amt, .slice x.A x.n x.c, .int .i64 x.d.term, .int .i64 x.d.lat, .int .i64 x.d.exp, .int .i64 x.d.ten, .int .i64 x.d.dut] := (hE 105 (by simp)).trans (by simp [evF, hdep, d8])
                  have d9 : vs 9 = .int .i64 dy := hR 9 (by simp [hdep])
                  have e106 : ac.eval (.tmp 106) = .int .i64 dy := (hE 106 (by simp)).trans (by simp [evF, hdep, d9])
                  refine soft_call 35 _ _ rfl (enters_fn Tryz.func35 (by kernel_rfl) rfl) #[.agg #[.string x.d.num, .string x.d.sel, .string x.d.buy, .string x.d.car, .string x.d.iss, .string x.d.hou, .string x.d.ins, .string x.d.fr, .string x.d.dst, .string x.d.cur, .int .i64 x.d.amt, .slice x.A x.n x.c, .int .i64 x.d.term, .int .i64 x.d.lat, .int .i64 x.d.exp, .int .i64 x.d.ten, .int .i64 x.d.dut], .int .i64 dy] (by simp [e105, e106, ec]) ?_
                  refine (rrel_any x.d x.A x.n x.c dy W1).mono ?_
                  rintro e9 w9 ⟨v9, rfl, hb9, ho9⟩
                  exact ⟨_, rfl, hb9, ⟨rfl, ho9.lower hB.size⟩⟩
                · have e10 : ac.eval (.tmp 10) = .pointer (some ⟨g + 1 + 1 + 1, 0, none⟩) := (hE 10 (by simp)).trans (by simp [evF, Act.eval])
                  obtain ⟨A7, c7, B7, k7, d7, h7, i7, l7, j7⟩ := (show (StHi wz.heap.size (of.set i 2) (pa.set i S.paid)) (vs 7) W1 from hR 7 (by simp [hdep]))
                  have e104 : ac.eval (.tmp 104) = .agg #[.slice A7 (of.set i 2).length c7, .slice B7 (pa.set i S.paid).length k7] := (hE 104 (by simp)).trans (by simp [evF, hdep, d7])
                  refine wp_store_row 37 (.tmp 10) (.tmp 104) rfl (g + 1 + 1 + 1) #[.slice A7 (of.set i 2).length c7, .slice B7 (pa.set i S.paid).length k7] e10 e104 37 _ (hX.1 hnd) (by kernel_rfl) rfl (by simp [Value.oneCell']) ⟨_, rfl, fr_row _ _ _, ?_, trivial⟩
                  exact resX_put (by simp [hdep]) d7 (by decide) (setRow_heap W1 (g + 1 + 1 + 1) _ _ _ (0, 0) (hX.1 hnd))
                · obtain ⟨d10, o10⟩ := (show (OlV wz.heap.size x.d.num dy (freeL x.d)) (vs 10) W1 from hR 10 (by simp [hdep]))
                  have e107 : ac.eval (.tmp 107) = (vs 10) := (hE 107 (by simp)).trans (by simp [evF, hdep, d10])
                  exact soft_value (vs 10) (by unfold execOp; simp only [e107]; rfl) ⟨rfl, o10⟩
              · intro done vs W hall hB hR hX
                obtain ⟨A7, c7, B7, k7, e7, h7, i7, l7, j7⟩ := (show StHi wz.heap.size (of.set i 2) (pa.set i S.paid) (vs 7) W from hR 7 (by simp))
                obtain ⟨_, cs, hcs, hbk⟩ := hX.2 (hall 11 (by simp))
                have hov : OlV wz.heap.size x.d.num dy (takeV 3 bank x.d S l).1 (vs 12) W := by rw [(HV).out]; exact hR 12 (by simp)
                rw [e7] at hcs
                injection hcs with hcs
                subst hcs
                have r0 := hbk.cell 0; have r1 := hbk.cell 1
                simp only [List.getElem?_toArray, List.getElem?_cons_zero, List.getElem?_cons_succ] at r0 r1
                have hbw : Below w.heap.size w W := hB.bel HBz.out (fun k e => by have := HGE.out; omega) HBz.out.size
                have HFIN : Hid (RTake w (some ⟨aA, oA, none⟩) (some ⟨aB, oB, none⟩) of pa i l.deal dy (takeV 3 bank x.d S l) (.returned (.tuple #[.agg #[.slice A7 ((of.set i 2)).length c7, .slice B7 ((pa.set i S.paid)).length k7], vs 12])) W) := Lib.hid (by
                  have e1 : ((of.set i 2)).length = of.length := List.length_set
                  have e2 : ((pa.set i S.paid)).length = pa.length := List.length_set
                  rw [e1] at h7
                  rw [e2] at i7
                  refine ⟨A7, c7, B7, k7, vs 12, by rw [e1, e2], hbw, ?_, ?_, ?_, fun x off e => .inl (Nat.le_trans HBz.out.size (l7 x off e)), fun x off e => .inl (Nat.le_trans HBz.out.size (j7 x off e))⟩
                  · rw [(HV).out]; exact h7
                  · rw [(HV).out]; first | exact i7 | (show SliceOf W 1 inC B7 pa.length (pa.set i S.paid); rw [HP0.out]; exact i7)
                  · have q := hov.2.lower HBz.out.size; rw [HNUM.out] at q; exact q)
                clear hR hB hX hall hov hbw h7 i7 hbk
                obtain ⟨v9, hv9⟩ : ∃ v, vs 12 = v := ⟨_, rfl⟩
                rw [hv9] at HFIN
                simp only [fillA, Act.put, List.setIfInBounds_toArray, List.set_cons_zero, List.set_cons_succ, if_true, hv9, e7]
                go_wp2_with fail
                refine bodyPost_ret (v := .tuple #[.agg #[.slice A7 ((of.set i 2)).length c7, .slice B7 ((pa.set i S.paid)).length k7], v9]) (by simp [results, Tryz.results18, go_sem, r0, r1]) rfl HFIN.out
          · have q4 : (D == 0) = false := by simpa using hD0
            have HV : Hid (takeV 3 bank x.d S l = (dutyL x.d D, ⟨1, S.paid⟩)) := Lib.hid (by unfold takeV declV; rw [if_pos ⟨rfl, k15⟩, if_pos ⟨f1, s1⟩, HDE.out, if_pos (by omega)])
            clear k15 f1 s1 hD0
            go_upto_region 14 with (fail)
            clear a0 a3 a10 a11 d0 d1 e2 d9 d10 u0 u1 ca cb
            have HKTz := HKT6; have HKDz := HKD6; have HKRz := HKR6; have HBz := HB6
            obtain ⟨wz, hwz⟩ : ∃ W, w6 = W := ⟨_, rfl⟩
            rw [hwz] at HKTz HKDz HKRz HBz ⊢
            clear hwz
            have NT : ¬ g + 1 = g + 1 + 1 + 1 := by omega
            have ND : ¬ g4 = g + 1 + 1 + 1 := HKDz.out.ne_ HKRz.out (by decide)
            have HSA8 := Lib.hid (HSA.out.below HBz.out); have HSB8 := Lib.hid (HSB.out.below HBz.out)
            have HLO : Hid (∀ k, k = g + 1 + 1 + 1 → k < wz.heap.size) := Lib.hid (fun k e => e ▸ HKRz.out.lt)
            have HNA : Hid (∀ b off, (some (⟨aA, oA, none⟩ : Addr)) = some ⟨b, off, none⟩ → ¬ b = g + 1 + 1 + 1) := Lib.hid (fun b off e q => by injection e with e; injection e with e; have := HAL.out; omega)
            have HNB : Hid (∀ b off, (some (⟨aB, oB, none⟩ : Addr)) = some ⟨b, off, none⟩ → ¬ b = g + 1 + 1 + 1) := Lib.hid (fun b off e q => by injection e with e; injection e with e; have := HBL.out; omega)
            have HCA8 := Lib.hid (((HBz.out).cell (p := ⟨aA, oA + i, none⟩) (by have := HAL.out; have := HGE.out; simp; omega)).trans HCA.out); have HCB8 := Lib.hid (((HBz.out).cell (p := ⟨aB, oB + i, none⟩) (by have := HBL.out; have := HGE.out; simp; omega)).trans HCB.out)
            try simp only [Act.put, List.setIfInBounds_toArray, List.set_cons_zero, List.set_cons_succ]
            as_aux_lemma =>
              refine wp_region_softX [Is (.agg #[.slice (some ⟨aA, oA, none⟩) n c, .slice (some ⟨aB, oB, none⟩) n cB]), Is (.int .i64 (i : Int)), Is (.pointer (some ⟨g + 1, 1, none⟩)), Is (.slice (some ⟨aB, oB, none⟩) n cB), Is (.int .i64 (i : Int)), Is (.pointer (some ⟨aB, oB + i, none⟩)), Is (.int .i64 S.paid), StHi wz.heap.size (of.set i 1) (pa.set i S.paid), Is (.pointer (some ⟨g4, 2, none⟩)), Is (.string x.d.buy), Is (.pointer (some ⟨g4, 0, none⟩)), Is (.string x.d.num), Is (.int .i64 dy), Is (.pointer (some ⟨g4, 9, none⟩)), Is (.pointer (some ⟨g4, 9, none⟩)), Is (.string x.d.cur), Is (.int .i64 D), Is (.agg #[.string x.d.cur, .int .i64 D]), Is (.agg #[.string ⟨#[]⟩, .string x.d.buy, .int .i64 0, .int .i64 16, .int .i64 0, .string x.d.num, .string ⟨#[]⟩, .string ⟨#[]⟩, .int .i64 0, .int .i64 dy, .string x.d.cur, .int .i64 D, .slice none 0 0, .slice none 0 0]), OlV wz.heap.size x.d.num dy (dutyL x.d D), AnyV, OlV wz.heap.size x.d.num dy (dutyL x.d D)] ⟨stab_is _, stab_is _, stab_is _, stab_is _, stab_is _, stab_is _, stab_is _, stab_sthi _ _ _, stab_is _, stab_is _, stab_is _, stab_is _, stab_is _, stab_is _, stab_is _, stab_is _, stab_is _, stab_is _, stab_is _, stab_olv _ _ _ _, stab_anyv, stab_olv _ _ _ _, trivial⟩ (fun k => k = g + 1 + 1 + 1) ⟨stabf_is _ _, stabf_is _ _, stabf_is _ _, stabf_is _ _, stabf_is _ _, stabf_is _ _, stabf_is _ _, stabf_sthi HLO.out _ _, stabf_is _ _, stabf_is _ _, stabf_is _ _, stabf_is _ _, stabf_is _ _, stabf_is _ _, stabf_is _ _, stabf_is _ _, stabf_is _ _, stabf_is _ _, stabf_is _ _, stabf_olv HLO.out _ _ _, stabf_anyv _, stabf_olv HLO.out _ _ _, trivial⟩ [false, false, false, false, false, false, false, false, false, false, false, false, false, false, false, false, false, false, false, false, true, false] (ResX (g + 1 + 1 + 1) 20 7) (resX_stab rfl) (resX_start HKRz.out) (by kernel_rfl) (by kernel_rfl) ?_ ?_
              · refine ⟨?_, ?_, ?_, ?_, ?_, ?_, ?_, ?_, ?_, ?_, ?_, ?_, ?_, ?_, ?_, ?_, ?_, ?_, ?_, ?_, ?_, ?_, trivial⟩
                all_goals intro done vs ac W1 hdep hnd hB hR hX hE
                all_goals try simp only [Nat.zero_add, Nat.reduceAdd] at hnd ⊢
                all_goals have ec : ∀ v : Value, ac.eval (.const v) = v := fun _ => rfl
                all_goals try simp [Region.binds] at hdep
                · have e7 : ac.eval (.tmp 7) = .pointer (some ⟨g + 1, 0, none⟩) := (hE 7 (by simp)).trans (by simp [evF, Act.eval])
                  exact wp_load_row 37 _ rfl (g + 1) e7 37 _ (0, 0) _ (HKTz.out.fr hB NT) Tryz.underlying37 rfl (by kernel_rfl) ⟨_, rfl, Below.refl _ _, rfl⟩
                · have e12 : ac.eval (.tmp 12) = .int .i64 (i : Int) := (hE 12 (by simp)).trans (by simp [evF, Act.eval])
                  exact soft_value (.int .i64 (i : Int)) (by unfold execOp; simp only [e12, ec]; rfl) rfl
                · have e7 : ac.eval (.tmp 7) = .pointer (some ⟨g + 1, 0, none⟩) := (hE 7 (by simp)).trans (by simp [evF, Act.eval])
                  exact soft_value (.pointer (some ⟨g + 1, 1, none⟩)) (by unfold execOp; simp only [e7]; kernel_rfl) rfl
                · have d2 : vs 2 = .pointer (some ⟨g + 1, 1, none⟩) := hR 2 (by simp [hdep])
                  have e110 : ac.eval (.tmp 110) = .pointer (some ⟨g + 1, 1, none⟩) := (hE 110 (by simp)).trans (by simp [evF, hdep, d2])
                  have hc1 : W1.cell? ⟨g + 1, 1, none⟩ = some (.slice (some ⟨aB, oB, none⟩) n cB) := (HKTz.out.fr hB NT).cell 1
                  exact soft_value (.slice (some ⟨aB, oB, none⟩) n cB) (by unfold execOp; simp only [e110]; go_simp) rfl
                · have e12 : ac.eval (.tmp 12) = .int .i64 (i : Int) := (hE 12 (by simp)).trans (by simp [evF, Act.eval])
                  exact soft_value (.int .i64 (i : Int)) (by unfold execOp; simp only [e12, ec]; rfl) rfl
                · have d3 : vs 3 = .slice (some ⟨aB, oB, none⟩) n cB := hR 3 (by simp [hdep])
                  have e111 : ac.eval (.tmp 111) = .slice (some ⟨aB, oB, none⟩) n cB := (hE 111 (by simp)).trans (by simp [evF, hdep, d3])
                  have d4 : vs 4 = .int .i64 (i : Int) := hR 4 (by simp [hdep])
                  have e112 : ac.eval (.tmp 112) = .int .i64 (i : Int) := (hE 112 (by simp)).trans (by simp [evF, hdep, d4])
                  have hix := ixk (w := W1) 35 _ 1 Tryz.underlying35 (by kernel_rfl) aB oB i n cB hin
                  rw [Nat.mul_one] at hix
                  exact soft_value (.pointer (some ⟨aB, oB + i, none⟩)) (by simp only [execOp, e111, e112]; simp [hix, Result.andThen]) rfl
                · have d5 : vs 5 = .pointer (some ⟨aB, oB + i, none⟩) := hR 5 (by simp [hdep])
                  have e113 : ac.eval (.tmp 113) = .pointer (some ⟨aB, oB + i, none⟩) := (hE 113 (by simp)).trans (by simp [evF, hdep, d5])
                  have hcc := cell_fr HCB8.out hB (HNB.out _ _ rfl)
                  exact soft_value (.int .i64 S.paid) (by unfold execOp; simp only [e113]; go_simp) rfl
                · have d0 : vs 0 = .agg #[.slice (some ⟨aA, oA, none⟩) n c, .slice (some ⟨aB, oB, none⟩) n cB] := hR 0 (by simp [hdep])
                  have e108 : ac.eval (.tmp 108) = .agg #[.slice (some ⟨aA, oA, none⟩) n c, .slice (some ⟨aB, oB, none⟩) n cB] := (hE 108 (by simp)).trans (by simp [evF, hdep, d0])
                  have d1 : vs 1 = .int .i64 (i : Int) := hR 1 (by simp [hdep])
                  have e109 : ac.eval (.tmp 109) = .int .i64 (i : Int) := (hE 109 (by simp)).trans (by simp [evF, hdep, d1])
                  have d6 : vs 6 = .int .i64 S.paid := hR 6 (by simp [hdep])
                  have e114 : ac.eval (.tmp 114) = .int .i64 S.paid := (hE 114 (by simp)).trans (by simp [evF, hdep, d6])
                  refine soft_call 33 _ _ rfl (enters_fn Tryz.func33 (by kernel_rfl) rfl) #[.agg #[.slice (some ⟨aA, oA, none⟩) n c, .slice (some ⟨aB, oB, none⟩) n cB], .int .i64 (i : Int), .int .i64 1, .int .i64 S.paid] (by simp [e108, e109, e114, ec]) ?_
                  refine (rset_any (some ⟨aA, oA, none⟩) (some ⟨aB, oB, none⟩) n c cB of pa i 1 S.paid W1 (HSA8.out.fr hB HNA.out) (HSB8.out.fr hB HNB.out) hn hin).mono ?_
                  rintro e9 w9 ⟨v9, rfl, hb9, hs9⟩
                  exact ⟨_, rfl, hb9, hs9.lower hB.size⟩
                · have e13 : ac.eval (.tmp 13) = .pointer (some ⟨g4, 0, none⟩) := (hE 13 (by simp)).trans (by simp [evF, Act.eval])
                  exact soft_value (.pointer (some ⟨g4, 2, none⟩)) (by unfold execOp; simp only [e13]; kernel_rfl) rfl
                · have d8 : vs 8 = .pointer (some ⟨g4, 2, none⟩) := hR 8 (by simp [hdep])
                  have e116 : ac.eval (.tmp 116) = .pointer (some ⟨g4, 2, none⟩) := (hE 116 (by simp)).trans (by simp [evF, hdep, d8])
                  have hc2 : W1.cell? ⟨g4, 2, none⟩ = some (.string x.d.buy) := (HKDz.out.fr hB ND).cell 2
                  exact soft_value (.string x.d.buy) (by unfold execOp; simp only [e116]; go_simp) rfl
                · have e13 : ac.eval (.tmp 13) = .pointer (some ⟨g4, 0, none⟩) := (hE 13 (by simp)).trans (by simp [evF, Act.eval])
                  exact soft_value (.pointer (some ⟨g4, 0, none⟩)) (by unfold execOp; simp only [e13]; kernel_rfl) rfl
                · have d10 : vs 10 = .pointer (some ⟨g4, 0, none⟩) := hR 10 (by simp [hdep])
                  have e118 : ac.eval (.tmp 118) = .pointer (some ⟨g4, 0, none⟩) := (hE 118 (by simp)).trans (by simp [evF, hdep, d10])
                  have hc0 : W1.cell? ⟨g4, 0, none⟩ = some (.string x.d.num) := (HKDz.out.fr hB ND).cell 0
                  exact soft_value (.string x.d.num) (by unfold execOp; simp only [e118]; go_simp) rfl
                · have e4 : ac.eval (.tmp 4) = .int .i64 dy := (hE 4 (by simp)).trans (by simp [evF, Act.eval])
                  exact soft_value (.int .i64 dy) (by unfold execOp; simp only [e4, ec]; rfl) rfl
                · have e13 : ac.eval (.tmp 13) = .pointer (some ⟨g4, 0, none⟩) := (hE 13 (by simp)).trans (by simp [evF, Act.eval])
                  exact soft_value (.pointer (some ⟨g4, 9, none⟩)) (by unfold execOp; simp only [e13]; kernel_rfl) rfl
                · have d13 : vs 13 = .pointer (some ⟨g4, 9, none⟩) := hR 13 (by simp [hdep])
                  have e121 : ac.eval (.tmp 121) = .pointer (some ⟨g4, 9, none⟩) := (hE 121 (by simp)).trans (by simp [evF, hdep, d13])
                  exact soft_value (.pointer (some ⟨g4, 9, none⟩)) (by unfold execOp; simp only [e121]; kernel_rfl) rfl
                · have d14 : vs 14 = .pointer (some ⟨g4, 9, none⟩) := hR 14 (by simp [hdep])
                  have e122 : ac.eval (.tmp 122) = .pointer (some ⟨g4, 9, none⟩) := (hE 122 (by simp)).trans (by simp [evF, hdep, d14])
                  have hc9 : W1.cell? ⟨g4, 9, none⟩ = some (.string x.d.cur) := (HKDz.out.fr hB ND).cell 9
                  exact soft_value (.string x.d.cur) (by unfold execOp; simp only [e122]; go_simp) rfl
                · have e14 : ac.eval (.tmp 14) = .int .i64 D := (hE 14 (by simp)).trans (by simp [evF, Act.eval])
                  exact soft_value (.int .i64 D) (by unfold execOp; simp only [e14, ec]; rfl) rfl
                · have d15 : vs 15 = .string x.d.cur := hR 15 (by simp [hdep])
                  have e123 : ac.eval (.tmp 123) = .string x.d.cur := (hE 123 (by simp)).trans (by simp [evF, hdep, d15])
                  have d16 : vs 16 = .int .i64 D := hR 16 (by simp [hdep])
                  have e124 : ac.eval (.tmp 124) = .int .i64 D := (hE 124 (by simp)).trans (by simp [evF, hdep, d16])
                  exact soft_value (.agg #[.string x.d.cur, .int .i64 D]) (by simp [execOp, e123, e124, ec, mbuild, Result.andThen]) rfl
                · have d9 : vs 9 = .string x.d.buy := hR 9 (by simp [hdep])
                  have e117 : ac.eval (.tmp 117) = .string x.d.buy := (hE 117 (by simp)).trans (by simp [evF, hdep, d9])
                  have d11 : vs 11 = .string x.d.num := hR 11 (by simp [hdep])
                  have e119 : ac.eval (.tmp 119) = .string x.d.num := (hE 119 (by simp)).trans (by simp [evF, hdep, d11])
                  have d12 : vs 12 = .int .i64 dy := hR 12 (by simp [hdep])
                  have e120 : ac.eval (.tmp 120) = .int .i64 dy := (hE 120 (by simp)).trans (by simp [evF, hdep, d12])
                  have d17 : vs 17 = .agg #[.string x.d.cur, .int .i64 D] := hR 17 (by simp [hdep])
                  have e125 : ac.eval (.tmp 125) = .agg #[.string x.d.cur, .int .i64 D] := (hE 125 (by simp)).trans (by simp [evF, hdep, d17])
                  exact soft_value (.agg #[.string ⟨#[]⟩, .string x.d.buy, .int .i64 0, .int .i64 16, .int .i64 0, .string x.d.num, .string ⟨#[]⟩, .string ⟨#[]⟩, .int .i64 0, .int .i64 dy, .string x.d.cur, .int .i64 D, .slice none 0 0, .slice none 0 0]) (by simp [execOp, e117, e119, e120, e125, ec, lbuildM, Result.andThen]) rfl
                · have d18 : vs 18 = .agg #[.string ⟨#[]⟩, .string x.d.buy, .int .i64 0, .int .i64 16, .int .i64 0, .string x.d.num, .string ⟨#[]⟩, .string ⟨#[]⟩, .int .i64 0, .int .i64 dy, .string x.d.cur, .int .i64 D, .slice none 0 0, .slice none 0 0] := hR 18 (by simp [hdep])
                  have e126 : ac.eval (.tmp 126) = .agg #[.string ⟨#[]⟩, .string x.d.buy, .int .i64 0, .int .i64 16, .int .i64 0, .string x.d.num, .string ⟨#[]⟩, .string ⟨#[]⟩, .int .i64 0, .int .i64 dy, .string x.d.cur, .int .i64 D, .slice none 0 0, .slice none 0 0] := (hE 126 (by simp)).trans (by simp [evF, hdep, d18])
                  refine wp_bs1 30 57 1 _ rfl #[(0, .agg #[.string ⟨#[]⟩, .string x.d.buy, .int .i64 0, .int .i64 16, .int .i64 0, .string x.d.num, .string ⟨#[]⟩, .string ⟨#[]⟩, .int .i64 0, .int .i64 dy, .string x.d.cur, .int .i64 D, .slice none 0 0, .slice none 0 0])] (by simp [e126]) _ (lsliceM W1 x.d.buy x.d.num x.d.cur dy D) ⟨_, rfl, one_alloc _ _, ⟨rfl, .inr (.inl ⟨_, _, .slice none 0 0, rfl, rfl, hB.size, Blk.new _ _ _, rfl⟩)⟩⟩
                · have e10 : ac.eval (.tmp 10) = .pointer (some ⟨g + 1 + 1 + 1, 0, none⟩) := (hE 10 (by simp)).trans (by simp [evF, Act.eval])
                  obtain ⟨A7, c7, B7, k7, d7, h7, i7, l7, j7⟩ := (show (StHi wz.heap.size (of.set i 1) (pa.set i S.paid)) (vs 7) W1 from hR 7 (by simp [hdep]))
                  have e115 : ac.eval (.tmp 115) = .agg #[.slice A7 (of.set i 1).length c7, .slice B7 (pa.set i S.paid).length k7] := (hE 115 (by simp)).trans (by simp [evF, hdep, d7])
                  refine wp_store_row 37 (.tmp 10) (.tmp 115) rfl (g + 1 + 1 + 1) #[.slice A7 (of.set i 1).length c7, .slice B7 (pa.set i S.paid).length k7] e10 e115 37 _ (hX.1 hnd) (by kernel_rfl) rfl (by simp [Value.oneCell']) ⟨_, rfl, fr_row _ _ _, ?_, trivial⟩
                  exact resX_put (by simp [hdep]) d7 (by decide) (setRow_heap W1 (g + 1 + 1 + 1) _ _ _ (0, 0) (hX.1 hnd))
                · obtain ⟨d19, o19⟩ := (show (OlV wz.heap.size x.d.num dy (dutyL x.d D)) (vs 19) W1 from hR 19 (by simp [hdep]))
                  have e127 : ac.eval (.tmp 127) = (vs 19) := (hE 127 (by simp)).trans (by simp [evF, hdep, d19])
                  exact soft_value (vs 19) (by unfold execOp; simp only [e127]; rfl) ⟨rfl, o19⟩
              · intro done vs W hall hB hR hX
                obtain ⟨A7, c7, B7, k7, e7, h7, i7, l7, j7⟩ := (show StHi wz.heap.size (of.set i 1) (pa.set i S.paid) (vs 7) W from hR 7 (by simp))
                obtain ⟨_, cs, hcs, hbk⟩ := hX.2 (hall 20 (by simp))
                have hov : OlV wz.heap.size x.d.num dy (takeV 3 bank x.d S l).1 (vs 21) W := by rw [(HV).out]; exact hR 21 (by simp)
                rw [e7] at hcs
                injection hcs with hcs
                subst hcs
                have r0 := hbk.cell 0; have r1 := hbk.cell 1
                simp only [List.getElem?_toArray, List.getElem?_cons_zero, List.getElem?_cons_succ] at r0 r1
                have hbw : Below w.heap.size w W := hB.bel HBz.out (fun k e => by have := HGE.out; omega) HBz.out.size
                have HFIN : Hid (RTake w (some ⟨aA, oA, none⟩) (some ⟨aB, oB, none⟩) of pa i l.deal dy (takeV 3 bank x.d S l) (.returned (.tuple #[.agg #[.slice A7 ((of.set i 1)).length c7, .slice B7 ((pa.set i S.paid)).length k7], vs 21])) W) := Lib.hid (by
                  have e1 : ((of.set i 1)).length = of.length := List.length_set
                  have e2 : ((pa.set i S.paid)).length = pa.length := List.length_set
                  rw [e1] at h7
                  rw [e2] at i7
                  refine ⟨A7, c7, B7, k7, vs 21, by rw [e1, e2], hbw, ?_, ?_, ?_, fun x off e => .inl (Nat.le_trans HBz.out.size (l7 x off e)), fun x off e => .inl (Nat.le_trans HBz.out.size (j7 x off e))⟩
                  · rw [(HV).out]; exact h7
                  · rw [(HV).out]; first | exact i7 | (show SliceOf W 1 inC B7 pa.length (pa.set i S.paid); rw [HP0.out]; exact i7)
                  · have q := hov.2.lower HBz.out.size; rw [HNUM.out] at q; exact q)
                clear hR hB hX hall hov hbw h7 i7 hbk
                obtain ⟨v9, hv9⟩ : ∃ v, vs 21 = v := ⟨_, rfl⟩
                rw [hv9] at HFIN
                simp only [fillA, Act.put, List.setIfInBounds_toArray, List.set_cons_zero, List.set_cons_succ, if_true, hv9, e7]
                go_wp2_with fail
                refine bodyPost_ret (v := .tuple #[.agg #[.slice A7 ((of.set i 1)).length c7, .slice B7 ((pa.set i S.paid)).length k7], v9]) (by simp [results, Tryz.results18, go_sem, r0, r1]) rfl HFIN.out
        · have q3 : (S.st == 0) = false := by simpa using s1
          have HV : Hid (takeV 3 bank x.d S l = ([], S)) := Lib.hid (by unfold takeV declV; rw [if_pos ⟨rfl, k15⟩, if_neg (fun h => s1 h.2)])
          clear k15 f1 s1
          go_upto_region 15 with (fail)
          go_quiet (fail)
          have HKTz := Lib.hid (HKT6.out.drewN nq); have HKRz := Lib.hid (HKR6.out.drewN nq); have HBz := Lib.hid (below_drewN HB6.out nq)
          have t0 := HKTz.out.cell 0; have t1 := HKTz.out.cell 1
          simp only [List.getElem?_toArray, List.getElem?_cons_zero, List.getElem?_cons_succ] at t0 t1
          as_aux_lemma =>
            go_wp2_with (refine stop_store 37 _ _ rfl ?_; refine wpList_store_fr rfl 37 _ _ rfl _ rfl rfl HKRz.out (by kernel_rfl) rfl rfl ?_; intro w9 hm9 fr9)
            have r0 := hm9.cell 0; have r1 := hm9.cell 1
            simp only [List.getElem?_toArray, List.getElem?_cons_zero, List.getElem?_cons_succ] at r0 r1
            have hb9 : Below w.heap.size w w9 := fr9.bel HBz.out (fun k e => by have := HGE.out; omega) HBz.out.size
            refine bodyPost_ret (v := .tuple #[.agg #[.slice (some ⟨aA, oA, none⟩) n c, .slice (some ⟨aB, oB, none⟩) n cB], .slice none 0 0]) (by simp [results, Tryz.results18, go_sem, r0, r1]) rfl ?_
            rw [(HV).out]
            exact rt_same HSA.out HSB.out HOF.out HPA.out hb9
      · have q2 : (l.fr.toList == x.d.buy.toList) = false := by rw [eq_str]; exact decide_eq_false f1
        have HV : Hid (takeV 3 bank x.d S l = ([], S)) := Lib.hid (by unfold takeV declV; rw [if_pos ⟨rfl, k15⟩, if_neg (fun h => f1 h.1)])
        clear k15 f1
        go_upto_region 15 with (fail)
        go_quiet (fail)
        have HKTz := Lib.hid (HKT6.out.drewN nq); have HKRz := Lib.hid (HKR6.out.drewN nq); have HBz := Lib.hid (below_drewN HB6.out nq)
        have t0 := HKTz.out.cell 0; have t1 := HKTz.out.cell 1
        simp only [List.getElem?_toArray, List.getElem?_cons_zero, List.getElem?_cons_succ] at t0 t1
        as_aux_lemma =>
          go_wp2_with (refine stop_store 37 _ _ rfl ?_; refine wpList_store_fr rfl 37 _ _ rfl _ rfl rfl HKRz.out (by kernel_rfl) rfl rfl ?_; intro w9 hm9 fr9)
          have r0 := hm9.cell 0; have r1 := hm9.cell 1
          simp only [List.getElem?_toArray, List.getElem?_cons_zero, List.getElem?_cons_succ] at r0 r1
          have hb9 : Below w.heap.size w w9 := fr9.bel HBz.out (fun k e => by have := HGE.out; omega) HBz.out.size
          refine bodyPost_ret (v := .tuple #[.agg #[.slice (some ⟨aA, oA, none⟩) n c, .slice (some ⟨aB, oB, none⟩) n cB], .slice none 0 0]) (by simp [results, Tryz.results18, go_sem, r0, r1]) rfl ?_
          rw [(HV).out]
          exact rt_same HSA.out HSB.out HOF.out HPA.out hb9
    · have q1 : (l.kind == 15) = false := by simpa using k15
      by_cases k18 : l.kind = 18
      · have q18 : (l.kind == 18) = true := by rw [k18]; rfl
        by_cases f1 : l.fr = bank
        · have qf : (l.fr.toList == bank.toList) = true := by rw [eq_str]; exact decide_eq_true f1
          by_cases c1 : l.cur = x.d.cur
          · have qc : (l.cur.toList == x.d.cur.toList) = true := by rw [eq_str]; exact decide_eq_true c1
            by_cases am : 0 ≤ l.amt
            · have qa : decide (l.amt ≥ 0) = true := decide_eq_true am
              have qa2 : decide (0 ≤ l.amt) = true := decide_eq_true am
              have HT : Hid (∀ P, paidV S l.amt = P → takeV 3 bank x.d S l = if S.st = 1 ∧ D ≤ P then (freeL x.d, ⟨2, P⟩) else ([], ⟨S.st, P⟩)) := Lib.hid (fun P h => by unfold takeV credV; rw [if_neg (fun h => k15 h.2), if_pos ⟨rfl, k18⟩, if_pos ⟨f1, c1, am⟩, h, HDE.out])
              clear k15 k18 f1 c1
              go_upto_region 15 with (fail)
              have b0 := wof_cell a0; have b3 := wof_cell a3; have b10 := wof_cell a10; have b11 := wof_cell a11; have b9 := wof_cell d9
              have HLS : Hid (∀ x : BW w6, (loadVar 29 ⟨g, 0, none⟩).run Tryz.prog (wof x) = .ok (.agg #[.slice s.pA s.pn s.pc, .slice s.dA s.dn s.dc, .slice s.fA s.fn s.fc, .slice s.rA s.rn s.rc, .slice s.hA s.hn s.hc]) (wof x)) := Lib.hid (fun x => run_loadVar_row (wof x) g 29 29 #[.slice s.pA s.pn s.pc, .slice s.dA s.dn s.dc, .slice s.fA s.fn s.fc, .slice s.rA s.rn s.rc, .slice s.hA s.hn s.hc] (0, 0) _ (HKS6.out.below (wof_below x) HKS6.out.lt) Tryz.underlying29 rfl (by kernel_rfl))
              have QB : Hid (∀ x : BW w6, Calls Tryz.prog 36 #[.agg #[.slice s.pA s.pn s.pc, .slice s.dA s.dn s.dc, .slice s.fA s.fn s.fc, .slice s.rA s.rn s.rc, .slice s.hA s.hn s.hc], .string nm] (wof x) fun e w' => e = .returned (.string bank) ∧ Below (wof x).heap.size (wof x) w') := Lib.hid (fun x => by
                have q := HBI.out (wof x) (HB6.out.trans ((wof_below x).mono HB6.out.size))
                rw [HBQ.out] at q
                exact q)
              clear a0 a3 a10 a11 d0 d1 e2 d9 d10 u0 u1 ca cb
              refine wp_region_quiet_below (by kernel_rfl) (by kernel_rfl) ?_
              repeat (first | (go_big_quiet_want; refine quiet_load 29 _ rfl ⟨g, 0, none⟩ rfl (.agg #[.slice s.pA s.pn s.pc, .slice s.dA s.dn s.dc, .slice s.fA s.fn s.fc, .slice s.rA s.rn s.rc, .slice s.hA s.hn s.hc]) (by rintro _ ⟨x, rfl⟩; exact HLS.out x) ?_; simp [Act.put]; go_big_quiet_on) | go_big_quiet_step ((go_at_call 36; exact quiet_below (QB.out _))))
              refine wpQuiet_nil ?_
              intro w7 hb7
              have HKD7 := Lib.hid (HKD6.out.below hb7 HKD6.out.lt)
              have HKS7 := Lib.hid (HKS6.out.below hb7 HKS6.out.lt)
              have HKT7 := Lib.hid (HKT6.out.below hb7 HKT6.out.lt)
              have HKL7 := Lib.hid (HKL6.out.below hb7 HKL6.out.lt)
              have HKR7 := Lib.hid (HKR6.out.below hb7 HKR6.out.lt)
              have HB7 := Lib.hid (HB6.out.trans ((hb7).mono HB6.out.size))
              clear HKS6 HKT6 HKL6 HKR6 HB6
              clear hb7 b0 b3 b10 b11 b9 HLS QB HKD6
              have a11 := HKL7.out.cell 11
              have u0 := HKT7.out.cell 0; have u1 := HKT7.out.cell 1
              simp only [List.getElem?_toArray, List.getElem?_cons_zero, List.getElem?_cons_succ] at a11 u0 u1
              have ca : w7.cell? ⟨aA, oA + i, none⟩ = some (.int .i64 S.st) := ((HB7.out).cell (p := ⟨aA, oA + i, none⟩) (by have := HAL.out; have := HGE.out; simp; omega)).trans HCA.out
              have cb : w7.cell? ⟨aB, oB + i, none⟩ = some (.int .i64 S.paid) := ((HB7.out).cell (p := ⟨aB, oB + i, none⟩) (by have := HBL.out; have := HGE.out; simp; omega)).trans HCB.out
              by_cases ho : l.amt > 1099511627776 - S.paid
              · have qo : decide (l.amt > 1099511627776 - S.paid) = true := decide_eq_true ho
                have ho2 : 1099511627776 - S.paid < l.amt := ho
                obtain ⟨P, hP⟩ : ∃ P : Int, P = 1099511627776 := ⟨_, rfl⟩
                have HPP : Hid (takeV 3 bank x.d S l = if S.st = 1 ∧ D ≤ P then (freeL x.d, ⟨2, P⟩) else ([], ⟨S.st, P⟩)) := Lib.hid (HT.out P (by unfold paidV; omega))
                have HPE := Lib.hid hP
                clear hP HT
                go_upto_region 20 with (fail)
                rw [← HPE.out]
                clear ho ho2 qo
                by_cases hst : S.st = 1
                · have q5 : (S.st == 1) = true := by rw [hst]; rfl
                  by_cases hge : D ≤ P
                  · have q6 : decide (P ≥ D) = true := decide_eq_true hge
                    have HV : Hid (takeV 3 bank x.d S l = (freeL x.d, ⟨2, P⟩)) := Lib.hid (by rw [HPP.out, if_pos ⟨hst, hge⟩])
                    clear HPP hst
                    go_upto_region 21 with (fail)
                    clear a11 u0 u1 ca cb
                    have HKTz := HKT7; have HKDz := HKD7; have HKRz := HKR7; have HBz := HB7
                    obtain ⟨wz, hwz⟩ : ∃ W, w7 = W := ⟨_, rfl⟩
                    rw [hwz] at HKTz HKDz HKRz HBz ⊢
                    clear hwz
                    have NT : ¬ g + 1 = g + 1 + 1 + 1 := by omega
                    have ND : ¬ g4 = g + 1 + 1 + 1 := HKDz.out.ne_ HKRz.out (by decide)
                    have HSA8 := Lib.hid (HSA.out.below HBz.out); have HSB8 := Lib.hid (HSB.out.below HBz.out)
                    have HLO : Hid (∀ k, k = g + 1 + 1 + 1 → k < wz.heap.size) := Lib.hid (fun k e => e ▸ HKRz.out.lt)
                    have HNA : Hid (∀ b off, (some (⟨aA, oA, none⟩ : Addr)) = some ⟨b, off, none⟩ → ¬ b = g + 1 + 1 + 1) := Lib.hid (fun b off e q => by injection e with e; injection e with e; have := HAL.out; omega)
                    have HNB : Hid (∀ b off, (some (⟨aB, oB, none⟩ : Addr)) = some ⟨b, off, none⟩ → ¬ b = g + 1 + 1 + 1) := Lib.hid (fun b off e q => by injection e with e; injection e with e; have := HBL.out; omega)
                    have HCA8 := Lib.hid (((HBz.out).cell (p := ⟨aA, oA + i, none⟩) (by have := HAL.out; have := HGE.out; simp; omega)).trans HCA.out); have HCB8 := Lib.hid (((HBz.out).cell (p := ⟨aB, oB + i, none⟩) (by have := HBL.out; have := HGE.out; simp; omega)).trans HCB.out)
                    try simp only [Act.put, List.setIfInBounds_toArray, List.set_cons_zero, List.set_cons_succ]
                    as_aux_lemma =>
                      refine wp_region_softX [Is (.agg #[.slice (some ⟨aA, oA, none⟩) n c, .slice (some ⟨aB, oB, none⟩) n cB]), Is (.int .i64 (i : Int)), Is (.int .i64 P), StHi wz.heap.size (of.set i 2) (pa.set i P), Is (.agg #[.string x.d.num, .string x.d.sel, .string x.d.buy, .string x.d.car, .string x.d.iss, .string x.d.hou, .string x.d.ins, .string x.d.fr, .string x.d.dst, .string x.d.cur, .int .i64 x.d.amt, .slice x.A x.n x.c, .int .i64 x.d.term, .int .i64 x.d.lat, .int .i64 x.d.exp, .int .i64 x.d.ten, .int .i64 x.d.dut]), Is (.int .i64 dy), OlV wz.heap.size x.d.num dy (freeL x.d), AnyV, OlV wz.heap.size x.d.num dy (freeL x.d)] ⟨stab_is _, stab_is _, stab_is _, stab_sthi _ _ _, stab_is _, stab_is _, stab_olv _ _ _ _, stab_anyv, stab_olv _ _ _ _, trivial⟩ (fun k => k = g + 1 + 1 + 1) ⟨stabf_is _ _, stabf_is _ _, stabf_is _ _, stabf_sthi HLO.out _ _, stabf_is _ _, stabf_is _ _, stabf_olv HLO.out _ _ _, stabf_anyv _, stabf_olv HLO.out _ _ _, trivial⟩ [false, false, false, false, false, false, false, true, false] (ResX (g + 1 + 1 + 1) 7 3) (resX_stab rfl) (resX_start HKRz.out) (by kernel_rfl) (by kernel_rfl) ?_ ?_
                      · refine ⟨?_, ?_, ?_, ?_, ?_, ?_, ?_, ?_, ?_, trivial⟩
                        all_goals intro done vs ac W1 hdep hnd hB hR hX hE
                        all_goals try simp only [Nat.zero_add, Nat.reduceAdd] at hnd ⊢
                        all_goals have ec : ∀ v : Value, ac.eval (.const v) = v := fun _ => rfl
                        all_goals try simp [Region.binds] at hdep
                        · have e7 : ac.eval (.tmp 7) = .pointer (some ⟨g + 1, 0, none⟩) := (hE 7 (by simp)).trans (by simp [evF, Act.eval])
                          exact wp_load_row 37 _ rfl (g + 1) e7 37 _ (0, 0) _ (HKTz.out.fr hB NT) Tryz.underlying37 rfl (by kernel_rfl) ⟨_, rfl, Below.refl _ _, rfl⟩
                        · have e12 : ac.eval (.tmp 12) = .int .i64 (i : Int) := (hE 12 (by simp)).trans (by simp [evF, Act.eval])
                          exact soft_value (.int .i64 (i : Int)) (by unfold execOp; simp only [e12, ec]; rfl) rfl
                        · have e17 : ac.eval (.tmp 17) = .int .i64 P := (hE 17 (by simp)).trans (by simp [evF, Act.eval])
                          exact soft_value (.int .i64 P) (by unfold execOp; simp only [e17, ec]; rfl) rfl
                        · have d0 : vs 0 = .agg #[.slice (some ⟨aA, oA, none⟩) n c, .slice (some ⟨aB, oB, none⟩) n cB] := hR 0 (by simp [hdep])
                          have e183 : ac.eval (.tmp 183) = .agg #[.slice (some ⟨aA, oA, none⟩) n c, .slice (some ⟨aB, oB, none⟩) n cB] := (hE 183 (by simp)).trans (by simp [evF, hdep, d0])
                          have d1 : vs 1 = .int .i64 (i : Int) := hR 1 (by simp [hdep])
                          have e184 : ac.eval (.tmp 184) = .int .i64 (i : Int) := (hE 184 (by simp)).trans (by simp [evF, hdep, d1])
                          have d2 : vs 2 = .int .i64 P := hR 2 (by simp [hdep])
                          have e185 : ac.eval (.tmp 185) = .int .i64 P := (hE 185 (by simp)).trans (by simp [evF, hdep, d2])
                          refine soft_call 33 _ _ rfl (enters_fn Tryz.func33 (by kernel_rfl) rfl) #[.agg #[.slice (some ⟨aA, oA, none⟩) n c, .slice (some ⟨aB, oB, none⟩) n cB], .int .i64 (i : Int), .int .i64 2, .int .i64 P] (by simp [e183, e184, e185, ec]) ?_
                          refine (rset_any (some ⟨aA, oA, none⟩) (some ⟨aB, oB, none⟩) n c cB of pa i 2 P W1 (HSA8.out.fr hB HNA.out) (HSB8.out.fr hB HNB.out) hn hin).mono ?_
                          rintro e9 w9 ⟨v9, rfl, hb9, hs9⟩
                          exact ⟨_, rfl, hb9, hs9.lower hB.size⟩
                        · have e13 : ac.eval (.tmp 13) = .pointer (some ⟨g4, 0, none⟩) := (hE 13 (by simp)).trans (by simp [evF, Act.eval])
                          exact wp_load_row 53 _ rfl (g4) e13 53 _ (0, 0) _ (HKDz.out.fr hB ND) Tryz.underlying53 rfl (by kernel_rfl) ⟨_, rfl, Below.refl _ _, rfl⟩
                        · have e4 : ac.eval (.tmp 4) = .int .i64 dy := (hE 4 (by simp)).trans (by simp [evF, Act.eval])
                          exact soft_value (.int .i64 dy) (by unfold execOp; simp only [e4, ec]; rfl) rfl
                        · have d4 : vs 4 = .agg #[.string x.d.num, .string x.d.sel, .string x.d.buy, .string x.d.car, .string x.d.iss, .string x.d.hou, .string x.d.ins, .string x.d.fr, .string x.d.dst, .string x.d.cur, .int .i64 x.d.amt, .slice x.A x.n x.c, .int .i64 x.d.term, .int .i64 x.d.lat, .int .i64 x.d.exp, .int .i64 x.d.ten, .int .i64 x.d.dut] := hR 4 (by simp [hdep])
                          have e187 : ac.eval (.tmp 187) = .agg #[.string x.d.num, .string x.d.sel, .string x.d.buy, .string x.d.car, .string x.d.iss, .string x.d.hou, .string x.d.ins, .string x.d.fr, .string x.d.dst, .string x.d.cur, .int .i64 x.d.amt, .slice x.A x.n x.c, .int .i64 x.d.term, .int .i64 x.d.lat, .int .i64 x.d.exp, .int .i64 x.d.ten, .int .i64 x.d.dut] := (hE 187 (by simp)).trans (by simp [evF, hdep, d4])
                          have d5 : vs 5 = .int .i64 dy := hR 5 (by simp [hdep])
                          have e188 : ac.eval (.tmp 188) = .int .i64 dy := (hE 188 (by simp)).trans (by simp [evF, hdep, d5])
                          refine soft_call 35 _ _ rfl (enters_fn Tryz.func35 (by kernel_rfl) rfl) #[.agg #[.string x.d.num, .string x.d.sel, .string x.d.buy, .string x.d.car, .string x.d.iss, .string x.d.hou, .string x.d.ins, .string x.d.fr, .string x.d.dst, .string x.d.cur, .int .i64 x.d.amt, .slice x.A x.n x.c, .int .i64 x.d.term, .int .i64 x.d.lat, .int .i64 x.d.exp, .int .i64 x.d.ten, .int .i64 x.d.dut], .int .i64 dy] (by simp [e187, e188, ec]) ?_
                          refine (rrel_any x.d x.A x.n x.c dy W1).mono ?_
                          rintro e9 w9 ⟨v9, rfl, hb9, ho9⟩
                          exact ⟨_, rfl, hb9, ⟨rfl, ho9.lower hB.size⟩⟩
                        · have e10 : ac.eval (.tmp 10) = .pointer (some ⟨g + 1 + 1 + 1, 0, none⟩) := (hE 10 (by simp)).trans (by simp [evF, Act.eval])
                          obtain ⟨A3, c3, B3, k3, d3, h3, i3, l3, j3⟩ := (show (StHi wz.heap.size (of.set i 2) (pa.set i P)) (vs 3) W1 from hR 3 (by simp [hdep]))
                          have e186 : ac.eval (.tmp 186) = .agg #[.slice A3 (of.set i 2).length c3, .slice B3 (pa.set i P).length k3] := (hE 186 (by simp)).trans (by simp [evF, hdep, d3])
                          refine wp_store_row 37 (.tmp 10) (.tmp 186) rfl (g + 1 + 1 + 1) #[.slice A3 (of.set i 2).length c3, .slice B3 (pa.set i P).length k3] e10 e186 37 _ (hX.1 hnd) (by kernel_rfl) rfl (by simp [Value.oneCell']) ⟨_, rfl, fr_row _ _ _, ?_, trivial⟩
                          exact resX_put (by simp [hdep]) d3 (by decide) (setRow_heap W1 (g + 1 + 1 + 1) _ _ _ (0, 0) (hX.1 hnd))
                        · obtain ⟨d6, o6⟩ := (show (OlV wz.heap.size x.d.num dy (freeL x.d)) (vs 6) W1 from hR 6 (by simp [hdep]))
                          have e189 : ac.eval (.tmp 189) = (vs 6) := (hE 189 (by simp)).trans (by simp [evF, hdep, d6])
                          exact soft_value (vs 6) (by unfold execOp; simp only [e189]; rfl) ⟨rfl, o6⟩
                      · intro done vs W hall hB hR hX
                        obtain ⟨A7, c7, B7, k7, e7, h7, i7, l7, j7⟩ := (show StHi wz.heap.size (of.set i 2) (pa.set i P) (vs 3) W from hR 3 (by simp))
                        obtain ⟨_, cs, hcs, hbk⟩ := hX.2 (hall 7 (by simp))
                        have hov : OlV wz.heap.size x.d.num dy (takeV 3 bank x.d S l).1 (vs 8) W := by rw [(HV).out]; exact hR 8 (by simp)
                        rw [e7] at hcs
                        injection hcs with hcs
                        subst hcs
                        have r0 := hbk.cell 0; have r1 := hbk.cell 1
                        simp only [List.getElem?_toArray, List.getElem?_cons_zero, List.getElem?_cons_succ] at r0 r1
                        have hbw : Below w.heap.size w W := hB.bel HBz.out (fun k e => by have := HGE.out; omega) HBz.out.size
                        have HFIN : Hid (RTake w (some ⟨aA, oA, none⟩) (some ⟨aB, oB, none⟩) of pa i l.deal dy (takeV 3 bank x.d S l) (.returned (.tuple #[.agg #[.slice A7 ((of.set i 2)).length c7, .slice B7 ((pa.set i P)).length k7], vs 8])) W) := Lib.hid (by
                          have e1 : ((of.set i 2)).length = of.length := List.length_set
                          have e2 : ((pa.set i P)).length = pa.length := List.length_set
                          rw [e1] at h7
                          rw [e2] at i7
                          refine ⟨A7, c7, B7, k7, vs 8, by rw [e1, e2], hbw, ?_, ?_, ?_, fun x off e => .inl (Nat.le_trans HBz.out.size (l7 x off e)), fun x off e => .inl (Nat.le_trans HBz.out.size (j7 x off e))⟩
                          · rw [(HV).out]; exact h7
                          · rw [(HV).out]; first | exact i7 | (show SliceOf W 1 inC B7 pa.length (pa.set i S.paid); rw [HP0.out]; exact i7)
                          · have q := hov.2.lower HBz.out.size; rw [HNUM.out] at q; exact q)
                        clear hR hB hX hall hov hbw h7 i7 hbk
                        obtain ⟨v9, hv9⟩ : ∃ v, vs 8 = v := ⟨_, rfl⟩
                        rw [hv9] at HFIN
                        simp only [fillA, Act.put, List.setIfInBounds_toArray, List.set_cons_zero, List.set_cons_succ, if_true, hv9, e7]
                        go_wp2_with fail
                        refine bodyPost_ret (v := .tuple #[.agg #[.slice A7 ((of.set i 2)).length c7, .slice B7 ((pa.set i P)).length k7], v9]) (by simp [results, Tryz.results18, go_sem, r0, r1]) rfl HFIN.out
                  · have q6 : decide (P ≥ D) = false := decide_eq_false hge
                    have hge2 : P < D := by omega
                    have HV : Hid (takeV 3 bank x.d S l = ([], ⟨S.st, P⟩)) := Lib.hid (by rw [HPP.out, if_neg (fun h => hge h.2)])
                    clear HPP hst
                    go_upto_region 22 with (fail)
                    clear a11 u0 u1 ca cb
                    have HKTz := HKT7; have HKDz := HKD7; have HKRz := HKR7; have HBz := HB7
                    obtain ⟨wz, hwz⟩ : ∃ W, w7 = W := ⟨_, rfl⟩
                    rw [hwz] at HKTz HKDz HKRz HBz ⊢
                    clear hwz
                    have NT : ¬ g + 1 = g + 1 + 1 + 1 := by omega
                    have ND : ¬ g4 = g + 1 + 1 + 1 := HKDz.out.ne_ HKRz.out (by decide)
                    have HSA8 := Lib.hid (HSA.out.below HBz.out); have HSB8 := Lib.hid (HSB.out.below HBz.out)
                    have HLO : Hid (∀ k, k = g + 1 + 1 + 1 → k < wz.heap.size) := Lib.hid (fun k e => e ▸ HKRz.out.lt)
                    have HNA : Hid (∀ b off, (some (⟨aA, oA, none⟩ : Addr)) = some ⟨b, off, none⟩ → ¬ b = g + 1 + 1 + 1) := Lib.hid (fun b off e q => by injection e with e; injection e with e; have := HAL.out; omega)
                    have HNB : Hid (∀ b off, (some (⟨aB, oB, none⟩ : Addr)) = some ⟨b, off, none⟩ → ¬ b = g + 1 + 1 + 1) := Lib.hid (fun b off e q => by injection e with e; injection e with e; have := HBL.out; omega)
                    have HCA8 := Lib.hid (((HBz.out).cell (p := ⟨aA, oA + i, none⟩) (by have := HAL.out; have := HGE.out; simp; omega)).trans HCA.out); have HCB8 := Lib.hid (((HBz.out).cell (p := ⟨aB, oB + i, none⟩) (by have := HBL.out; have := HGE.out; simp; omega)).trans HCB.out)
                    try simp only [Act.put, List.setIfInBounds_toArray, List.set_cons_zero, List.set_cons_succ]
                    as_aux_lemma =>
                      refine wp_region_softX [Is (.agg #[.slice (some ⟨aA, oA, none⟩) n c, .slice (some ⟨aB, oB, none⟩) n cB]), Is (.int .i64 (i : Int)), Is (.pointer (some ⟨g + 1, 0, none⟩)), Is (.slice (some ⟨aA, oA, none⟩) n c), Is (.int .i64 (i : Int)), Is (.pointer (some ⟨aA, oA + i, none⟩)), Is (.int .i64 S.st), Is (.int .i64 P), StHi wz.heap.size (of.set i S.st) (pa.set i P), AnyV, OlV wz.heap.size x.d.num dy []] ⟨stab_is _, stab_is _, stab_is _, stab_is _, stab_is _, stab_is _, stab_is _, stab_is _, stab_sthi _ _ _, stab_anyv, stab_olv _ _ _ _, trivial⟩ (fun k => k = g + 1 + 1 + 1) ⟨stabf_is _ _, stabf_is _ _, stabf_is _ _, stabf_is _ _, stabf_is _ _, stabf_is _ _, stabf_is _ _, stabf_is _ _, stabf_sthi HLO.out _ _, stabf_anyv _, stabf_olv HLO.out _ _ _, trivial⟩ [false, false, false, false, false, false, false, false, false, true, false] (ResX (g + 1 + 1 + 1) 9 8) (resX_stab rfl) (resX_start HKRz.out) (by kernel_rfl) (by kernel_rfl) ?_ ?_
                      · refine ⟨?_, ?_, ?_, ?_, ?_, ?_, ?_, ?_, ?_, ?_, ?_, trivial⟩
                        all_goals intro done vs ac W1 hdep hnd hB hR hX hE
                        all_goals try simp only [Nat.zero_add, Nat.reduceAdd] at hnd ⊢
                        all_goals have ec : ∀ v : Value, ac.eval (.const v) = v := fun _ => rfl
                        all_goals try simp [Region.binds] at hdep
                        · have e7 : ac.eval (.tmp 7) = .pointer (some ⟨g + 1, 0, none⟩) := (hE 7 (by simp)).trans (by simp [evF, Act.eval])
                          exact wp_load_row 37 _ rfl (g + 1) e7 37 _ (0, 0) _ (HKTz.out.fr hB NT) Tryz.underlying37 rfl (by kernel_rfl) ⟨_, rfl, Below.refl _ _, rfl⟩
                        · have e12 : ac.eval (.tmp 12) = .int .i64 (i : Int) := (hE 12 (by simp)).trans (by simp [evF, Act.eval])
                          exact soft_value (.int .i64 (i : Int)) (by unfold execOp; simp only [e12, ec]; rfl) rfl
                        · have e7 : ac.eval (.tmp 7) = .pointer (some ⟨g + 1, 0, none⟩) := (hE 7 (by simp)).trans (by simp [evF, Act.eval])
                          exact soft_value (.pointer (some ⟨g + 1, 0, none⟩)) (by unfold execOp; simp only [e7]; kernel_rfl) rfl
                        · have d2 : vs 2 = .pointer (some ⟨g + 1, 0, none⟩) := hR 2 (by simp [hdep])
                          have e192 : ac.eval (.tmp 192) = .pointer (some ⟨g + 1, 0, none⟩) := (hE 192 (by simp)).trans (by simp [evF, hdep, d2])
                          have hc0 : W1.cell? ⟨g + 1, 0, none⟩ = some (.slice (some ⟨aA, oA, none⟩) n c) := (HKTz.out.fr hB NT).cell 0
                          exact soft_value (.slice (some ⟨aA, oA, none⟩) n c) (by unfold execOp; simp only [e192]; go_simp) rfl
                        · have e12 : ac.eval (.tmp 12) = .int .i64 (i : Int) := (hE 12 (by simp)).trans (by simp [evF, Act.eval])
                          exact soft_value (.int .i64 (i : Int)) (by unfold execOp; simp only [e12, ec]; rfl) rfl
                        · have d3 : vs 3 = .slice (some ⟨aA, oA, none⟩) n c := hR 3 (by simp [hdep])
                          have e193 : ac.eval (.tmp 193) = .slice (some ⟨aA, oA, none⟩) n c := (hE 193 (by simp)).trans (by simp [evF, hdep, d3])
                          have d4 : vs 4 = .int .i64 (i : Int) := hR 4 (by simp [hdep])
                          have e194 : ac.eval (.tmp 194) = .int .i64 (i : Int) := (hE 194 (by simp)).trans (by simp [evF, hdep, d4])
                          have hix := ixk (w := W1) 25 _ 1 Tryz.underlying25 (by kernel_rfl) aA oA i n c hin
                          rw [Nat.mul_one] at hix
                          exact soft_value (.pointer (some ⟨aA, oA + i, none⟩)) (by simp only [execOp, e193, e194]; simp [hix, Result.andThen]) rfl
                        · have d5 : vs 5 = .pointer (some ⟨aA, oA + i, none⟩) := hR 5 (by simp [hdep])
                          have e195 : ac.eval (.tmp 195) = .pointer (some ⟨aA, oA + i, none⟩) := (hE 195 (by simp)).trans (by simp [evF, hdep, d5])
                          have hcc := cell_fr HCA8.out hB (HNA.out _ _ rfl)
                          exact soft_value (.int .i64 S.st) (by unfold execOp; simp only [e195]; go_simp) rfl
                        · have e17 : ac.eval (.tmp 17) = .int .i64 P := (hE 17 (by simp)).trans (by simp [evF, Act.eval])
                          exact soft_value (.int .i64 P) (by unfold execOp; simp only [e17, ec]; rfl) rfl
                        · have d0 : vs 0 = .agg #[.slice (some ⟨aA, oA, none⟩) n c, .slice (some ⟨aB, oB, none⟩) n cB] := hR 0 (by simp [hdep])
                          have e190 : ac.eval (.tmp 190) = .agg #[.slice (some ⟨aA, oA, none⟩) n c, .slice (some ⟨aB, oB, none⟩) n cB] := (hE 190 (by simp)).trans (by simp [evF, hdep, d0])
                          have d1 : vs 1 = .int .i64 (i : Int) := hR 1 (by simp [hdep])
                          have e191 : ac.eval (.tmp 191) = .int .i64 (i : Int) := (hE 191 (by simp)).trans (by simp [evF, hdep, d1])
                          have d6 : vs 6 = .int .i64 S.st := hR 6 (by simp [hdep])
                          have e196 : ac.eval (.tmp 196) = .int .i64 S.st := (hE 196 (by simp)).trans (by simp [evF, hdep, d6])
                          have d7 : vs 7 = .int .i64 P := hR 7 (by simp [hdep])
                          have e197 : ac.eval (.tmp 197) = .int .i64 P := (hE 197 (by simp)).trans (by simp [evF, hdep, d7])
                          refine soft_call 33 _ _ rfl (enters_fn Tryz.func33 (by kernel_rfl) rfl) #[.agg #[.slice (some ⟨aA, oA, none⟩) n c, .slice (some ⟨aB, oB, none⟩) n cB], .int .i64 (i : Int), .int .i64 S.st, .int .i64 P] (by simp [e190, e191, e196, e197, ec]) ?_
                          refine (rset_any (some ⟨aA, oA, none⟩) (some ⟨aB, oB, none⟩) n c cB of pa i S.st P W1 (HSA8.out.fr hB HNA.out) (HSB8.out.fr hB HNB.out) hn hin).mono ?_
                          rintro e9 w9 ⟨v9, rfl, hb9, hs9⟩
                          exact ⟨_, rfl, hb9, hs9.lower hB.size⟩
                        · have e10 : ac.eval (.tmp 10) = .pointer (some ⟨g + 1 + 1 + 1, 0, none⟩) := (hE 10 (by simp)).trans (by simp [evF, Act.eval])
                          obtain ⟨A8, c8, B8, k8, d8, h8, i8, l8, j8⟩ := (show (StHi wz.heap.size (of.set i S.st) (pa.set i P)) (vs 8) W1 from hR 8 (by simp [hdep]))
                          have e198 : ac.eval (.tmp 198) = .agg #[.slice A8 (of.set i S.st).length c8, .slice B8 (pa.set i P).length k8] := (hE 198 (by simp)).trans (by simp [evF, hdep, d8])
                          refine wp_store_row 37 (.tmp 10) (.tmp 198) rfl (g + 1 + 1 + 1) #[.slice A8 (of.set i S.st).length c8, .slice B8 (pa.set i P).length k8] e10 e198 37 _ (hX.1 hnd) (by kernel_rfl) rfl (by simp [Value.oneCell']) ⟨_, rfl, fr_row _ _ _, ?_, trivial⟩
                          exact resX_put (by simp [hdep]) d8 (by decide) (setRow_heap W1 (g + 1 + 1 + 1) _ _ _ (0, 0) (hX.1 hnd))
                        · exact soft_value (.slice none 0 0) (by unfold execOp; simp only [ec]; rfl) ⟨rfl, .inl ⟨rfl, rfl⟩⟩
                      · intro done vs W hall hB hR hX
                        obtain ⟨A7, c7, B7, k7, e7, h7, i7, l7, j7⟩ := (show StHi wz.heap.size (of.set i S.st) (pa.set i P) (vs 8) W from hR 8 (by simp))
                        obtain ⟨_, cs, hcs, hbk⟩ := hX.2 (hall 9 (by simp))
                        have hov : OlV wz.heap.size x.d.num dy (takeV 3 bank x.d S l).1 (vs 10) W := by rw [(HV).out]; exact hR 10 (by simp)
                        rw [e7] at hcs
                        injection hcs with hcs
                        subst hcs
                        have r0 := hbk.cell 0; have r1 := hbk.cell 1
                        simp only [List.getElem?_toArray, List.getElem?_cons_zero, List.getElem?_cons_succ] at r0 r1
                        have hbw : Below w.heap.size w W := hB.bel HBz.out (fun k e => by have := HGE.out; omega) HBz.out.size
                        have HFIN : Hid (RTake w (some ⟨aA, oA, none⟩) (some ⟨aB, oB, none⟩) of pa i l.deal dy (takeV 3 bank x.d S l) (.returned (.tuple #[.agg #[.slice A7 ((of.set i S.st)).length c7, .slice B7 ((pa.set i P)).length k7], vs 10])) W) := Lib.hid (by
                          have e1 : ((of.set i S.st)).length = of.length := List.length_set
                          have e2 : ((pa.set i P)).length = pa.length := List.length_set
                          rw [e1] at h7
                          rw [e2] at i7
                          refine ⟨A7, c7, B7, k7, vs 10, by rw [e1, e2], hbw, ?_, ?_, ?_, fun x off e => .inl (Nat.le_trans HBz.out.size (l7 x off e)), fun x off e => .inl (Nat.le_trans HBz.out.size (j7 x off e))⟩
                          · rw [(HV).out]; exact h7
                          · rw [(HV).out]; first | exact i7 | (show SliceOf W 1 inC B7 pa.length (pa.set i S.paid); rw [HP0.out]; exact i7)
                          · have q := hov.2.lower HBz.out.size; rw [HNUM.out] at q; exact q)
                        clear hR hB hX hall hov hbw h7 i7 hbk
                        obtain ⟨v9, hv9⟩ : ∃ v, vs 10 = v := ⟨_, rfl⟩
                        rw [hv9] at HFIN
                        simp only [fillA, Act.put, List.setIfInBounds_toArray, List.set_cons_zero, List.set_cons_succ, if_true, hv9, e7]
                        go_wp2_with fail
                        refine bodyPost_ret (v := .tuple #[.agg #[.slice A7 ((of.set i S.st)).length c7, .slice B7 ((pa.set i P)).length k7], v9]) (by simp [results, Tryz.results18, go_sem, r0, r1]) rfl HFIN.out
                · have q5 : (S.st == 1) = false := by simpa using hst
                  have HV : Hid (takeV 3 bank x.d S l = ([], ⟨S.st, P⟩)) := Lib.hid (by rw [HPP.out, if_neg (fun h => hst h.1)])
                  clear HPP hst
                  go_upto_region 22 with (fail)
                  clear a11 u0 u1 ca cb
                  have HKTz := HKT7; have HKDz := HKD7; have HKRz := HKR7; have HBz := HB7
                  obtain ⟨wz, hwz⟩ : ∃ W, w7 = W := ⟨_, rfl⟩
                  rw [hwz] at HKTz HKDz HKRz HBz ⊢
                  clear hwz
                  have NT : ¬ g + 1 = g + 1 + 1 + 1 := by omega
                  have ND : ¬ g4 = g + 1 + 1 + 1 := HKDz.out.ne_ HKRz.out (by decide)
                  have HSA8 := Lib.hid (HSA.out.below HBz.out); have HSB8 := Lib.hid (HSB.out.below HBz.out)
                  have HLO : Hid (∀ k, k = g + 1 + 1 + 1 → k < wz.heap.size) := Lib.hid (fun k e => e ▸ HKRz.out.lt)
                  have HNA : Hid (∀ b off, (some (⟨aA, oA, none⟩ : Addr)) = some ⟨b, off, none⟩ → ¬ b = g + 1 + 1 + 1) := Lib.hid (fun b off e q => by injection e with e; injection e with e; have := HAL.out; omega)
                  have HNB : Hid (∀ b off, (some (⟨aB, oB, none⟩ : Addr)) = some ⟨b, off, none⟩ → ¬ b = g + 1 + 1 + 1) := Lib.hid (fun b off e q => by injection e with e; injection e with e; have := HBL.out; omega)
                  have HCA8 := Lib.hid (((HBz.out).cell (p := ⟨aA, oA + i, none⟩) (by have := HAL.out; have := HGE.out; simp; omega)).trans HCA.out); have HCB8 := Lib.hid (((HBz.out).cell (p := ⟨aB, oB + i, none⟩) (by have := HBL.out; have := HGE.out; simp; omega)).trans HCB.out)
                  try simp only [Act.put, List.setIfInBounds_toArray, List.set_cons_zero, List.set_cons_succ]
                  as_aux_lemma =>
                    refine wp_region_softX [Is (.agg #[.slice (some ⟨aA, oA, none⟩) n c, .slice (some ⟨aB, oB, none⟩) n cB]), Is (.int .i64 (i : Int)), Is (.pointer (some ⟨g + 1, 0, none⟩)), Is (.slice (some ⟨aA, oA, none⟩) n c), Is (.int .i64 (i : Int)), Is (.pointer (some ⟨aA, oA + i, none⟩)), Is (.int .i64 S.st), Is (.int .i64 P), StHi wz.heap.size (of.set i S.st) (pa.set i P), AnyV, OlV wz.heap.size x.d.num dy []] ⟨stab_is _, stab_is _, stab_is _, stab_is _, stab_is _, stab_is _, stab_is _, stab_is _, stab_sthi _ _ _, stab_anyv, stab_olv _ _ _ _, trivial⟩ (fun k => k = g + 1 + 1 + 1) ⟨stabf_is _ _, stabf_is _ _, stabf_is _ _, stabf_is _ _, stabf_is _ _, stabf_is _ _, stabf_is _ _, stabf_is _ _, stabf_sthi HLO.out _ _, stabf_anyv _, stabf_olv HLO.out _ _ _, trivial⟩ [false, false, false, false, false, false, false, false, false, true, false] (ResX (g + 1 + 1 + 1) 9 8) (resX_stab rfl) (resX_start HKRz.out) (by kernel_rfl) (by kernel_rfl) ?_ ?_
                    · refine ⟨?_, ?_, ?_, ?_, ?_, ?_, ?_, ?_, ?_, ?_, ?_, trivial⟩
                      all_goals intro done vs ac W1 hdep hnd hB hR hX hE
                      all_goals try simp only [Nat.zero_add, Nat.reduceAdd] at hnd ⊢
                      all_goals have ec : ∀ v : Value, ac.eval (.const v) = v := fun _ => rfl
                      all_goals try simp [Region.binds] at hdep
                      · have e7 : ac.eval (.tmp 7) = .pointer (some ⟨g + 1, 0, none⟩) := (hE 7 (by simp)).trans (by simp [evF, Act.eval])
                        exact wp_load_row 37 _ rfl (g + 1) e7 37 _ (0, 0) _ (HKTz.out.fr hB NT) Tryz.underlying37 rfl (by kernel_rfl) ⟨_, rfl, Below.refl _ _, rfl⟩
                      · have e12 : ac.eval (.tmp 12) = .int .i64 (i : Int) := (hE 12 (by simp)).trans (by simp [evF, Act.eval])
                        exact soft_value (.int .i64 (i : Int)) (by unfold execOp; simp only [e12, ec]; rfl) rfl
                      · have e7 : ac.eval (.tmp 7) = .pointer (some ⟨g + 1, 0, none⟩) := (hE 7 (by simp)).trans (by simp [evF, Act.eval])
                        exact soft_value (.pointer (some ⟨g + 1, 0, none⟩)) (by unfold execOp; simp only [e7]; kernel_rfl) rfl
                      · have d2 : vs 2 = .pointer (some ⟨g + 1, 0, none⟩) := hR 2 (by simp [hdep])
                        have e192 : ac.eval (.tmp 192) = .pointer (some ⟨g + 1, 0, none⟩) := (hE 192 (by simp)).trans (by simp [evF, hdep, d2])
                        have hc0 : W1.cell? ⟨g + 1, 0, none⟩ = some (.slice (some ⟨aA, oA, none⟩) n c) := (HKTz.out.fr hB NT).cell 0
                        exact soft_value (.slice (some ⟨aA, oA, none⟩) n c) (by unfold execOp; simp only [e192]; go_simp) rfl
                      · have e12 : ac.eval (.tmp 12) = .int .i64 (i : Int) := (hE 12 (by simp)).trans (by simp [evF, Act.eval])
                        exact soft_value (.int .i64 (i : Int)) (by unfold execOp; simp only [e12, ec]; rfl) rfl
                      · have d3 : vs 3 = .slice (some ⟨aA, oA, none⟩) n c := hR 3 (by simp [hdep])
                        have e193 : ac.eval (.tmp 193) = .slice (some ⟨aA, oA, none⟩) n c := (hE 193 (by simp)).trans (by simp [evF, hdep, d3])
                        have d4 : vs 4 = .int .i64 (i : Int) := hR 4 (by simp [hdep])
                        have e194 : ac.eval (.tmp 194) = .int .i64 (i : Int) := (hE 194 (by simp)).trans (by simp [evF, hdep, d4])
                        have hix := ixk (w := W1) 25 _ 1 Tryz.underlying25 (by kernel_rfl) aA oA i n c hin
                        rw [Nat.mul_one] at hix
                        exact soft_value (.pointer (some ⟨aA, oA + i, none⟩)) (by simp only [execOp, e193, e194]; simp [hix, Result.andThen]) rfl
                      · have d5 : vs 5 = .pointer (some ⟨aA, oA + i, none⟩) := hR 5 (by simp [hdep])
                        have e195 : ac.eval (.tmp 195) = .pointer (some ⟨aA, oA + i, none⟩) := (hE 195 (by simp)).trans (by simp [evF, hdep, d5])
                        have hcc := cell_fr HCA8.out hB (HNA.out _ _ rfl)
                        exact soft_value (.int .i64 S.st) (by unfold execOp; simp only [e195]; go_simp) rfl
                      · have e17 : ac.eval (.tmp 17) = .int .i64 P := (hE 17 (by simp)).trans (by simp [evF, Act.eval])
                        exact soft_value (.int .i64 P) (by unfold execOp; simp only [e17, ec]; rfl) rfl
                      · have d0 : vs 0 = .agg #[.slice (some ⟨aA, oA, none⟩) n c, .slice (some ⟨aB, oB, none⟩) n cB] := hR 0 (by simp [hdep])
                        have e190 : ac.eval (.tmp 190) = .agg #[.slice (some ⟨aA, oA, none⟩) n c, .slice (some ⟨aB, oB, none⟩) n cB] := (hE 190 (by simp)).trans (by simp [evF, hdep, d0])
                        have d1 : vs 1 = .int .i64 (i : Int) := hR 1 (by simp [hdep])
                        have e191 : ac.eval (.tmp 191) = .int .i64 (i : Int) := (hE 191 (by simp)).trans (by simp [evF, hdep, d1])
                        have d6 : vs 6 = .int .i64 S.st := hR 6 (by simp [hdep])
                        have e196 : ac.eval (.tmp 196) = .int .i64 S.st := (hE 196 (by simp)).trans (by simp [evF, hdep, d6])
                        have d7 : vs 7 = .int .i64 P := hR 7 (by simp [hdep])
                        have e197 : ac.eval (.tmp 197) = .int .i64 P := (hE 197 (by simp)).trans (by simp [evF, hdep, d7])
                        refine soft_call 33 _ _ rfl (enters_fn Tryz.func33 (by kernel_rfl) rfl) #[.agg #[.slice (some ⟨aA, oA, none⟩) n c, .slice (some ⟨aB, oB, none⟩) n cB], .int .i64 (i : Int), .int .i64 S.st, .int .i64 P] (by simp [e190, e191, e196, e197, ec]) ?_
                        refine (rset_any (some ⟨aA, oA, none⟩) (some ⟨aB, oB, none⟩) n c cB of pa i S.st P W1 (HSA8.out.fr hB HNA.out) (HSB8.out.fr hB HNB.out) hn hin).mono ?_
                        rintro e9 w9 ⟨v9, rfl, hb9, hs9⟩
                        exact ⟨_, rfl, hb9, hs9.lower hB.size⟩
                      · have e10 : ac.eval (.tmp 10) = .pointer (some ⟨g + 1 + 1 + 1, 0, none⟩) := (hE 10 (by simp)).trans (by simp [evF, Act.eval])
                        obtain ⟨A8, c8, B8, k8, d8, h8, i8, l8, j8⟩ := (show (StHi wz.heap.size (of.set i S.st) (pa.set i P)) (vs 8) W1 from hR 8 (by simp [hdep]))
                        have e198 : ac.eval (.tmp 198) = .agg #[.slice A8 (of.set i S.st).length c8, .slice B8 (pa.set i P).length k8] := (hE 198 (by simp)).trans (by simp [evF, hdep, d8])
                        refine wp_store_row 37 (.tmp 10) (.tmp 198) rfl (g + 1 + 1 + 1) #[.slice A8 (of.set i S.st).length c8, .slice B8 (pa.set i P).length k8] e10 e198 37 _ (hX.1 hnd) (by kernel_rfl) rfl (by simp [Value.oneCell']) ⟨_, rfl, fr_row _ _ _, ?_, trivial⟩
                        exact resX_put (by simp [hdep]) d8 (by decide) (setRow_heap W1 (g + 1 + 1 + 1) _ _ _ (0, 0) (hX.1 hnd))
                      · exact soft_value (.slice none 0 0) (by unfold execOp; simp only [ec]; rfl) ⟨rfl, .inl ⟨rfl, rfl⟩⟩
                    · intro done vs W hall hB hR hX
                      obtain ⟨A7, c7, B7, k7, e7, h7, i7, l7, j7⟩ := (show StHi wz.heap.size (of.set i S.st) (pa.set i P) (vs 8) W from hR 8 (by simp))
                      obtain ⟨_, cs, hcs, hbk⟩ := hX.2 (hall 9 (by simp))
                      have hov : OlV wz.heap.size x.d.num dy (takeV 3 bank x.d S l).1 (vs 10) W := by rw [(HV).out]; exact hR 10 (by simp)
                      rw [e7] at hcs
                      injection hcs with hcs
                      subst hcs
                      have r0 := hbk.cell 0; have r1 := hbk.cell 1
                      simp only [List.getElem?_toArray, List.getElem?_cons_zero, List.getElem?_cons_succ] at r0 r1
                      have hbw : Below w.heap.size w W := hB.bel HBz.out (fun k e => by have := HGE.out; omega) HBz.out.size
                      have HFIN : Hid (RTake w (some ⟨aA, oA, none⟩) (some ⟨aB, oB, none⟩) of pa i l.deal dy (takeV 3 bank x.d S l) (.returned (.tuple #[.agg #[.slice A7 ((of.set i S.st)).length c7, .slice B7 ((pa.set i P)).length k7], vs 10])) W) := Lib.hid (by
                        have e1 : ((of.set i S.st)).length = of.length := List.length_set
                        have e2 : ((pa.set i P)).length = pa.length := List.length_set
                        rw [e1] at h7
                        rw [e2] at i7
                        refine ⟨A7, c7, B7, k7, vs 10, by rw [e1, e2], hbw, ?_, ?_, ?_, fun x off e => .inl (Nat.le_trans HBz.out.size (l7 x off e)), fun x off e => .inl (Nat.le_trans HBz.out.size (j7 x off e))⟩
                        · rw [(HV).out]; exact h7
                        · rw [(HV).out]; first | exact i7 | (show SliceOf W 1 inC B7 pa.length (pa.set i S.paid); rw [HP0.out]; exact i7)
                        · have q := hov.2.lower HBz.out.size; rw [HNUM.out] at q; exact q)
                      clear hR hB hX hall hov hbw h7 i7 hbk
                      obtain ⟨v9, hv9⟩ : ∃ v, vs 10 = v := ⟨_, rfl⟩
                      rw [hv9] at HFIN
                      simp only [fillA, Act.put, List.setIfInBounds_toArray, List.set_cons_zero, List.set_cons_succ, if_true, hv9, e7]
                      go_wp2_with fail
                      refine bodyPost_ret (v := .tuple #[.agg #[.slice A7 ((of.set i S.st)).length c7, .slice B7 ((pa.set i P)).length k7], v9]) (by simp [results, Tryz.results18, go_sem, r0, r1]) rfl HFIN.out
              · have qo : decide (l.amt > 1099511627776 - S.paid) = false := decide_eq_false ho
                have ho2 : ¬ 1099511627776 - S.paid < l.amt := ho
                obtain ⟨P, hP⟩ : ∃ P : Int, P = l.amt + S.paid := ⟨_, rfl⟩
                have HPP : Hid (takeV 3 bank x.d S l = if S.st = 1 ∧ D ≤ P then (freeL x.d, ⟨2, P⟩) else ([], ⟨S.st, P⟩)) := Lib.hid (HT.out P (by unfold paidV; omega))
                have HPE := Lib.hid hP
                clear hP HT
                go_upto_region 20 with (fail)
                rw [← HPE.out]
                clear ho ho2 qo
                by_cases hst : S.st = 1
                · have q5 : (S.st == 1) = true := by rw [hst]; rfl
                  by_cases hge : D ≤ P
                  · have q6 : decide (P ≥ D) = true := decide_eq_true hge
                    have HV : Hid (takeV 3 bank x.d S l = (freeL x.d, ⟨2, P⟩)) := Lib.hid (by rw [HPP.out, if_pos ⟨hst, hge⟩])
                    clear HPP hst
                    go_upto_region 21 with (fail)
                    clear a11 u0 u1 ca cb
                    have HKTz := HKT7; have HKDz := HKD7; have HKRz := HKR7; have HBz := HB7
                    obtain ⟨wz, hwz⟩ : ∃ W, w7 = W := ⟨_, rfl⟩
                    rw [hwz] at HKTz HKDz HKRz HBz ⊢
                    clear hwz
                    have NT : ¬ g + 1 = g + 1 + 1 + 1 := by omega
                    have ND : ¬ g4 = g + 1 + 1 + 1 := HKDz.out.ne_ HKRz.out (by decide)
                    have HSA8 := Lib.hid (HSA.out.below HBz.out); have HSB8 := Lib.hid (HSB.out.below HBz.out)
                    have HLO : Hid (∀ k, k = g + 1 + 1 + 1 → k < wz.heap.size) := Lib.hid (fun k e => e ▸ HKRz.out.lt)
                    have HNA : Hid (∀ b off, (some (⟨aA, oA, none⟩ : Addr)) = some ⟨b, off, none⟩ → ¬ b = g + 1 + 1 + 1) := Lib.hid (fun b off e q => by injection e with e; injection e with e; have := HAL.out; omega)
                    have HNB : Hid (∀ b off, (some (⟨aB, oB, none⟩ : Addr)) = some ⟨b, off, none⟩ → ¬ b = g + 1 + 1 + 1) := Lib.hid (fun b off e q => by injection e with e; injection e with e; have := HBL.out; omega)
                    have HCA8 := Lib.hid (((HBz.out).cell (p := ⟨aA, oA + i, none⟩) (by have := HAL.out; have := HGE.out; simp; omega)).trans HCA.out); have HCB8 := Lib.hid (((HBz.out).cell (p := ⟨aB, oB + i, none⟩) (by have := HBL.out; have := HGE.out; simp; omega)).trans HCB.out)
                    try simp only [Act.put, List.setIfInBounds_toArray, List.set_cons_zero, List.set_cons_succ]
                    as_aux_lemma =>
                      refine wp_region_softX [Is (.agg #[.slice (some ⟨aA, oA, none⟩) n c, .slice (some ⟨aB, oB, none⟩) n cB]), Is (.int .i64 (i : Int)), Is (.int .i64 P), StHi wz.heap.size (of.set i 2) (pa.set i P), Is (.agg #[.string x.d.num, .string x.d.sel, .string x.d.buy, .string x.d.car, .string x.d.iss, .string x.d.hou, .string x.d.ins, .string x.d.fr, .string x.d.dst, .string x.d.cur, .int .i64 x.d.amt, .slice x.A x.n x.c, .int .i64 x.d.term, .int .i64 x.d.lat, .int .i64 x.d.exp, .int .i64 x.d.ten, .int .i64 x.d.dut]), Is (.int .i64 dy), OlV wz.heap.size x.d.num dy (freeL x.d), AnyV, OlV wz.heap.size x.d.num dy (freeL x.d)] ⟨stab_is _, stab_is _, stab_is _, stab_sthi _ _ _, stab_is _, stab_is _, stab_olv _ _ _ _, stab_anyv, stab_olv _ _ _ _, trivial⟩ (fun k => k = g + 1 + 1 + 1) ⟨stabf_is _ _, stabf_is _ _, stabf_is _ _, stabf_sthi HLO.out _ _, stabf_is _ _, stabf_is _ _, stabf_olv HLO.out _ _ _, stabf_anyv _, stabf_olv HLO.out _ _ _, trivial⟩ [false, false, false, false, false, false, false, true, false] (ResX (g + 1 + 1 + 1) 7 3) (resX_stab rfl) (resX_start HKRz.out) (by kernel_rfl) (by kernel_rfl) ?_ ?_
                      · refine ⟨?_, ?_, ?_, ?_, ?_, ?_, ?_, ?_, ?_, trivial⟩
                        all_goals intro done vs ac W1 hdep hnd hB hR hX hE
                        all_goals try simp only [Nat.zero_add, Nat.reduceAdd] at hnd ⊢
                        all_goals have ec : ∀ v : Value, ac.eval (.const v) = v := fun _ => rfl
                        all_goals try simp [Region.binds] at hdep
                        · have e7 : ac.eval (.tmp 7) = .pointer (some ⟨g + 1, 0, none⟩) := (hE 7 (by simp)).trans (by simp [evF, Act.eval])
                          exact wp_load_row 37 _ rfl (g + 1) e7 37 _ (0, 0) _ (HKTz.out.fr hB NT) Tryz.underlying37 rfl (by kernel_rfl) ⟨_, rfl, Below.refl _ _, rfl⟩
                        · have e12 : ac.eval (.tmp 12) = .int .i64 (i : Int) := (hE 12 (by simp)).trans (by simp [evF, Act.eval])
                          exact soft_value (.int .i64 (i : Int)) (by unfold execOp; simp only [e12, ec]; rfl) rfl
                        · have e17 : ac.eval (.tmp 17) = .int .i64 P := (hE 17 (by simp)).trans (by simp [evF, Act.eval])
                          exact soft_value (.int .i64 P) (by unfold execOp; simp only [e17, ec]; rfl) rfl
                        · have d0 : vs 0 = .agg #[.slice (some ⟨aA, oA, none⟩) n c, .slice (some ⟨aB, oB, none⟩) n cB] := hR 0 (by simp [hdep])
                          have e183 : ac.eval (.tmp 183) = .agg #[.slice (some ⟨aA, oA, none⟩) n c, .slice (some ⟨aB, oB, none⟩) n cB] := (hE 183 (by simp)).trans (by simp [evF, hdep, d0])
                          have d1 : vs 1 = .int .i64 (i : Int) := hR 1 (by simp [hdep])
                          have e184 : ac.eval (.tmp 184) = .int .i64 (i : Int) := (hE 184 (by simp)).trans (by simp [evF, hdep, d1])
                          have d2 : vs 2 = .int .i64 P := hR 2 (by simp [hdep])
                          have e185 : ac.eval (.tmp 185) = .int .i64 P := (hE 185 (by simp)).trans (by simp [evF, hdep, d2])
                          refine soft_call 33 _ _ rfl (enters_fn Tryz.func33 (by kernel_rfl) rfl) #[.agg #[.slice (some ⟨aA, oA, none⟩) n c, .slice (some ⟨aB, oB, none⟩) n cB], .int .i64 (i : Int), .int .i64 2, .int .i64 P] (by simp [e183, e184, e185, ec]) ?_
                          refine (rset_any (some ⟨aA, oA, none⟩) (some ⟨aB, oB, none⟩) n c cB of pa i 2 P W1 (HSA8.out.fr hB HNA.out) (HSB8.out.fr hB HNB.out) hn hin).mono ?_
                          rintro e9 w9 ⟨v9, rfl, hb9, hs9⟩
                          exact ⟨_, rfl, hb9, hs9.lower hB.size⟩
                        · have e13 : ac.eval (.tmp 13) = .pointer (some ⟨g4, 0, none⟩) := (hE 13 (by simp)).trans (by simp [evF, Act.eval])
                          exact wp_load_row 53 _ rfl (g4) e13 53 _ (0, 0) _ (HKDz.out.fr hB ND) Tryz.underlying53 rfl (by kernel_rfl) ⟨_, rfl, Below.refl _ _, rfl⟩
                        · have e4 : ac.eval (.tmp 4) = .int .i64 dy := (hE 4 (by simp)).trans (by simp [evF, Act.eval])
                          exact soft_value (.int .i64 dy) (by unfold execOp; simp only [e4, ec]; rfl) rfl
                        · have d4 : vs 4 = .agg #[.string x.d.num, .string x.d.sel, .string x.d.buy, .string x.d.car, .string x.d.iss, .string x.d.hou, .string x.d.ins, .string x.d.fr, .string x.d.dst, .string x.d.cur, .int .i64 x.d.amt, .slice x.A x.n x.c, .int .i64 x.d.term, .int .i64 x.d.lat, .int .i64 x.d.exp, .int .i64 x.d.ten, .int .i64 x.d.dut] := hR 4 (by simp [hdep])
                          have e187 : ac.eval (.tmp 187) = .agg #[.string x.d.num, .string x.d.sel, .string x.d.buy, .string x.d.car, .string x.d.iss, .string x.d.hou, .string x.d.ins, .string x.d.fr, .string x.d.dst, .string x.d.cur, .int .i64 x.d.amt, .slice x.A x.n x.c, .int .i64 x.d.term, .int .i64 x.d.lat, .int .i64 x.d.exp, .int .i64 x.d.ten, .int .i64 x.d.dut] := (hE 187 (by simp)).trans (by simp [evF, hdep, d4])
                          have d5 : vs 5 = .int .i64 dy := hR 5 (by simp [hdep])
                          have e188 : ac.eval (.tmp 188) = .int .i64 dy := (hE 188 (by simp)).trans (by simp [evF, hdep, d5])
                          refine soft_call 35 _ _ rfl (enters_fn Tryz.func35 (by kernel_rfl) rfl) #[.agg #[.string x.d.num, .string x.d.sel, .string x.d.buy, .string x.d.car, .string x.d.iss, .string x.d.hou, .string x.d.ins, .string x.d.fr, .string x.d.dst, .string x.d.cur, .int .i64 x.d.amt, .slice x.A x.n x.c, .int .i64 x.d.term, .int .i64 x.d.lat, .int .i64 x.d.exp, .int .i64 x.d.ten, .int .i64 x.d.dut], .int .i64 dy] (by simp [e187, e188, ec]) ?_
                          refine (rrel_any x.d x.A x.n x.c dy W1).mono ?_
                          rintro e9 w9 ⟨v9, rfl, hb9, ho9⟩
                          exact ⟨_, rfl, hb9, ⟨rfl, ho9.lower hB.size⟩⟩
                        · have e10 : ac.eval (.tmp 10) = .pointer (some ⟨g + 1 + 1 + 1, 0, none⟩) := (hE 10 (by simp)).trans (by simp [evF, Act.eval])
                          obtain ⟨A3, c3, B3, k3, d3, h3, i3, l3, j3⟩ := (show (StHi wz.heap.size (of.set i 2) (pa.set i P)) (vs 3) W1 from hR 3 (by simp [hdep]))
                          have e186 : ac.eval (.tmp 186) = .agg #[.slice A3 (of.set i 2).length c3, .slice B3 (pa.set i P).length k3] := (hE 186 (by simp)).trans (by simp [evF, hdep, d3])
                          refine wp_store_row 37 (.tmp 10) (.tmp 186) rfl (g + 1 + 1 + 1) #[.slice A3 (of.set i 2).length c3, .slice B3 (pa.set i P).length k3] e10 e186 37 _ (hX.1 hnd) (by kernel_rfl) rfl (by simp [Value.oneCell']) ⟨_, rfl, fr_row _ _ _, ?_, trivial⟩
                          exact resX_put (by simp [hdep]) d3 (by decide) (setRow_heap W1 (g + 1 + 1 + 1) _ _ _ (0, 0) (hX.1 hnd))
                        · obtain ⟨d6, o6⟩ := (show (OlV wz.heap.size x.d.num dy (freeL x.d)) (vs 6) W1 from hR 6 (by simp [hdep]))
                          have e189 : ac.eval (.tmp 189) = (vs 6) := (hE 189 (by simp)).trans (by simp [evF, hdep, d6])
                          exact soft_value (vs 6) (by unfold execOp; simp only [e189]; rfl) ⟨rfl, o6⟩
                      · intro done vs W hall hB hR hX
                        obtain ⟨A7, c7, B7, k7, e7, h7, i7, l7, j7⟩ := (show StHi wz.heap.size (of.set i 2) (pa.set i P) (vs 3) W from hR 3 (by simp))
                        obtain ⟨_, cs, hcs, hbk⟩ := hX.2 (hall 7 (by simp))
                        have hov : OlV wz.heap.size x.d.num dy (takeV 3 bank x.d S l).1 (vs 8) W := by rw [(HV).out]; exact hR 8 (by simp)
                        rw [e7] at hcs
                        injection hcs with hcs
                        subst hcs
                        have r0 := hbk.cell 0; have r1 := hbk.cell 1
                        simp only [List.getElem?_toArray, List.getElem?_cons_zero, List.getElem?_cons_succ] at r0 r1
                        have hbw : Below w.heap.size w W := hB.bel HBz.out (fun k e => by have := HGE.out; omega) HBz.out.size
                        have HFIN : Hid (RTake w (some ⟨aA, oA, none⟩) (some ⟨aB, oB, none⟩) of pa i l.deal dy (takeV 3 bank x.d S l) (.returned (.tuple #[.agg #[.slice A7 ((of.set i 2)).length c7, .slice B7 ((pa.set i P)).length k7], vs 8])) W) := Lib.hid (by
                          have e1 : ((of.set i 2)).length = of.length := List.length_set
                          have e2 : ((pa.set i P)).length = pa.length := List.length_set
                          rw [e1] at h7
                          rw [e2] at i7
                          refine ⟨A7, c7, B7, k7, vs 8, by rw [e1, e2], hbw, ?_, ?_, ?_, fun x off e => .inl (Nat.le_trans HBz.out.size (l7 x off e)), fun x off e => .inl (Nat.le_trans HBz.out.size (j7 x off e))⟩
                          · rw [(HV).out]; exact h7
                          · rw [(HV).out]; first | exact i7 | (show SliceOf W 1 inC B7 pa.length (pa.set i S.paid); rw [HP0.out]; exact i7)
                          · have q := hov.2.lower HBz.out.size; rw [HNUM.out] at q; exact q)
                        clear hR hB hX hall hov hbw h7 i7 hbk
                        obtain ⟨v9, hv9⟩ : ∃ v, vs 8 = v := ⟨_, rfl⟩
                        rw [hv9] at HFIN
                        simp only [fillA, Act.put, List.setIfInBounds_toArray, List.set_cons_zero, List.set_cons_succ, if_true, hv9, e7]
                        go_wp2_with fail
                        refine bodyPost_ret (v := .tuple #[.agg #[.slice A7 ((of.set i 2)).length c7, .slice B7 ((pa.set i P)).length k7], v9]) (by simp [results, Tryz.results18, go_sem, r0, r1]) rfl HFIN.out
                  · have q6 : decide (P ≥ D) = false := decide_eq_false hge
                    have hge2 : P < D := by omega
                    have HV : Hid (takeV 3 bank x.d S l = ([], ⟨S.st, P⟩)) := Lib.hid (by rw [HPP.out, if_neg (fun h => hge h.2)])
                    clear HPP hst
                    go_upto_region 22 with (fail)
                    clear a11 u0 u1 ca cb
                    have HKTz := HKT7; have HKDz := HKD7; have HKRz := HKR7; have HBz := HB7
                    obtain ⟨wz, hwz⟩ : ∃ W, w7 = W := ⟨_, rfl⟩
                    rw [hwz] at HKTz HKDz HKRz HBz ⊢
                    clear hwz
                    have NT : ¬ g + 1 = g + 1 + 1 + 1 := by omega
                    have ND : ¬ g4 = g + 1 + 1 + 1 := HKDz.out.ne_ HKRz.out (by decide)
                    have HSA8 := Lib.hid (HSA.out.below HBz.out); have HSB8 := Lib.hid (HSB.out.below HBz.out)
                    have HLO : Hid (∀ k, k = g + 1 + 1 + 1 → k < wz.heap.size) := Lib.hid (fun k e => e ▸ HKRz.out.lt)
                    have HNA : Hid (∀ b off, (some (⟨aA, oA, none⟩ : Addr)) = some ⟨b, off, none⟩ → ¬ b = g + 1 + 1 + 1) := Lib.hid (fun b off e q => by injection e with e; injection e with e; have := HAL.out; omega)
                    have HNB : Hid (∀ b off, (some (⟨aB, oB, none⟩ : Addr)) = some ⟨b, off, none⟩ → ¬ b = g + 1 + 1 + 1) := Lib.hid (fun b off e q => by injection e with e; injection e with e; have := HBL.out; omega)
                    have HCA8 := Lib.hid (((HBz.out).cell (p := ⟨aA, oA + i, none⟩) (by have := HAL.out; have := HGE.out; simp; omega)).trans HCA.out); have HCB8 := Lib.hid (((HBz.out).cell (p := ⟨aB, oB + i, none⟩) (by have := HBL.out; have := HGE.out; simp; omega)).trans HCB.out)
                    try simp only [Act.put, List.setIfInBounds_toArray, List.set_cons_zero, List.set_cons_succ]
                    as_aux_lemma =>
                      refine wp_region_softX [Is (.agg #[.slice (some ⟨aA, oA, none⟩) n c, .slice (some ⟨aB, oB, none⟩) n cB]), Is (.int .i64 (i : Int)), Is (.pointer (some ⟨g + 1, 0, none⟩)), Is (.slice (some ⟨aA, oA, none⟩) n c), Is (.int .i64 (i : Int)), Is (.pointer (some ⟨aA, oA + i, none⟩)), Is (.int .i64 S.st), Is (.int .i64 P), StHi wz.heap.size (of.set i S.st) (pa.set i P), AnyV, OlV wz.heap.size x.d.num dy []] ⟨stab_is _, stab_is _, stab_is _, stab_is _, stab_is _, stab_is _, stab_is _, stab_is _, stab_sthi _ _ _, stab_anyv, stab_olv _ _ _ _, trivial⟩ (fun k => k = g + 1 + 1 + 1) ⟨stabf_is _ _, stabf_is _ _, stabf_is _ _, stabf_is _ _, stabf_is _ _, stabf_is _ _, stabf_is _ _, stabf_is _ _, stabf_sthi HLO.out _ _, stabf_anyv _, stabf_olv HLO.out _ _ _, trivial⟩ [false, false, false, false, false, false, false, false, false, true, false] (ResX (g + 1 + 1 + 1) 9 8) (resX_stab rfl) (resX_start HKRz.out) (by kernel_rfl) (by kernel_rfl) ?_ ?_
                      · refine ⟨?_, ?_, ?_, ?_, ?_, ?_, ?_, ?_, ?_, ?_, ?_, trivial⟩
                        all_goals intro done vs ac W1 hdep hnd hB hR hX hE
                        all_goals try simp only [Nat.zero_add, Nat.reduceAdd] at hnd ⊢
                        all_goals have ec : ∀ v : Value, ac.eval (.const v) = v := fun _ => rfl
                        all_goals try simp [Region.binds] at hdep
                        · have e7 : ac.eval (.tmp 7) = .pointer (some ⟨g + 1, 0, none⟩) := (hE 7 (by simp)).trans (by simp [evF, Act.eval])
                          exact wp_load_row 37 _ rfl (g + 1) e7 37 _ (0, 0) _ (HKTz.out.fr hB NT) Tryz.underlying37 rfl (by kernel_rfl) ⟨_, rfl, Below.refl _ _, rfl⟩
                        · have e12 : ac.eval (.tmp 12) = .int .i64 (i : Int) := (hE 12 (by simp)).trans (by simp [evF, Act.eval])
                          exact soft_value (.int .i64 (i : Int)) (by unfold execOp; simp only [e12, ec]; rfl) rfl
                        · have e7 : ac.eval (.tmp 7) = .pointer (some ⟨g + 1, 0, none⟩) := (hE 7 (by simp)).trans (by simp [evF, Act.eval])
                          exact soft_value (.pointer (some ⟨g + 1, 0, none⟩)) (by unfold execOp; simp only [e7]; kernel_rfl) rfl
                        · have d2 : vs 2 = .pointer (some ⟨g + 1, 0, none⟩) := hR 2 (by simp [hdep])
                          have e192 : ac.eval (.tmp 192) = .pointer (some ⟨g + 1, 0, none⟩) := (hE 192 (by simp)).trans (by simp [evF, hdep, d2])
                          have hc0 : W1.cell? ⟨g + 1, 0, none⟩ = some (.slice (some ⟨aA, oA, none⟩) n c) := (HKTz.out.fr hB NT).cell 0
                          exact soft_value (.slice (some ⟨aA, oA, none⟩) n c) (by unfold execOp; simp only [e192]; go_simp) rfl
                        · have e12 : ac.eval (.tmp 12) = .int .i64 (i : Int) := (hE 12 (by simp)).trans (by simp [evF, Act.eval])
                          exact soft_value (.int .i64 (i : Int)) (by unfold execOp; simp only [e12, ec]; rfl) rfl
                        · have d3 : vs 3 = .slice (some ⟨aA, oA, none⟩) n c := hR 3 (by simp [hdep])
                          have e193 : ac.eval (.tmp 193) = .slice (some ⟨aA, oA, none⟩) n c := (hE 193 (by simp)).trans (by simp [evF, hdep, d3])
                          have d4 : vs 4 = .int .i64 (i : Int) := hR 4 (by simp [hdep])
                          have e194 : ac.eval (.tmp 194) = .int .i64 (i : Int) := (hE 194 (by simp)).trans (by simp [evF, hdep, d4])
                          have hix := ixk (w := W1) 25 _ 1 Tryz.underlying25 (by kernel_rfl) aA oA i n c hin
                          rw [Nat.mul_one] at hix
                          exact soft_value (.pointer (some ⟨aA, oA + i, none⟩)) (by simp only [execOp, e193, e194]; simp [hix, Result.andThen]) rfl
                        · have d5 : vs 5 = .pointer (some ⟨aA, oA + i, none⟩) := hR 5 (by simp [hdep])
                          have e195 : ac.eval (.tmp 195) = .pointer (some ⟨aA, oA + i, none⟩) := (hE 195 (by simp)).trans (by simp [evF, hdep, d5])
                          have hcc := cell_fr HCA8.out hB (HNA.out _ _ rfl)
                          exact soft_value (.int .i64 S.st) (by unfold execOp; simp only [e195]; go_simp) rfl
                        · have e17 : ac.eval (.tmp 17) = .int .i64 P := (hE 17 (by simp)).trans (by simp [evF, Act.eval])
                          exact soft_value (.int .i64 P) (by unfold execOp; simp only [e17, ec]; rfl) rfl
                        · have d0 : vs 0 = .agg #[.slice (some ⟨aA, oA, none⟩) n c, .slice (some ⟨aB, oB, none⟩) n cB] := hR 0 (by simp [hdep])
                          have e190 : ac.eval (.tmp 190) = .agg #[.slice (some ⟨aA, oA, none⟩) n c, .slice (some ⟨aB, oB, none⟩) n cB] := (hE 190 (by simp)).trans (by simp [evF, hdep, d0])
                          have d1 : vs 1 = .int .i64 (i : Int) := hR 1 (by simp [hdep])
                          have e191 : ac.eval (.tmp 191) = .int .i64 (i : Int) := (hE 191 (by simp)).trans (by simp [evF, hdep, d1])
                          have d6 : vs 6 = .int .i64 S.st := hR 6 (by simp [hdep])
                          have e196 : ac.eval (.tmp 196) = .int .i64 S.st := (hE 196 (by simp)).trans (by simp [evF, hdep, d6])
                          have d7 : vs 7 = .int .i64 P := hR 7 (by simp [hdep])
                          have e197 : ac.eval (.tmp 197) = .int .i64 P := (hE 197 (by simp)).trans (by simp [evF, hdep, d7])
                          refine soft_call 33 _ _ rfl (enters_fn Tryz.func33 (by kernel_rfl) rfl) #[.agg #[.slice (some ⟨aA, oA, none⟩) n c, .slice (some ⟨aB, oB, none⟩) n cB], .int .i64 (i : Int), .int .i64 S.st, .int .i64 P] (by simp [e190, e191, e196, e197, ec]) ?_
                          refine (rset_any (some ⟨aA, oA, none⟩) (some ⟨aB, oB, none⟩) n c cB of pa i S.st P W1 (HSA8.out.fr hB HNA.out) (HSB8.out.fr hB HNB.out) hn hin).mono ?_
                          rintro e9 w9 ⟨v9, rfl, hb9, hs9⟩
                          exact ⟨_, rfl, hb9, hs9.lower hB.size⟩
                        · have e10 : ac.eval (.tmp 10) = .pointer (some ⟨g + 1 + 1 + 1, 0, none⟩) := (hE 10 (by simp)).trans (by simp [evF, Act.eval])
                          obtain ⟨A8, c8, B8, k8, d8, h8, i8, l8, j8⟩ := (show (StHi wz.heap.size (of.set i S.st) (pa.set i P)) (vs 8) W1 from hR 8 (by simp [hdep]))
                          have e198 : ac.eval (.tmp 198) = .agg #[.slice A8 (of.set i S.st).length c8, .slice B8 (pa.set i P).length k8] := (hE 198 (by simp)).trans (by simp [evF, hdep, d8])
                          refine wp_store_row 37 (.tmp 10) (.tmp 198) rfl (g + 1 + 1 + 1) #[.slice A8 (of.set i S.st).length c8, .slice B8 (pa.set i P).length k8] e10 e198 37 _ (hX.1 hnd) (by kernel_rfl) rfl (by simp [Value.oneCell']) ⟨_, rfl, fr_row _ _ _, ?_, trivial⟩
                          exact resX_put (by simp [hdep]) d8 (by decide) (setRow_heap W1 (g + 1 + 1 + 1) _ _ _ (0, 0) (hX.1 hnd))
                        · exact soft_value (.slice none 0 0) (by unfold execOp; simp only [ec]; rfl) ⟨rfl, .inl ⟨rfl, rfl⟩⟩
                      · intro done vs W hall hB hR hX
                        obtain ⟨A7, c7, B7, k7, e7, h7, i7, l7, j7⟩ := (show StHi wz.heap.size (of.set i S.st) (pa.set i P) (vs 8) W from hR 8 (by simp))
                        obtain ⟨_, cs, hcs, hbk⟩ := hX.2 (hall 9 (by simp))
                        have hov : OlV wz.heap.size x.d.num dy (takeV 3 bank x.d S l).1 (vs 10) W := by rw [(HV).out]; exact hR 10 (by simp)
                        rw [e7] at hcs
                        injection hcs with hcs
                        subst hcs
                        have r0 := hbk.cell 0; have r1 := hbk.cell 1
                        simp only [List.getElem?_toArray, List.getElem?_cons_zero, List.getElem?_cons_succ] at r0 r1
                        have hbw : Below w.heap.size w W := hB.bel HBz.out (fun k e => by have := HGE.out; omega) HBz.out.size
                        have HFIN : Hid (RTake w (some ⟨aA, oA, none⟩) (some ⟨aB, oB, none⟩) of pa i l.deal dy (takeV 3 bank x.d S l) (.returned (.tuple #[.agg #[.slice A7 ((of.set i S.st)).length c7, .slice B7 ((pa.set i P)).length k7], vs 10])) W) := Lib.hid (by
                          have e1 : ((of.set i S.st)).length = of.length := List.length_set
                          have e2 : ((pa.set i P)).length = pa.length := List.length_set
                          rw [e1] at h7
                          rw [e2] at i7
                          refine ⟨A7, c7, B7, k7, vs 10, by rw [e1, e2], hbw, ?_, ?_, ?_, fun x off e => .inl (Nat.le_trans HBz.out.size (l7 x off e)), fun x off e => .inl (Nat.le_trans HBz.out.size (j7 x off e))⟩
                          · rw [(HV).out]; exact h7
                          · rw [(HV).out]; first | exact i7 | (show SliceOf W 1 inC B7 pa.length (pa.set i S.paid); rw [HP0.out]; exact i7)
                          · have q := hov.2.lower HBz.out.size; rw [HNUM.out] at q; exact q)
                        clear hR hB hX hall hov hbw h7 i7 hbk
                        obtain ⟨v9, hv9⟩ : ∃ v, vs 10 = v := ⟨_, rfl⟩
                        rw [hv9] at HFIN
                        simp only [fillA, Act.put, List.setIfInBounds_toArray, List.set_cons_zero, List.set_cons_succ, if_true, hv9, e7]
                        go_wp2_with fail
                        refine bodyPost_ret (v := .tuple #[.agg #[.slice A7 ((of.set i S.st)).length c7, .slice B7 ((pa.set i P)).length k7], v9]) (by simp [results, Tryz.results18, go_sem, r0, r1]) rfl HFIN.out
                · have q5 : (S.st == 1) = false := by simpa using hst
                  have HV : Hid (takeV 3 bank x.d S l = ([], ⟨S.st, P⟩)) := Lib.hid (by rw [HPP.out, if_neg (fun h => hst h.1)])
                  clear HPP hst
                  go_upto_region 22 with (fail)
                  clear a11 u0 u1 ca cb
                  have HKTz := HKT7; have HKDz := HKD7; have HKRz := HKR7; have HBz := HB7
                  obtain ⟨wz, hwz⟩ : ∃ W, w7 = W := ⟨_, rfl⟩
                  rw [hwz] at HKTz HKDz HKRz HBz ⊢
                  clear hwz
                  have NT : ¬ g + 1 = g + 1 + 1 + 1 := by omega
                  have ND : ¬ g4 = g + 1 + 1 + 1 := HKDz.out.ne_ HKRz.out (by decide)
                  have HSA8 := Lib.hid (HSA.out.below HBz.out); have HSB8 := Lib.hid (HSB.out.below HBz.out)
                  have HLO : Hid (∀ k, k = g + 1 + 1 + 1 → k < wz.heap.size) := Lib.hid (fun k e => e ▸ HKRz.out.lt)
                  have HNA : Hid (∀ b off, (some (⟨aA, oA, none⟩ : Addr)) = some ⟨b, off, none⟩ → ¬ b = g + 1 + 1 + 1) := Lib.hid (fun b off e q => by injection e with e; injection e with e; have := HAL.out; omega)
                  have HNB : Hid (∀ b off, (some (⟨aB, oB, none⟩ : Addr)) = some ⟨b, off, none⟩ → ¬ b = g + 1 + 1 + 1) := Lib.hid (fun b off e q => by injection e with e; injection e with e; have := HBL.out; omega)
                  have HCA8 := Lib.hid (((HBz.out).cell (p := ⟨aA, oA + i, none⟩) (by have := HAL.out; have := HGE.out; simp; omega)).trans HCA.out); have HCB8 := Lib.hid (((HBz.out).cell (p := ⟨aB, oB + i, none⟩) (by have := HBL.out; have := HGE.out; simp; omega)).trans HCB.out)
                  try simp only [Act.put, List.setIfInBounds_toArray, List.set_cons_zero, List.set_cons_succ]
                  as_aux_lemma =>
                    refine wp_region_softX [Is (.agg #[.slice (some ⟨aA, oA, none⟩) n c, .slice (some ⟨aB, oB, none⟩) n cB]), Is (.int .i64 (i : Int)), Is (.pointer (some ⟨g + 1, 0, none⟩)), Is (.slice (some ⟨aA, oA, none⟩) n c), Is (.int .i64 (i : Int)), Is (.pointer (some ⟨aA, oA + i, none⟩)), Is (.int .i64 S.st), Is (.int .i64 P), StHi wz.heap.size (of.set i S.st) (pa.set i P), AnyV, OlV wz.heap.size x.d.num dy []] ⟨stab_is _, stab_is _, stab_is _, stab_is _, stab_is _, stab_is _, stab_is _, stab_is _, stab_sthi _ _ _, stab_anyv, stab_olv _ _ _ _, trivial⟩ (fun k => k = g + 1 + 1 + 1) ⟨stabf_is _ _, stabf_is _ _, stabf_is _ _, stabf_is _ _, stabf_is _ _, stabf_is _ _, stabf_is _ _, stabf_is _ _, stabf_sthi HLO.out _ _, stabf_anyv _, stabf_olv HLO.out _ _ _, trivial⟩ [false, false, false, false, false, false, false, false, false, true, false] (ResX (g + 1 + 1 + 1) 9 8) (resX_stab rfl) (resX_start HKRz.out) (by kernel_rfl) (by kernel_rfl) ?_ ?_
                    · refine ⟨?_, ?_, ?_, ?_, ?_, ?_, ?_, ?_, ?_, ?_, ?_, trivial⟩
                      all_goals intro done vs ac W1 hdep hnd hB hR hX hE
                      all_goals try simp only [Nat.zero_add, Nat.reduceAdd] at hnd ⊢
                      all_goals have ec : ∀ v : Value, ac.eval (.const v) = v := fun _ => rfl
                      all_goals try simp [Region.binds] at hdep
                      · have e7 : ac.eval (.tmp 7) = .pointer (some ⟨g + 1, 0, none⟩) := (hE 7 (by simp)).trans (by simp [evF, Act.eval])
                        exact wp_load_row 37 _ rfl (g + 1) e7 37 _ (0, 0) _ (HKTz.out.fr hB NT) Tryz.underlying37 rfl (by kernel_rfl) ⟨_, rfl, Below.refl _ _, rfl⟩
                      · have e12 : ac.eval (.tmp 12) = .int .i64 (i : Int) := (hE 12 (by simp)).trans (by simp [evF, Act.eval])
                        exact soft_value (.int .i64 (i : Int)) (by unfold execOp; simp only [e12, ec]; rfl) rfl
                      · have e7 : ac.eval (.tmp 7) = .pointer (some ⟨g + 1, 0, none⟩) := (hE 7 (by simp)).trans (by simp [evF, Act.eval])
                        exact soft_value (.pointer (some ⟨g + 1, 0, none⟩)) (by unfold execOp; simp only [e7]; kernel_rfl) rfl
                      · have d2 : vs 2 = .pointer (some ⟨g + 1, 0, none⟩) := hR 2 (by simp [hdep])
                        have e192 : ac.eval (.tmp 192) = .pointer (some ⟨g + 1, 0, none⟩) := (hE 192 (by simp)).trans (by simp [evF, hdep, d2])
                        have hc0 : W1.cell? ⟨g + 1, 0, none⟩ = some (.slice (some ⟨aA, oA, none⟩) n c) := (HKTz.out.fr hB NT).cell 0
                        exact soft_value (.slice (some ⟨aA, oA, none⟩) n c) (by unfold execOp; simp only [e192]; go_simp) rfl
                      · have e12 : ac.eval (.tmp 12) = .int .i64 (i : Int) := (hE 12 (by simp)).trans (by simp [evF, Act.eval])
                        exact soft_value (.int .i64 (i : Int)) (by unfold execOp; simp only [e12, ec]; rfl) rfl
                      · have d3 : vs 3 = .slice (some ⟨aA, oA, none⟩) n c := hR 3 (by simp [hdep])
                        have e193 : ac.eval (.tmp 193) = .slice (some ⟨aA, oA, none⟩) n c := (hE 193 (by simp)).trans (by simp [evF, hdep, d3])
                        have d4 : vs 4 = .int .i64 (i : Int) := hR 4 (by simp [hdep])
                        have e194 : ac.eval (.tmp 194) = .int .i64 (i : Int) := (hE 194 (by simp)).trans (by simp [evF, hdep, d4])
                        have hix := ixk (w := W1) 25 _ 1 Tryz.underlying25 (by kernel_rfl) aA oA i n c hin
                        rw [Nat.mul_one] at hix
                        exact soft_value (.pointer (some ⟨aA, oA + i, none⟩)) (by simp only [execOp, e193, e194]; simp [hix, Result.andThen]) rfl
                      · have d5 : vs 5 = .pointer (some ⟨aA, oA + i, none⟩) := hR 5 (by simp [hdep])
                        have e195 : ac.eval (.tmp 195) = .pointer (some ⟨aA, oA + i, none⟩) := (hE 195 (by simp)).trans (by simp [evF, hdep, d5])
                        have hcc := cell_fr HCA8.out hB (HNA.out _ _ rfl)
                        exact soft_value (.int .i64 S.st) (by unfold execOp; simp only [e195]; go_simp) rfl
                      · have e17 : ac.eval (.tmp 17) = .int .i64 P := (hE 17 (by simp)).trans (by simp [evF, Act.eval])
                        exact soft_value (.int .i64 P) (by unfold execOp; simp only [e17, ec]; rfl) rfl
                      · have d0 : vs 0 = .agg #[.slice (some ⟨aA, oA, none⟩) n c, .slice (some ⟨aB, oB, none⟩) n cB] := hR 0 (by simp [hdep])
                        have e190 : ac.eval (.tmp 190) = .agg #[.slice (some ⟨aA, oA, none⟩) n c, .slice (some ⟨aB, oB, none⟩) n cB] := (hE 190 (by simp)).trans (by simp [evF, hdep, d0])
                        have d1 : vs 1 = .int .i64 (i : Int) := hR 1 (by simp [hdep])
                        have e191 : ac.eval (.tmp 191) = .int .i64 (i : Int) := (hE 191 (by simp)).trans (by simp [evF, hdep, d1])
                        have d6 : vs 6 = .int .i64 S.st := hR 6 (by simp [hdep])
                        have e196 : ac.eval (.tmp 196) = .int .i64 S.st := (hE 196 (by simp)).trans (by simp [evF, hdep, d6])
                        have d7 : vs 7 = .int .i64 P := hR 7 (by simp [hdep])
                        have e197 : ac.eval (.tmp 197) = .int .i64 P := (hE 197 (by simp)).trans (by simp [evF, hdep, d7])
                        refine soft_call 33 _ _ rfl (enters_fn Tryz.func33 (by kernel_rfl) rfl) #[.agg #[.slice (some ⟨aA, oA, none⟩) n c, .slice (some ⟨aB, oB, none⟩) n cB], .int .i64 (i : Int), .int .i64 S.st, .int .i64 P] (by simp [e190, e191, e196, e197, ec]) ?_
                        refine (rset_any (some ⟨aA, oA, none⟩) (some ⟨aB, oB, none⟩) n c cB of pa i S.st P W1 (HSA8.out.fr hB HNA.out) (HSB8.out.fr hB HNB.out) hn hin).mono ?_
                        rintro e9 w9 ⟨v9, rfl, hb9, hs9⟩
                        exact ⟨_, rfl, hb9, hs9.lower hB.size⟩
                      · have e10 : ac.eval (.tmp 10) = .pointer (some ⟨g + 1 + 1 + 1, 0, none⟩) := (hE 10 (by simp)).trans (by simp [evF, Act.eval])
                        obtain ⟨A8, c8, B8, k8, d8, h8, i8, l8, j8⟩ := (show (StHi wz.heap.size (of.set i S.st) (pa.set i P)) (vs 8) W1 from hR 8 (by simp [hdep]))
                        have e198 : ac.eval (.tmp 198) = .agg #[.slice A8 (of.set i S.st).length c8, .slice B8 (pa.set i P).length k8] := (hE 198 (by simp)).trans (by simp [evF, hdep, d8])
                        refine wp_store_row 37 (.tmp 10) (.tmp 198) rfl (g + 1 + 1 + 1) #[.slice A8 (of.set i S.st).length c8, .slice B8 (pa.set i P).length k8] e10 e198 37 _ (hX.1 hnd) (by kernel_rfl) rfl (by simp [Value.oneCell']) ⟨_, rfl, fr_row _ _ _, ?_, trivial⟩
                        exact resX_put (by simp [hdep]) d8 (by decide) (setRow_heap W1 (g + 1 + 1 + 1) _ _ _ (0, 0) (hX.1 hnd))
                      · exact soft_value (.slice none 0 0) (by unfold execOp; simp only [ec]; rfl) ⟨rfl, .inl ⟨rfl, rfl⟩⟩
                    · intro done vs W hall hB hR hX
                      obtain ⟨A7, c7, B7, k7, e7, h7, i7, l7, j7⟩ := (show StHi wz.heap.size (of.set i S.st) (pa.set i P) (vs 8) W from hR 8 (by simp))
                      obtain ⟨_, cs, hcs, hbk⟩ := hX.2 (hall 9 (by simp))
                      have hov : OlV wz.heap.size x.d.num dy (takeV 3 bank x.d S l).1 (vs 10) W := by rw [(HV).out]; exact hR 10 (by simp)
                      rw [e7] at hcs
                      injection hcs with hcs
                      subst hcs
                      have r0 := hbk.cell 0; have r1 := hbk.cell 1
                      simp only [List.getElem?_toArray, List.getElem?_cons_zero, List.getElem?_cons_succ] at r0 r1
                      have hbw : Below w.heap.size w W := hB.bel HBz.out (fun k e => by have := HGE.out; omega) HBz.out.size
                      have HFIN : Hid (RTake w (some ⟨aA, oA, none⟩) (some ⟨aB, oB, none⟩) of pa i l.deal dy (takeV 3 bank x.d S l) (.returned (.tuple #[.agg #[.slice A7 ((of.set i S.st)).length c7, .slice B7 ((pa.set i P)).length k7], vs 10])) W) := Lib.hid (by
                        have e1 : ((of.set i S.st)).length = of.length := List.length_set
                        have e2 : ((pa.set i P)).length = pa.length := List.length_set
                        rw [e1] at h7
                        rw [e2] at i7
                        refine ⟨A7, c7, B7, k7, vs 10, by rw [e1, e2], hbw, ?_, ?_, ?_, fun x off e => .inl (Nat.le_trans HBz.out.size (l7 x off e)), fun x off e => .inl (Nat.le_trans HBz.out.size (j7 x off e))⟩
                        · rw [(HV).out]; exact h7
                        · rw [(HV).out]; first | exact i7 | (show SliceOf W 1 inC B7 pa.length (pa.set i S.paid); rw [HP0.out]; exact i7)
                        · have q := hov.2.lower HBz.out.size; rw [HNUM.out] at q; exact q)
                      clear hR hB hX hall hov hbw h7 i7 hbk
                      obtain ⟨v9, hv9⟩ : ∃ v, vs 10 = v := ⟨_, rfl⟩
                      rw [hv9] at HFIN
                      simp only [fillA, Act.put, List.setIfInBounds_toArray, List.set_cons_zero, List.set_cons_succ, if_true, hv9, e7]
                      go_wp2_with fail
                      refine bodyPost_ret (v := .tuple #[.agg #[.slice A7 ((of.set i S.st)).length c7, .slice B7 ((pa.set i P)).length k7], v9]) (by simp [results, Tryz.results18, go_sem, r0, r1]) rfl HFIN.out
            · have qa : decide (l.amt ≥ 0) = false := decide_eq_false am
              have qa2 : decide (0 ≤ l.amt) = false := decide_eq_false am
              have HV : Hid (takeV 3 bank x.d S l = ([], S)) := Lib.hid (by unfold takeV credV; rw [if_neg (fun h => k15 h.2), if_pos ⟨rfl, k18⟩, if_neg (fun h => am h.2.2)])
              clear k15 k18 f1 c1
              go_upto_region 15 with (fail)
              have b0 := wof_cell a0; have b3 := wof_cell a3; have b10 := wof_cell a10; have b11 := wof_cell a11; have b9 := wof_cell d9
              have HLS : Hid (∀ x : BW w6, (loadVar 29 ⟨g, 0, none⟩).run Tryz.prog (wof x) = .ok (.agg #[.slice s.pA s.pn s.pc, .slice s.dA s.dn s.dc, .slice s.fA s.fn s.fc, .slice s.rA s.rn s.rc, .slice s.hA s.hn s.hc]) (wof x)) := Lib.hid (fun x => run_loadVar_row (wof x) g 29 29 #[.slice s.pA s.pn s.pc, .slice s.dA s.dn s.dc, .slice s.fA s.fn s.fc, .slice s.rA s.rn s.rc, .slice s.hA s.hn s.hc] (0, 0) _ (HKS6.out.below (wof_below x) HKS6.out.lt) Tryz.underlying29 rfl (by kernel_rfl))
              have QB : Hid (∀ x : BW w6, Calls Tryz.prog 36 #[.agg #[.slice s.pA s.pn s.pc, .slice s.dA s.dn s.dc, .slice s.fA s.fn s.fc, .slice s.rA s.rn s.rc, .slice s.hA s.hn s.hc], .string nm] (wof x) fun e w' => e = .returned (.string bank) ∧ Below (wof x).heap.size (wof x) w') := Lib.hid (fun x => by
                have q := HBI.out (wof x) (HB6.out.trans ((wof_below x).mono HB6.out.size))
                rw [HBQ.out] at q
                exact q)
              clear a0 a3 a10 a11 d0 d1 e2 d9 d10 u0 u1 ca cb
              refine wp_region_quiet_below (by kernel_rfl) (by kernel_rfl) ?_
              repeat (first | (go_big_quiet_want; refine quiet_load 29 _ rfl ⟨g, 0, none⟩ rfl (.agg #[.slice s.pA s.pn s.pc, .slice s.dA s.dn s.dc, .slice s.fA s.fn s.fc, .slice s.rA s.rn s.rc, .slice s.hA s.hn s.hc]) (by rintro _ ⟨x, rfl⟩; exact HLS.out x) ?_; simp [Act.put]; go_big_quiet_on) | go_big_quiet_step ((go_at_call 36; exact quiet_below (QB.out _))))
              refine wpQuiet_nil ?_
              intro w7 hb7
              have HKD7 := Lib.hid (HKD6.out.below hb7 HKD6.out.lt)
              have HKS7 := Lib.hid (HKS6.out.below hb7 HKS6.out.lt)
              have HKT7 := Lib.hid (HKT6.out.below hb7 HKT6.out.lt)
              have HKL7 := Lib.hid (HKL6.out.below hb7 HKL6.out.lt)
              have HKR7 := Lib.hid (HKR6.out.below hb7 HKR6.out.lt)
              have HB7 := Lib.hid (HB6.out.trans ((hb7).mono HB6.out.size))
              clear HKS6 HKT6 HKL6 HKR6 HB6
              clear hb7 b0 b3 b10 b11 b9 HLS QB HKD6
              have HKTz := HKT7; have HKDz := HKD7; have HKRz := HKR7; have HBz := HB7
              have t0 := HKTz.out.cell 0; have t1 := HKTz.out.cell 1
              simp only [List.getElem?_toArray, List.getElem?_cons_zero, List.getElem?_cons_succ] at t0 t1
              as_aux_lemma =>
                go_wp2_with (refine stop_store 37 _ _ rfl ?_; refine wpList_store_fr rfl 37 _ _ rfl _ rfl rfl HKRz.out (by kernel_rfl) rfl rfl ?_; intro w9 hm9 fr9)
                have r0 := hm9.cell 0; have r1 := hm9.cell 1
                simp only [List.getElem?_toArray, List.getElem?_cons_zero, List.getElem?_cons_succ] at r0 r1
                have hb9 : Below w.heap.size w w9 := fr9.bel HBz.out (fun k e => by have := HGE.out; omega) HBz.out.size
                refine bodyPost_ret (v := .tuple #[.agg #[.slice (some ⟨aA, oA, none⟩) n c, .slice (some ⟨aB, oB, none⟩) n cB], .slice none 0 0]) (by simp [results, Tryz.results18, go_sem, r0, r1]) rfl ?_
                rw [(HV).out]
                exact rt_same HSA.out HSB.out HOF.out HPA.out hb9
          · have qc : (l.cur.toList == x.d.cur.toList) = false := by rw [eq_str]; exact decide_eq_false c1
            have HV : Hid (takeV 3 bank x.d S l = ([], S)) := Lib.hid (by unfold takeV credV; rw [if_neg (fun h => k15 h.2), if_pos ⟨rfl, k18⟩, if_neg (fun h => c1 h.2.1)])
            clear k15 k18 f1 c1
            go_upto_region 15 with (fail)
            have b0 := wof_cell a0; have b3 := wof_cell a3; have b10 := wof_cell a10; have b11 := wof_cell a11; have b9 := wof_cell d9
            have HLS : Hid (∀ x : BW w6, (loadVar 29 ⟨g, 0, none⟩).run Tryz.prog (wof x) = .ok (.agg #[.slice s.pA s.pn s.pc, .slice s.dA s.dn s.dc, .slice s.fA s.fn s.fc, .slice s.rA s.rn s.rc, .slice s.hA s.hn s.hc]) (wof x)) := Lib.hid (fun x => run_loadVar_row (wof x) g 29 29 #[.slice s.pA s.pn s.pc, .slice s.dA s.dn s.dc, .slice s.fA s.fn s.fc, .slice s.rA s.rn s.rc, .slice s.hA s.hn s.hc] (0, 0) _ (HKS6.out.below (wof_below x) HKS6.out.lt) Tryz.underlying29 rfl (by kernel_rfl))
            have QB : Hid (∀ x : BW w6, Calls Tryz.prog 36 #[.agg #[.slice s.pA s.pn s.pc, .slice s.dA s.dn s.dc, .slice s.fA s.fn s.fc, .slice s.rA s.rn s.rc, .slice s.hA s.hn s.hc], .string nm] (wof x) fun e w' => e = .returned (.string bank) ∧ Below (wof x).heap.size (wof x) w') := Lib.hid (fun x => by
              have q := HBI.out (wof x) (HB6.out.trans ((wof_below x).mono HB6.out.size))
              rw [HBQ.out] at q
              exact q)
            clear a0 a3 a10 a11 d0 d1 e2 d9 d10 u0 u1 ca cb
            refine wp_region_quiet_below (by kernel_rfl) (by kernel_rfl) ?_
            repeat (first | (go_big_quiet_want; refine quiet_load 29 _ rfl ⟨g, 0, none⟩ rfl (.agg #[.slice s.pA s.pn s.pc, .slice s.dA s.dn s.dc, .slice s.fA s.fn s.fc, .slice s.rA s.rn s.rc, .slice s.hA s.hn s.hc]) (by rintro _ ⟨x, rfl⟩; exact HLS.out x) ?_; simp [Act.put]; go_big_quiet_on) | go_big_quiet_step ((go_at_call 36; exact quiet_below (QB.out _))))
            refine wpQuiet_nil ?_
            intro w7 hb7
            have HKD7 := Lib.hid (HKD6.out.below hb7 HKD6.out.lt)
            have HKS7 := Lib.hid (HKS6.out.below hb7 HKS6.out.lt)
            have HKT7 := Lib.hid (HKT6.out.below hb7 HKT6.out.lt)
            have HKL7 := Lib.hid (HKL6.out.below hb7 HKL6.out.lt)
            have HKR7 := Lib.hid (HKR6.out.below hb7 HKR6.out.lt)
            have HB7 := Lib.hid (HB6.out.trans ((hb7).mono HB6.out.size))
            clear HKS6 HKT6 HKL6 HKR6 HB6
            clear hb7 b0 b3 b10 b11 b9 HLS QB HKD6
            have HKTz := HKT7; have HKDz := HKD7; have HKRz := HKR7; have HBz := HB7
            have t0 := HKTz.out.cell 0; have t1 := HKTz.out.cell 1
            simp only [List.getElem?_toArray, List.getElem?_cons_zero, List.getElem?_cons_succ] at t0 t1
            as_aux_lemma =>
              go_wp2_with (refine stop_store 37 _ _ rfl ?_; refine wpList_store_fr rfl 37 _ _ rfl _ rfl rfl HKRz.out (by kernel_rfl) rfl rfl ?_; intro w9 hm9 fr9)
              have r0 := hm9.cell 0; have r1 := hm9.cell 1
              simp only [List.getElem?_toArray, List.getElem?_cons_zero, List.getElem?_cons_succ] at r0 r1
              have hb9 : Below w.heap.size w w9 := fr9.bel HBz.out (fun k e => by have := HGE.out; omega) HBz.out.size
              refine bodyPost_ret (v := .tuple #[.agg #[.slice (some ⟨aA, oA, none⟩) n c, .slice (some ⟨aB, oB, none⟩) n cB], .slice none 0 0]) (by simp [results, Tryz.results18, go_sem, r0, r1]) rfl ?_
              rw [(HV).out]
              exact rt_same HSA.out HSB.out HOF.out HPA.out hb9
        · have qf : (l.fr.toList == bank.toList) = false := by rw [eq_str]; exact decide_eq_false f1
          have HV : Hid (takeV 3 bank x.d S l = ([], S)) := Lib.hid (by unfold takeV credV; rw [if_neg (fun h => k15 h.2), if_pos ⟨rfl, k18⟩, if_neg (fun h => f1 h.1)])
          clear k15 k18 f1
          go_upto_region 15 with (fail)
          have b0 := wof_cell a0; have b3 := wof_cell a3; have b10 := wof_cell a10; have b11 := wof_cell a11; have b9 := wof_cell d9
          have HLS : Hid (∀ x : BW w6, (loadVar 29 ⟨g, 0, none⟩).run Tryz.prog (wof x) = .ok (.agg #[.slice s.pA s.pn s.pc, .slice s.dA s.dn s.dc, .slice s.fA s.fn s.fc, .slice s.rA s.rn s.rc, .slice s.hA s.hn s.hc]) (wof x)) := Lib.hid (fun x => run_loadVar_row (wof x) g 29 29 #[.slice s.pA s.pn s.pc, .slice s.dA s.dn s.dc, .slice s.fA s.fn s.fc, .slice s.rA s.rn s.rc, .slice s.hA s.hn s.hc] (0, 0) _ (HKS6.out.below (wof_below x) HKS6.out.lt) Tryz.underlying29 rfl (by kernel_rfl))
          have QB : Hid (∀ x : BW w6, Calls Tryz.prog 36 #[.agg #[.slice s.pA s.pn s.pc, .slice s.dA s.dn s.dc, .slice s.fA s.fn s.fc, .slice s.rA s.rn s.rc, .slice s.hA s.hn s.hc], .string nm] (wof x) fun e w' => e = .returned (.string bank) ∧ Below (wof x).heap.size (wof x) w') := Lib.hid (fun x => by
            have q := HBI.out (wof x) (HB6.out.trans ((wof_below x).mono HB6.out.size))
            rw [HBQ.out] at q
            exact q)
          clear a0 a3 a10 a11 d0 d1 e2 d9 d10 u0 u1 ca cb
          refine wp_region_quiet_below (by kernel_rfl) (by kernel_rfl) ?_
          repeat (first | (go_big_quiet_want; refine quiet_load 29 _ rfl ⟨g, 0, none⟩ rfl (.agg #[.slice s.pA s.pn s.pc, .slice s.dA s.dn s.dc, .slice s.fA s.fn s.fc, .slice s.rA s.rn s.rc, .slice s.hA s.hn s.hc]) (by rintro _ ⟨x, rfl⟩; exact HLS.out x) ?_; simp [Act.put]; go_big_quiet_on) | go_big_quiet_step ((go_at_call 36; exact quiet_below (QB.out _))))
          refine wpQuiet_nil ?_
          intro w7 hb7
          have HKD7 := Lib.hid (HKD6.out.below hb7 HKD6.out.lt)
          have HKS7 := Lib.hid (HKS6.out.below hb7 HKS6.out.lt)
          have HKT7 := Lib.hid (HKT6.out.below hb7 HKT6.out.lt)
          have HKL7 := Lib.hid (HKL6.out.below hb7 HKL6.out.lt)
          have HKR7 := Lib.hid (HKR6.out.below hb7 HKR6.out.lt)
          have HB7 := Lib.hid (HB6.out.trans ((hb7).mono HB6.out.size))
          clear HKS6 HKT6 HKL6 HKR6 HB6
          clear hb7 b0 b3 b10 b11 b9 HLS QB HKD6
          have HKTz := HKT7; have HKDz := HKD7; have HKRz := HKR7; have HBz := HB7
          have t0 := HKTz.out.cell 0; have t1 := HKTz.out.cell 1
          simp only [List.getElem?_toArray, List.getElem?_cons_zero, List.getElem?_cons_succ] at t0 t1
          as_aux_lemma =>
            go_wp2_with (refine stop_store 37 _ _ rfl ?_; refine wpList_store_fr rfl 37 _ _ rfl _ rfl rfl HKRz.out (by kernel_rfl) rfl rfl ?_; intro w9 hm9 fr9)
            have r0 := hm9.cell 0; have r1 := hm9.cell 1
            simp only [List.getElem?_toArray, List.getElem?_cons_zero, List.getElem?_cons_succ] at r0 r1
            have hb9 : Below w.heap.size w w9 := fr9.bel HBz.out (fun k e => by have := HGE.out; omega) HBz.out.size
            refine bodyPost_ret (v := .tuple #[.agg #[.slice (some ⟨aA, oA, none⟩) n c, .slice (some ⟨aB, oB, none⟩) n cB], .slice none 0 0]) (by simp [results, Tryz.results18, go_sem, r0, r1]) rfl ?_
            rw [(HV).out]
            exact rt_same HSA.out HSB.out HOF.out HPA.out hb9
      · have q18 : (l.kind == 18) = false := by simpa using k18
        have HV : Hid (takeV 3 bank x.d S l = ([], S)) := Lib.hid (by unfold takeV; rw [if_neg (fun h => k15 h.2), if_neg (fun h => k18 h.2), if_neg (by omega)])
        clear k15 k18
        go_upto_region 15 with (fail)
        go_quiet (fail)
        have HKTz := Lib.hid (HKT6.out.drewN nq); have HKRz := Lib.hid (HKR6.out.drewN nq); have HBz := Lib.hid (below_drewN HB6.out nq)
        have t0 := HKTz.out.cell 0; have t1 := HKTz.out.cell 1
        simp only [List.getElem?_toArray, List.getElem?_cons_zero, List.getElem?_cons_succ] at t0 t1
        as_aux_lemma =>
          go_wp2_with (refine stop_store 37 _ _ rfl ?_; refine wpList_store_fr rfl 37 _ _ rfl _ rfl rfl HKRz.out (by kernel_rfl) rfl rfl ?_; intro w9 hm9 fr9)
          have r0 := hm9.cell 0; have r1 := hm9.cell 1
          simp only [List.getElem?_toArray, List.getElem?_cons_zero, List.getElem?_cons_succ] at r0 r1
          have hb9 : Below w.heap.size w w9 := fr9.bel HBz.out (fun k e => by have := HGE.out; omega) HBz.out.size
          refine bodyPost_ret (v := .tuple #[.agg #[.slice (some ⟨aA, oA, none⟩) n c, .slice (some ⟨aB, oB, none⟩) n cB], .slice none 0 0]) (by simp [results, Tryz.results18, go_sem, r0, r1]) rfl ?_
          rw [(HV).out]
          exact rt_same HSA.out HSB.out HOF.out HPA.out hb9
end Go.Proofs.YtdanjegnhdpnlaaGreatDoor.kit
