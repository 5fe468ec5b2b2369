/- An office in plain words: its deals, how each stands, what it writes behind a letter. No condition. -/
import Derived.Test.YtdanjegnhdpnlaaGreatDoorMyScale
import Derived.Test.YtdanjegnhdpnlaaGreatDoorTMap
import Derived.Test.YtdanjegnhdpnlaaGreatDoorFr
import Derived.Test.YtdanjegnhdpnlaaGreatDoorStep
namespace Go.Proofs.YtdanjegnhdpnlaaGreatDoor.kit
open Go.RowKit Go.PlainAid
set_option linter.unusedVariables false

structure Dl where
  num : ByteArray
  sel : ByteArray
  buy : ByteArray
  car : ByteArray
  iss : ByteArray
  hou : ByteArray
  ins : ByteArray
  fr : ByteArray
  dst : ByteArray
  cur : ByteArray
  amt : Int
  term : Int
  lat : Int
  exp : Int
  ten : Int
  dut : Int
structure Dl.ok (d : Dl) : Prop where
  num : d.num.size ≤ 140737488355328
  cur : d.cur.size ≤ maxLen
  amt : I64 d.amt
  dut : I64 d.dut
/-- How a deal stands: its state, what was paid. -/
structure St where
  st : Int
  paid : Int
def Mon.at1 (d : Dl) : Mon := ⟨d.cur, d.amt⟩
/-- What is due. -/
def dueV (d : Dl) : Int := if (scaleV ⟨d.cur, d.amt⟩ (max d.dut 0) 1000 1).2 = true ∧ 0 ≤ (scaleV ⟨d.cur, d.amt⟩ (max d.dut 0) 1000 1).1.amt then (scaleV ⟨d.cur, d.amt⟩ (max d.dut 0) 1000 1).1.amt else 0
/-- What a cover is of. -/
def covV (d : Dl) : Mon := (scaleV ⟨d.cur, d.amt⟩ 11 10 1).1
abbrev Fd := ByteArray × ByteArray
structure Pp where
  num : ByteArray
  iss : ByteArray
  fs : List Fd
structure Ol where
  dst : ByteArray
  kind : Int
  cur : ByteArray
  amt : Int
  doc : Option Pp
def itS (n : Int) : ByteArray := ⟨(Lib.itoa n).toArray⟩
/-- The insurance of a deal. -/
def covP (d : Dl) (m : Mon) : Pp := ⟨⟨#[105, 110, 45]⟩ ++ d.num, d.ins, [(⟨#[115, 101, 108, 108, 101, 114]⟩, d.sel), (⟨#[102, 114, 111, 109]⟩, d.fr), (⟨#[116, 111]⟩, d.dst), (⟨#[99, 117, 114, 114, 101, 110, 99, 121]⟩, m.cur), (⟨#[115, 117, 109]⟩, itS m.amt)]⟩
def freeL (d : Dl) : List Ol := [⟨d.car, 19, ⟨#[]⟩, 0, none⟩, ⟨d.buy, 19, ⟨#[]⟩, 0, none⟩]
def dutyL (d : Dl) (n : Int) : List Ol := [⟨d.buy, 16, d.cur, n, none⟩]
def covL (d : Dl) : List Ol := [⟨d.sel, 7, ⟨#[]⟩, 0, some (covP d (covV d))⟩]
/-- A letter that comes. -/
structure Lt where
  fr : ByteArray
  to : ByteArray
  num : Int
  kind : Int
  ack : Int
  deal : ByteArray
  text : ByteArray
  party : ByteArray
  idx : Int
  day : Int
  cur : ByteArray
  amt : Int
  A1 : Option Addr
  n1 : Nat
  c1 : Nat
  A2 : Option Addr
  n2 : Nat
  c2 : Nat
def declV (d : Dl) (s : St) (l : Lt) : List Ol × St :=
  if l.fr = d.buy ∧ s.st = 0 then (if 0 < dueV d then (dutyL d (dueV d), ⟨1, s.paid⟩) else (freeL d, ⟨2, s.paid⟩)) else ([], s)
def paidV (s : St) (n : Int) : Int := s.paid + min n (1099511627776 - s.paid)
def credV (bank : ByteArray) (d : Dl) (s : St) (l : Lt) : List Ol × St :=
  if l.fr = bank ∧ l.cur = d.cur ∧ 0 ≤ l.amt then (if s.st = 1 ∧ dueV d ≤ paidV s l.amt then (freeL d, ⟨2, paidV s l.amt⟩) else ([], ⟨s.st, paidV s l.amt⟩)) else ([], s)
def covrV (d : Dl) (s : St) (l : Lt) : List Ol × St :=
  if l.fr = d.sel ∧ s.st = 0 then (covL d, ⟨1, s.paid⟩) else ([], s)
def takeV (kind : Int) (bank : ByteArray) (d : Dl) (s : St) (l : Lt) : List Ol × St :=
  if kind = 3 ∧ l.kind = 15 then declV d s l else if kind = 3 ∧ l.kind = 18 then credV bank d s l else if kind = 4 ∧ l.kind = 6 then covrV d s l else ([], s)
structure St.ok (s : St) : Prop where
  lo : 0 ≤ s.paid
  hi : s.paid ≤ 1099511627776
theorem paid_ok {s : St} (h : s.ok) {n : Int} (hn : 0 ≤ n) : 0 ≤ paidV s n ∧ paidV s n ≤ 1099511627776 := by
  have h1 := h.lo; have h2 := h.hi
  unfold paidV
  omega
theorem take_ok {kind : Int} {bank : ByteArray} {d : Dl} {s : St} {l : Lt} (h : s.ok) : (takeV kind bank d s l).2.ok := by
  unfold takeV declV credV covrV
  repeat' split
  all_goals first | exact h | exact ⟨h.lo, h.hi⟩ | skip
  · rename_i h1 _ ; exact ⟨(paid_ok h h1.2.2).1, (paid_ok h h1.2.2).2⟩
  · rename_i h1 _ ; exact ⟨(paid_ok h h1.2.2).1, (paid_ok h h1.2.2).2⟩
theorem take_len {kind : Int} {bank : ByteArray} {d : Dl} {s : St} {l : Lt} : (takeV kind bank d s l).1.length ≤ 2 := by
  unfold takeV declV credV covrV
  repeat' split
  all_goals simp [freeL, dutyL, covL]
end Go.Proofs.YtdanjegnhdpnlaaGreatDoor.kit
