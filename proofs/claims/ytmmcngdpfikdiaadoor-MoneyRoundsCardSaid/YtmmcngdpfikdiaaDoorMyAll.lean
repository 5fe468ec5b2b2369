/- An amount taken by a fraction, any way: the program and the document. No condition. -/
import Derived.Test.YtmmcngdpfikdiaaDoorMyS0
import Derived.Test.YtmmcngdpfikdiaaDoorMyS1
import Derived.Test.YtmmcngdpfikdiaaDoorMyS2
import Derived.Test.YtmmcngdpfikdiaaDoorMyT0
import Derived.Test.YtmmcngdpfikdiaaDoorMyT1
import Derived.Test.YtmmcngdpfikdiaaDoorMyT2
namespace Go.Proofs.YtmmcngdpfikdiaaDoor.kit
open Go.RowKit Go.PlainAid
set_option linter.unusedVariables false
theorem scale_any (m : Mon) (n d way : Int) (w : World) (hc : m.cur.size ≤ maxLen) (hn : I64 n) (hd : I64 d) : Calls Tryd.prog 11 #[.agg #[.string m.cur, .int .i64 m.amt], .agg #[.int .i64 n, .int .i64 d], .int .i64 way] w fun e w' => e = .returned (.tuple #[.agg #[.string (scaleV m n d way).1.cur, .int .i64 (scaleV m n d way).1.amt], .bool (scaleV m n d way).2]) ∧ Below w.heap.size w w' := by
  by_cases h : 0 ≤ way ∧ way ≤ 2
  · have : way = 0 ∨ way = 1 ∨ way = 2 := by omega
    rcases this with rfl | rfl | rfl
    · exact scale0 m n d w hc hn hd
    · exact scale1 m n d w hc hn hd
    · exact scale2 m n d w hc hn hd
  · exact scale_way m n d way w hc h
theorem rscale_any (m : Mon) (n d way : Int) (w : World) (hc : m.cur.size ≤ maxLen) (hn : I64 n) (hd : I64 d) : Calls Tryd.prog 12 #[.agg #[.string m.cur, .int .i64 m.amt], .agg #[.int .i64 n, .int .i64 d], .int .i64 way] w fun e w' => e = .returned (.tuple #[.agg #[.string (scaleV m n d way).1.cur, .int .i64 (scaleV m n d way).1.amt], .bool (scaleV m n d way).2]) ∧ Below w.heap.size w w' := by
  by_cases h : 0 ≤ way ∧ way ≤ 2
  · have : way = 0 ∨ way = 1 ∨ way = 2 := by omega
    rcases this with rfl | rfl | rfl
    · exact rscale0 m n d w hc hn hd
    · exact rscale1 m n d w hc hn hd
    · exact rscale2 m n d w hc hn hd
  · exact rscale_way m n d way w hc h
end Go.Proofs.YtmmcngdpfikdiaaDoor.kit
