/-
  DERIVED. GIVEN WITH THE SEED: THE CARDS: each row of YtmgijoomfailoaaDoorRows.lean that lists a variable, with what it lists TIED to the program's text (the seventh form; the later family's looks); each row that meets fmt, with fmt's text TOLD by the authors' own Lean function (tested against real Go, not proved from fmt's source: count such statements apart). THE CARD IS WHAT COUNTS. Prove the row's statement (the work); the ties are given (YtmgijoomfailoaaDoorTie.lean); close each card by the builder's one call (the guide's Derived/Test/ToyasCard.lean, 'card_holds'). Laid BY PROGRAM, IN A SANDBOX (cutbox-door.mjs). By AI agents, Wed Nov 11 2026. No macro, syntax, notation, axiom, sorry.
-/
import Derived.Test.YtmgijoomfailoaaDoorRows
import GoSem.ClaimSeven
namespace Go.Proofs.YtmgijoomfailoaaDoor
namespace Rows

/-- THE TIED CARD OF 'supercargolaw02.DayMonths'. -/
def dayMonthsCard : Claim7 := { stood := { row := dayMonthsRow, standIns := [], harness := (true, "081e650e81b012b52a4929cd7f254bf2f40776d2418a13fd41390e473f10f199"), looks := false }, kinds := [], alts := [], laidByText := true, laidKinds := [.data, .data, .data, .data], laidTests := true, laidLooks := .later }
def DayMonthsCardSaid : Prop := Claim7.holds Tryd.pinned (.plain (OpenSpec.ofChange dayMonthsSpec)) dayMonthsCard

/-- THE TIED CARD OF 'supercargolaw02.DayWalks'. -/
def dayWalksCard : Claim7 := { stood := { row := dayWalksRow, standIns := [], harness := (true, "081e650e81b012b52a4929cd7f254bf2f40776d2418a13fd41390e473f10f199"), looks := false }, kinds := [], alts := [], laidByText := true, laidKinds := [.data, .data, .data, .data], laidTests := true, laidLooks := .later }
def DayWalksCardSaid : Prop := Claim7.holds Tryd.pinned (.plain (OpenSpec.ofChange dayWalksSpec)) dayWalksCard

/-- THE TIED CARD OF 'supercargolaw02.DayRests'. -/
def dayRestsCard : Claim7 := { stood := { row := dayRestsRow, standIns := [], harness := (true, "081e650e81b012b52a4929cd7f254bf2f40776d2418a13fd41390e473f10f199"), looks := false }, kinds := [], alts := [], laidByText := true, laidKinds := [.data, .data, .data, .data], laidTests := true, laidLooks := .later }
def DayRestsCardSaid : Prop := Claim7.holds Tryd.pinned (.plain (OpenSpec.ofChange dayRestsSpec)) dayRestsCard

/-- THE TIED CARD OF 'supercargolaw02.DayBetween'. -/
def dayBetweenCard : Claim7 := { stood := { row := dayBetweenRow, standIns := [], harness := (true, "081e650e81b012b52a4929cd7f254bf2f40776d2418a13fd41390e473f10f199"), looks := false }, kinds := [], alts := [], laidByText := true, laidKinds := [.data, .data, .data, .data], laidTests := true, laidLooks := .later }
def DayBetweenCardSaid : Prop := Claim7.holds Tryd.pinned (.plain (OpenSpec.ofChange dayBetweenSpec)) dayBetweenCard

/-- THE TIED CARD OF 'supercargolaw02.DayBack'. -/
def dayBackCard : Claim7 := { stood := { row := dayBackRow, standIns := [], harness := (true, "081e650e81b012b52a4929cd7f254bf2f40776d2418a13fd41390e473f10f199"), looks := false }, kinds := [], alts := [], laidByText := true, laidKinds := [.data, .data, .data, .data], laidTests := true, laidLooks := .later }
def DayBackCardSaid : Prop := Claim7.holds Tryd.pinned (.plain (OpenSpec.ofChange dayBackSpec)) dayBackCard

/-- THE TIED CARD OF 'supercargolaw02.DayTexts'. -/
def dayTextsCard : Claim7 := { stood := { row := dayTextsRow, standIns := [], harness := (true, "081e650e81b012b52a4929cd7f254bf2f40776d2418a13fd41390e473f10f199"), looks := false }, kinds := [], alts := [], laidByText := true, laidKinds := [.data, .data, .data, .data], laidTests := true, laidLooks := .later }
def DayTextsCardSaid : Prop := Claim7.holds Tryd.pinned (.plain (OpenSpec.ofChange dayTextsSpec)) dayTextsCard

/-- THE TIED CARD OF 'supercargolaw02.DayParses'. -/
def dayParsesCard : Claim7 := { stood := { row := dayParsesRow, standIns := [], harness := (true, "081e650e81b012b52a4929cd7f254bf2f40776d2418a13fd41390e473f10f199"), looks := false }, kinds := [], alts := [], laidByText := true, laidKinds := [.data, .data, .data, .data], laidTests := true, laidLooks := .later }
def DayParsesCardSaid : Prop := Claim7.holds Tryd.pinned (.plain (OpenSpec.ofChange dayParsesSpec)) dayParsesCard

/-- THE TIED CARD OF 'supercargolaw02.DayBoth'. -/
def dayBothCard : Claim7 := { stood := { row := dayBothRow, standIns := [], harness := (true, "081e650e81b012b52a4929cd7f254bf2f40776d2418a13fd41390e473f10f199"), looks := false }, kinds := [], alts := [], laidByText := true, laidKinds := [.data, .data, .data, .data], laidTests := true, laidLooks := .later }
def DayBothCardSaid : Prop := Claim7.holds Tryd.pinned (.plain (OpenSpec.ofChange dayBothSpec)) dayBothCard

/-- THE SECOND FORM's CARD OF 'supercargolaw02.DayMonths'. -/
def dayMonthsUptoCard : Claim7 := { stood := { row := dayMonthsUptoRow, standIns := [], harness := (true, "081e650e81b012b52a4929cd7f254bf2f40776d2418a13fd41390e473f10f199"), looks := false }, kinds := [], alts := [], laidByText := true, laidKinds := [.data, .data, .data, .data], laidTests := true, laidLooks := .later }
def DayMonthsUptoCardSaid : Prop := Claim7.holds Tryd.pinned (.plain (OpenSpec.upto dayMonthsSpec)) dayMonthsUptoCard

/-- THE SECOND FORM's CARD OF 'supercargolaw02.DayWalks'. -/
def dayWalksUptoCard : Claim7 := { stood := { row := dayWalksUptoRow, standIns := [], harness := (true, "081e650e81b012b52a4929cd7f254bf2f40776d2418a13fd41390e473f10f199"), looks := false }, kinds := [], alts := [], laidByText := true, laidKinds := [.data, .data, .data, .data], laidTests := true, laidLooks := .later }
def DayWalksUptoCardSaid : Prop := Claim7.holds Tryd.pinned (.plain (OpenSpec.upto dayWalksSpec)) dayWalksUptoCard

/-- THE SECOND FORM's CARD OF 'supercargolaw02.DayRests'. -/
def dayRestsUptoCard : Claim7 := { stood := { row := dayRestsUptoRow, standIns := [], harness := (true, "081e650e81b012b52a4929cd7f254bf2f40776d2418a13fd41390e473f10f199"), looks := false }, kinds := [], alts := [], laidByText := true, laidKinds := [.data, .data, .data, .data], laidTests := true, laidLooks := .later }
def DayRestsUptoCardSaid : Prop := Claim7.holds Tryd.pinned (.plain (OpenSpec.upto dayRestsSpec)) dayRestsUptoCard

/-- THE SECOND FORM's CARD OF 'supercargolaw02.DayBetween'. -/
def dayBetweenUptoCard : Claim7 := { stood := { row := dayBetweenUptoRow, standIns := [], harness := (true, "081e650e81b012b52a4929cd7f254bf2f40776d2418a13fd41390e473f10f199"), looks := false }, kinds := [], alts := [], laidByText := true, laidKinds := [.data, .data, .data, .data], laidTests := true, laidLooks := .later }
def DayBetweenUptoCardSaid : Prop := Claim7.holds Tryd.pinned (.plain (OpenSpec.upto dayBetweenSpec)) dayBetweenUptoCard

/-- THE SECOND FORM's CARD OF 'supercargolaw02.DayBack'. -/
def dayBackUptoCard : Claim7 := { stood := { row := dayBackUptoRow, standIns := [], harness := (true, "081e650e81b012b52a4929cd7f254bf2f40776d2418a13fd41390e473f10f199"), looks := false }, kinds := [], alts := [], laidByText := true, laidKinds := [.data, .data, .data, .data], laidTests := true, laidLooks := .later }
def DayBackUptoCardSaid : Prop := Claim7.holds Tryd.pinned (.plain (OpenSpec.upto dayBackSpec)) dayBackUptoCard

/-- THE SECOND FORM's CARD OF 'supercargolaw02.DayTexts'. -/
def dayTextsUptoCard : Claim7 := { stood := { row := dayTextsUptoRow, standIns := [], harness := (true, "081e650e81b012b52a4929cd7f254bf2f40776d2418a13fd41390e473f10f199"), looks := false }, kinds := [], alts := [], laidByText := true, laidKinds := [.data, .data, .data, .data], laidTests := true, laidLooks := .later }
def DayTextsUptoCardSaid : Prop := Claim7.holds Tryd.pinned (.plain (OpenSpec.upto dayTextsSpec)) dayTextsUptoCard

/-- THE SECOND FORM's CARD OF 'supercargolaw02.DayParses'. -/
def dayParsesUptoCard : Claim7 := { stood := { row := dayParsesUptoRow, standIns := [], harness := (true, "081e650e81b012b52a4929cd7f254bf2f40776d2418a13fd41390e473f10f199"), looks := false }, kinds := [], alts := [], laidByText := true, laidKinds := [.data, .data, .data, .data], laidTests := true, laidLooks := .later }
def DayParsesUptoCardSaid : Prop := Claim7.holds Tryd.pinned (.plain (OpenSpec.upto dayParsesSpec)) dayParsesUptoCard

/-- THE SECOND FORM's CARD OF 'supercargolaw02.DayBoth'. -/
def dayBothUptoCard : Claim7 := { stood := { row := dayBothUptoRow, standIns := [], harness := (true, "081e650e81b012b52a4929cd7f254bf2f40776d2418a13fd41390e473f10f199"), looks := false }, kinds := [], alts := [], laidByText := true, laidKinds := [.data, .data, .data, .data], laidTests := true, laidLooks := .later }
def DayBothUptoCardSaid : Prop := Claim7.holds Tryd.pinned (.plain (OpenSpec.upto dayBothSpec)) dayBothUptoCard
end Rows
end Go.Proofs.YtmgijoomfailoaaDoor
