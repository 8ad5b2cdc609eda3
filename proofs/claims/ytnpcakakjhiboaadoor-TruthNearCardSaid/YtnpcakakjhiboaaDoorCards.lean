/-
  DERIVED. GIVEN WITH THE SEED: THE CARDS: each row of YtnpcakakjhiboaaDoorRows.lean that lists a variable, with what it lists TIED to the program's text (the seventh form; the later family's looks); each row that meets fmt, with fmt's text TOLD by the authors' own Lean function (tested against real Go, not proved from fmt's source: count such statements apart). THE CARD IS WHAT COUNTS. Prove the row's statement (the work); the ties are given (YtnpcakakjhiboaaDoorTie.lean); close each card by the builder's one call (the guide's Derived/Test/ToyasCard.lean, 'card_holds'). Laid BY PROGRAM, IN A SANDBOX (cutbox-door.mjs). By AI agents, Wed Nov 11 2026. No macro, syntax, notation, axiom, sorry.
-/
import Derived.Test.YtnpcakakjhiboaaDoorRows
import GoSem.ClaimSeven
namespace Go.Proofs.YtnpcakakjhiboaaDoor
namespace Rows

/-- THE TIED CARD OF 'lookoutlaw14.NormTells'. -/
def normTellsCard : Claim7 := { stood := { row := normTellsRow, standIns := [], harness := (true, "651ec7f9e81b854d6bfd970204af6a82e2d60a2a5c2c1c5fd84b194759b77512"), looks := false }, kinds := [], alts := [], laidByText := true, laidKinds := [.data], laidTests := true, laidLooks := .later }
def NormTellsCardSaid : Prop := Claim7.holds Tryd.pinned (.plain (OpenSpec.ofChange normTellsSpec)) normTellsCard

/-- THE TIED CARD OF 'lookoutlaw14.NormCore'. -/
def normCoreCard : Claim7 := { stood := { row := normCoreRow, standIns := [], harness := (true, "651ec7f9e81b854d6bfd970204af6a82e2d60a2a5c2c1c5fd84b194759b77512"), looks := false }, kinds := [], alts := [], laidByText := true, laidKinds := [.data], laidTests := true, laidLooks := .later }
def NormCoreCardSaid : Prop := Claim7.holds Tryd.pinned (.plain (OpenSpec.ofChange normCoreSpec)) normCoreCard

/-- THE TIED CARD OF 'lookoutlaw14.NormTwice'. -/
def normTwiceCard : Claim7 := { stood := { row := normTwiceRow, standIns := [], harness := (true, "651ec7f9e81b854d6bfd970204af6a82e2d60a2a5c2c1c5fd84b194759b77512"), looks := false }, kinds := [], alts := [], laidByText := true, laidKinds := [.data], laidTests := true, laidLooks := .later }
def NormTwiceCardSaid : Prop := Claim7.holds Tryd.pinned (.plain (OpenSpec.ofChange normTwiceSpec)) normTwiceCard

/-- THE TIED CARD OF 'lookoutlaw14.NormSame'. -/
def normSameCard : Claim7 := { stood := { row := normSameRow, standIns := [], harness := (true, "651ec7f9e81b854d6bfd970204af6a82e2d60a2a5c2c1c5fd84b194759b77512"), looks := false }, kinds := [], alts := [], laidByText := true, laidKinds := [.data], laidTests := true, laidLooks := .later }
def NormSameCardSaid : Prop := Claim7.holds Tryd.pinned (.plain (OpenSpec.ofChange normSameSpec)) normSameCard

/-- THE TIED CARD OF 'lookoutlaw14.NormSmall'. -/
def normSmallCard : Claim7 := { stood := { row := normSmallRow, standIns := [], harness := (true, "651ec7f9e81b854d6bfd970204af6a82e2d60a2a5c2c1c5fd84b194759b77512"), looks := false }, kinds := [], alts := [], laidByText := true, laidKinds := [.data], laidTests := true, laidLooks := .later }
def NormSmallCardSaid : Prop := Claim7.holds Tryd.pinned (.plain (OpenSpec.ofChange normSmallSpec)) normSmallCard

/-- THE TIED CARD OF 'lookoutlaw13.TruthRows'. -/
def truthRowsCard : Claim7 := { stood := { row := truthRowsRow, standIns := [], harness := (true, "651ec7f9e81b854d6bfd970204af6a82e2d60a2a5c2c1c5fd84b194759b77512"), looks := false }, kinds := [], alts := [], laidByText := true, laidKinds := [.data], laidTests := true, laidLooks := .later }
def TruthRowsCardSaid : Prop := Claim7.holds Tryd.pinned (.plain (OpenSpec.ofChange truthRowsSpec)) truthRowsCard

/-- THE TIED CARD OF 'lookoutlaw13.TruthHolds'. -/
def truthHoldsCard : Claim7 := { stood := { row := truthHoldsRow, standIns := [], harness := (true, "651ec7f9e81b854d6bfd970204af6a82e2d60a2a5c2c1c5fd84b194759b77512"), looks := false }, kinds := [], alts := [], laidByText := true, laidKinds := [.data], laidTests := true, laidLooks := .later }
def TruthHoldsCardSaid : Prop := Claim7.holds Tryd.pinned (.plain (OpenSpec.ofChange truthHoldsSpec)) truthHoldsCard

/-- THE TIED CARD OF 'lookoutlaw13.TruthDuals'. -/
def truthDualsCard : Claim7 := { stood := { row := truthDualsRow, standIns := [], harness := (true, "651ec7f9e81b854d6bfd970204af6a82e2d60a2a5c2c1c5fd84b194759b77512"), looks := false }, kinds := [], alts := [], laidByText := true, laidKinds := [.data], laidTests := true, laidLooks := .later }
def TruthDualsCardSaid : Prop := Claim7.holds Tryd.pinned (.plain (OpenSpec.ofChange truthDualsSpec)) truthDualsCard

/-- THE TIED CARD OF 'lookoutlaw13.TruthWider'. -/
def truthWiderCard : Claim7 := { stood := { row := truthWiderRow, standIns := [], harness := (true, "651ec7f9e81b854d6bfd970204af6a82e2d60a2a5c2c1c5fd84b194759b77512"), looks := false }, kinds := [], alts := [], laidByText := true, laidKinds := [.data], laidTests := true, laidLooks := .later }
def TruthWiderCardSaid : Prop := Claim7.holds Tryd.pinned (.plain (OpenSpec.ofChange truthWiderSpec)) truthWiderCard

/-- THE TIED CARD OF 'lookoutlaw13.TruthHere'. -/
def truthHereCard : Claim7 := { stood := { row := truthHereRow, standIns := [], harness := (true, "651ec7f9e81b854d6bfd970204af6a82e2d60a2a5c2c1c5fd84b194759b77512"), looks := false }, kinds := [], alts := [], laidByText := true, laidKinds := [.data], laidTests := true, laidLooks := .later }
def TruthHereCardSaid : Prop := Claim7.holds Tryd.pinned (.plain (OpenSpec.ofChange truthHereSpec)) truthHereCard

/-- THE TIED CARD OF 'lookoutlaw13.TruthNear'. -/
def truthNearCard : Claim7 := { stood := { row := truthNearRow, standIns := [], harness := (true, "651ec7f9e81b854d6bfd970204af6a82e2d60a2a5c2c1c5fd84b194759b77512"), looks := false }, kinds := [], alts := [], laidByText := true, laidKinds := [.data], laidTests := true, laidLooks := .later }
def TruthNearCardSaid : Prop := Claim7.holds Tryd.pinned (.plain (OpenSpec.ofChange truthNearSpec)) truthNearCard

/-- THE TIED CARD OF 'lookoutlaw16.PlanTells'. -/
def planTellsCard : Claim7 := { stood := { row := planTellsRow, standIns := [], harness := (true, "651ec7f9e81b854d6bfd970204af6a82e2d60a2a5c2c1c5fd84b194759b77512"), looks := false }, kinds := [], alts := [], laidByText := true, laidKinds := [.data], laidTests := true, laidLooks := .later }
def PlanTellsCardSaid : Prop := Claim7.holds Tryd.pinned (.plain (OpenSpec.ofChange planTellsSpec)) planTellsCard

/-- THE TIED CARD OF 'lookoutlaw16.PlanBack'. -/
def planBackCard : Claim7 := { stood := { row := planBackRow, standIns := [], harness := (true, "651ec7f9e81b854d6bfd970204af6a82e2d60a2a5c2c1c5fd84b194759b77512"), looks := false }, kinds := [], alts := [], laidByText := true, laidKinds := [.data], laidTests := true, laidLooks := .later }
def PlanBackCardSaid : Prop := Claim7.holds Tryd.pinned (.plain (OpenSpec.ofChange planBackSpec)) planBackCard

/-- THE TIED CARD OF 'lookoutlaw16.PlanSame'. -/
def planSameCard : Claim7 := { stood := { row := planSameRow, standIns := [], harness := (true, "651ec7f9e81b854d6bfd970204af6a82e2d60a2a5c2c1c5fd84b194759b77512"), looks := false }, kinds := [], alts := [], laidByText := true, laidKinds := [.data], laidTests := true, laidLooks := .later }
def PlanSameCardSaid : Prop := Claim7.holds Tryd.pinned (.plain (OpenSpec.ofChange planSameSpec)) planSameCard

/-- THE TIED CARD OF 'lookoutlaw16.PlanOnce'. -/
def planOnceCard : Claim7 := { stood := { row := planOnceRow, standIns := [], harness := (true, "651ec7f9e81b854d6bfd970204af6a82e2d60a2a5c2c1c5fd84b194759b77512"), looks := false }, kinds := [], alts := [], laidByText := true, laidKinds := [.data], laidTests := true, laidLooks := .later }
def PlanOnceCardSaid : Prop := Claim7.holds Tryd.pinned (.plain (OpenSpec.ofChange planOnceSpec)) planOnceCard

/-- THE TIED CARD OF 'lookoutlaw11.HorizonTells'. -/
def horizonTellsCard : Claim7 := { stood := { row := horizonTellsRow, standIns := [], harness := (true, "651ec7f9e81b854d6bfd970204af6a82e2d60a2a5c2c1c5fd84b194759b77512"), looks := false }, kinds := [], alts := [], laidByText := true, laidKinds := [.data], laidTests := true, laidLooks := .later }
def HorizonTellsCardSaid : Prop := Claim7.holds Tryd.pinned (.plain (OpenSpec.ofChange horizonTellsSpec)) horizonTellsCard

/-- THE TIED CARD OF 'lookoutlaw11.HorizonNames'. -/
def horizonNamesCard : Claim7 := { stood := { row := horizonNamesRow, standIns := [], harness := (true, "651ec7f9e81b854d6bfd970204af6a82e2d60a2a5c2c1c5fd84b194759b77512"), looks := false }, kinds := [], alts := [], laidByText := true, laidKinds := [.data], laidTests := true, laidLooks := .later }
def HorizonNamesCardSaid : Prop := Claim7.holds Tryd.pinned (.plain (OpenSpec.ofChange horizonNamesSpec)) horizonNamesCard

/-- THE TIED CARD OF 'lookoutlaw11.HorizonKids'. -/
def horizonKidsCard : Claim7 := { stood := { row := horizonKidsRow, standIns := [], harness := (true, "651ec7f9e81b854d6bfd970204af6a82e2d60a2a5c2c1c5fd84b194759b77512"), looks := false }, kinds := [], alts := [], laidByText := true, laidKinds := [.data], laidTests := true, laidLooks := .later }
def HorizonKidsCardSaid : Prop := Claim7.holds Tryd.pinned (.plain (OpenSpec.ofChange horizonKidsSpec)) horizonKidsCard

/-- THE TIED CARD OF 'lookoutlaw11.HorizonSpans'. -/
def horizonSpansCard : Claim7 := { stood := { row := horizonSpansRow, standIns := [], harness := (true, "651ec7f9e81b854d6bfd970204af6a82e2d60a2a5c2c1c5fd84b194759b77512"), looks := false }, kinds := [], alts := [], laidByText := true, laidKinds := [.data], laidTests := true, laidLooks := .later }
def HorizonSpansCardSaid : Prop := Claim7.holds Tryd.pinned (.plain (OpenSpec.ofChange horizonSpansSpec)) horizonSpansCard

/-- THE TIED CARD OF 'lookoutlaw11.HorizonJoins'. -/
def horizonJoinsCard : Claim7 := { stood := { row := horizonJoinsRow, standIns := [], harness := (true, "651ec7f9e81b854d6bfd970204af6a82e2d60a2a5c2c1c5fd84b194759b77512"), looks := false }, kinds := [], alts := [], laidByText := true, laidKinds := [.data], laidTests := true, laidLooks := .later }
def HorizonJoinsCardSaid : Prop := Claim7.holds Tryd.pinned (.plain (OpenSpec.ofChange horizonJoinsSpec)) horizonJoinsCard

/-- THE SECOND FORM's CARD OF 'lookoutlaw14.NormTells'. -/
def normTellsUptoCard : Claim7 := { stood := { row := normTellsUptoRow, standIns := [], harness := (true, "651ec7f9e81b854d6bfd970204af6a82e2d60a2a5c2c1c5fd84b194759b77512"), looks := false }, kinds := [], alts := [], laidByText := true, laidKinds := [.data], laidTests := true, laidLooks := .later }
def NormTellsUptoCardSaid : Prop := Claim7.holds Tryd.pinned (.plain (OpenSpec.upto normTellsSpec)) normTellsUptoCard

/-- THE SECOND FORM's CARD OF 'lookoutlaw14.NormCore'. -/
def normCoreUptoCard : Claim7 := { stood := { row := normCoreUptoRow, standIns := [], harness := (true, "651ec7f9e81b854d6bfd970204af6a82e2d60a2a5c2c1c5fd84b194759b77512"), looks := false }, kinds := [], alts := [], laidByText := true, laidKinds := [.data], laidTests := true, laidLooks := .later }
def NormCoreUptoCardSaid : Prop := Claim7.holds Tryd.pinned (.plain (OpenSpec.upto normCoreSpec)) normCoreUptoCard

/-- THE SECOND FORM's CARD OF 'lookoutlaw14.NormTwice'. -/
def normTwiceUptoCard : Claim7 := { stood := { row := normTwiceUptoRow, standIns := [], harness := (true, "651ec7f9e81b854d6bfd970204af6a82e2d60a2a5c2c1c5fd84b194759b77512"), looks := false }, kinds := [], alts := [], laidByText := true, laidKinds := [.data], laidTests := true, laidLooks := .later }
def NormTwiceUptoCardSaid : Prop := Claim7.holds Tryd.pinned (.plain (OpenSpec.upto normTwiceSpec)) normTwiceUptoCard

/-- THE SECOND FORM's CARD OF 'lookoutlaw14.NormSame'. -/
def normSameUptoCard : Claim7 := { stood := { row := normSameUptoRow, standIns := [], harness := (true, "651ec7f9e81b854d6bfd970204af6a82e2d60a2a5c2c1c5fd84b194759b77512"), looks := false }, kinds := [], alts := [], laidByText := true, laidKinds := [.data], laidTests := true, laidLooks := .later }
def NormSameUptoCardSaid : Prop := Claim7.holds Tryd.pinned (.plain (OpenSpec.upto normSameSpec)) normSameUptoCard

/-- THE SECOND FORM's CARD OF 'lookoutlaw14.NormSmall'. -/
def normSmallUptoCard : Claim7 := { stood := { row := normSmallUptoRow, standIns := [], harness := (true, "651ec7f9e81b854d6bfd970204af6a82e2d60a2a5c2c1c5fd84b194759b77512"), looks := false }, kinds := [], alts := [], laidByText := true, laidKinds := [.data], laidTests := true, laidLooks := .later }
def NormSmallUptoCardSaid : Prop := Claim7.holds Tryd.pinned (.plain (OpenSpec.upto normSmallSpec)) normSmallUptoCard

/-- THE SECOND FORM's CARD OF 'lookoutlaw13.TruthRows'. -/
def truthRowsUptoCard : Claim7 := { stood := { row := truthRowsUptoRow, standIns := [], harness := (true, "651ec7f9e81b854d6bfd970204af6a82e2d60a2a5c2c1c5fd84b194759b77512"), looks := false }, kinds := [], alts := [], laidByText := true, laidKinds := [.data], laidTests := true, laidLooks := .later }
def TruthRowsUptoCardSaid : Prop := Claim7.holds Tryd.pinned (.plain (OpenSpec.upto truthRowsSpec)) truthRowsUptoCard

/-- THE SECOND FORM's CARD OF 'lookoutlaw13.TruthHolds'. -/
def truthHoldsUptoCard : Claim7 := { stood := { row := truthHoldsUptoRow, standIns := [], harness := (true, "651ec7f9e81b854d6bfd970204af6a82e2d60a2a5c2c1c5fd84b194759b77512"), looks := false }, kinds := [], alts := [], laidByText := true, laidKinds := [.data], laidTests := true, laidLooks := .later }
def TruthHoldsUptoCardSaid : Prop := Claim7.holds Tryd.pinned (.plain (OpenSpec.upto truthHoldsSpec)) truthHoldsUptoCard

/-- THE SECOND FORM's CARD OF 'lookoutlaw13.TruthDuals'. -/
def truthDualsUptoCard : Claim7 := { stood := { row := truthDualsUptoRow, standIns := [], harness := (true, "651ec7f9e81b854d6bfd970204af6a82e2d60a2a5c2c1c5fd84b194759b77512"), looks := false }, kinds := [], alts := [], laidByText := true, laidKinds := [.data], laidTests := true, laidLooks := .later }
def TruthDualsUptoCardSaid : Prop := Claim7.holds Tryd.pinned (.plain (OpenSpec.upto truthDualsSpec)) truthDualsUptoCard

/-- THE SECOND FORM's CARD OF 'lookoutlaw13.TruthWider'. -/
def truthWiderUptoCard : Claim7 := { stood := { row := truthWiderUptoRow, standIns := [], harness := (true, "651ec7f9e81b854d6bfd970204af6a82e2d60a2a5c2c1c5fd84b194759b77512"), looks := false }, kinds := [], alts := [], laidByText := true, laidKinds := [.data], laidTests := true, laidLooks := .later }
def TruthWiderUptoCardSaid : Prop := Claim7.holds Tryd.pinned (.plain (OpenSpec.upto truthWiderSpec)) truthWiderUptoCard

/-- THE SECOND FORM's CARD OF 'lookoutlaw13.TruthHere'. -/
def truthHereUptoCard : Claim7 := { stood := { row := truthHereUptoRow, standIns := [], harness := (true, "651ec7f9e81b854d6bfd970204af6a82e2d60a2a5c2c1c5fd84b194759b77512"), looks := false }, kinds := [], alts := [], laidByText := true, laidKinds := [.data], laidTests := true, laidLooks := .later }
def TruthHereUptoCardSaid : Prop := Claim7.holds Tryd.pinned (.plain (OpenSpec.upto truthHereSpec)) truthHereUptoCard

/-- THE SECOND FORM's CARD OF 'lookoutlaw13.TruthNear'. -/
def truthNearUptoCard : Claim7 := { stood := { row := truthNearUptoRow, standIns := [], harness := (true, "651ec7f9e81b854d6bfd970204af6a82e2d60a2a5c2c1c5fd84b194759b77512"), looks := false }, kinds := [], alts := [], laidByText := true, laidKinds := [.data], laidTests := true, laidLooks := .later }
def TruthNearUptoCardSaid : Prop := Claim7.holds Tryd.pinned (.plain (OpenSpec.upto truthNearSpec)) truthNearUptoCard

/-- THE SECOND FORM's CARD OF 'lookoutlaw16.PlanTells'. -/
def planTellsUptoCard : Claim7 := { stood := { row := planTellsUptoRow, standIns := [], harness := (true, "651ec7f9e81b854d6bfd970204af6a82e2d60a2a5c2c1c5fd84b194759b77512"), looks := false }, kinds := [], alts := [], laidByText := true, laidKinds := [.data], laidTests := true, laidLooks := .later }
def PlanTellsUptoCardSaid : Prop := Claim7.holds Tryd.pinned (.plain (OpenSpec.upto planTellsSpec)) planTellsUptoCard

/-- THE SECOND FORM's CARD OF 'lookoutlaw16.PlanBack'. -/
def planBackUptoCard : Claim7 := { stood := { row := planBackUptoRow, standIns := [], harness := (true, "651ec7f9e81b854d6bfd970204af6a82e2d60a2a5c2c1c5fd84b194759b77512"), looks := false }, kinds := [], alts := [], laidByText := true, laidKinds := [.data], laidTests := true, laidLooks := .later }
def PlanBackUptoCardSaid : Prop := Claim7.holds Tryd.pinned (.plain (OpenSpec.upto planBackSpec)) planBackUptoCard

/-- THE SECOND FORM's CARD OF 'lookoutlaw16.PlanSame'. -/
def planSameUptoCard : Claim7 := { stood := { row := planSameUptoRow, standIns := [], harness := (true, "651ec7f9e81b854d6bfd970204af6a82e2d60a2a5c2c1c5fd84b194759b77512"), looks := false }, kinds := [], alts := [], laidByText := true, laidKinds := [.data], laidTests := true, laidLooks := .later }
def PlanSameUptoCardSaid : Prop := Claim7.holds Tryd.pinned (.plain (OpenSpec.upto planSameSpec)) planSameUptoCard

/-- THE SECOND FORM's CARD OF 'lookoutlaw16.PlanOnce'. -/
def planOnceUptoCard : Claim7 := { stood := { row := planOnceUptoRow, standIns := [], harness := (true, "651ec7f9e81b854d6bfd970204af6a82e2d60a2a5c2c1c5fd84b194759b77512"), looks := false }, kinds := [], alts := [], laidByText := true, laidKinds := [.data], laidTests := true, laidLooks := .later }
def PlanOnceUptoCardSaid : Prop := Claim7.holds Tryd.pinned (.plain (OpenSpec.upto planOnceSpec)) planOnceUptoCard

/-- THE SECOND FORM's CARD OF 'lookoutlaw11.HorizonTells'. -/
def horizonTellsUptoCard : Claim7 := { stood := { row := horizonTellsUptoRow, standIns := [], harness := (true, "651ec7f9e81b854d6bfd970204af6a82e2d60a2a5c2c1c5fd84b194759b77512"), looks := false }, kinds := [], alts := [], laidByText := true, laidKinds := [.data], laidTests := true, laidLooks := .later }
def HorizonTellsUptoCardSaid : Prop := Claim7.holds Tryd.pinned (.plain (OpenSpec.upto horizonTellsSpec)) horizonTellsUptoCard

/-- THE SECOND FORM's CARD OF 'lookoutlaw11.HorizonNames'. -/
def horizonNamesUptoCard : Claim7 := { stood := { row := horizonNamesUptoRow, standIns := [], harness := (true, "651ec7f9e81b854d6bfd970204af6a82e2d60a2a5c2c1c5fd84b194759b77512"), looks := false }, kinds := [], alts := [], laidByText := true, laidKinds := [.data], laidTests := true, laidLooks := .later }
def HorizonNamesUptoCardSaid : Prop := Claim7.holds Tryd.pinned (.plain (OpenSpec.upto horizonNamesSpec)) horizonNamesUptoCard

/-- THE SECOND FORM's CARD OF 'lookoutlaw11.HorizonKids'. -/
def horizonKidsUptoCard : Claim7 := { stood := { row := horizonKidsUptoRow, standIns := [], harness := (true, "651ec7f9e81b854d6bfd970204af6a82e2d60a2a5c2c1c5fd84b194759b77512"), looks := false }, kinds := [], alts := [], laidByText := true, laidKinds := [.data], laidTests := true, laidLooks := .later }
def HorizonKidsUptoCardSaid : Prop := Claim7.holds Tryd.pinned (.plain (OpenSpec.upto horizonKidsSpec)) horizonKidsUptoCard

/-- THE SECOND FORM's CARD OF 'lookoutlaw11.HorizonSpans'. -/
def horizonSpansUptoCard : Claim7 := { stood := { row := horizonSpansUptoRow, standIns := [], harness := (true, "651ec7f9e81b854d6bfd970204af6a82e2d60a2a5c2c1c5fd84b194759b77512"), looks := false }, kinds := [], alts := [], laidByText := true, laidKinds := [.data], laidTests := true, laidLooks := .later }
def HorizonSpansUptoCardSaid : Prop := Claim7.holds Tryd.pinned (.plain (OpenSpec.upto horizonSpansSpec)) horizonSpansUptoCard

/-- THE SECOND FORM's CARD OF 'lookoutlaw11.HorizonJoins'. -/
def horizonJoinsUptoCard : Claim7 := { stood := { row := horizonJoinsUptoRow, standIns := [], harness := (true, "651ec7f9e81b854d6bfd970204af6a82e2d60a2a5c2c1c5fd84b194759b77512"), looks := false }, kinds := [], alts := [], laidByText := true, laidKinds := [.data], laidTests := true, laidLooks := .later }
def HorizonJoinsUptoCardSaid : Prop := Claim7.holds Tryd.pinned (.plain (OpenSpec.upto horizonJoinsSpec)) horizonJoinsUptoCard
end Rows
end Go.Proofs.YtnpcakakjhiboaaDoor
