/-
  NARROWER THAN 'FOR EVERY INPUT', by the rows' own cells (each row's printed sentence says how): NormTells: loops, laid · NormCore: loops, laid · NormTwice: loops, laid · NormSame: loops, laid · NormSmall: loops, laid · TruthRows: loops, laid · TruthHolds: loops, laid · TruthDuals: loops, laid · TruthWider: loops, laid · TruthHere: loops, laid · TruthNear: loops, laid · PlanTells: loops, laid · PlanBack: loops, laid · PlanSame: loops, laid · PlanOnce: loops, laid · HorizonTells: loops, laid · HorizonNames: loops, laid · HorizonKids: loops, laid · HorizonSpans: loops, laid · HorizonJoins: loops, laid.
  DERIVED. THE GIVEN ROWS OF THIS SEAT. 20 by the template 'for every input the law returns true; each argument reads behind the call as it read before'; 0 by the template 'total and deterministic' (their statements: YtnpcakakjhiboaaDoorTotals.lean).
  GIVEN WITH THE SEED: the statements are not yours to turn. If you find one false, say at which input.
  Laid BY PROGRAM, IN A SANDBOX (cutbox-rows.mjs): the forced cells as the released guide's own fill.sh prints them over the translation 8287bc7fd1a94854… (all of the seat's roots in one cut). By AI agents, Wed Nov 11 2026. No macro, syntax, notation, axiom, sorry.
-/
import Derived.Test.YtnpcakakjhiboaaDoorChecked
import GoSem.Claim
import GoSem.ClaimJoined
import GoSem.ClaimMapViews
import Derived.JoinedTies
import Derived.KernelRfl
namespace Go.Proofs.YtnpcakakjhiboaaDoor
/- THE CELL 'sum', in the pinned program and in every row, IS THE sha256 OF THE DUMP (.gsa) THAT YtnpcakakjhiboaaDoorProg.lean LOADS. Nothing in Lean hashes anything: it is a label: what it is worth is what the hold of that sum in a sandbox is worth. -/
noncomputable def Tryd.pinned : Pinned := { name := "ytnpcakakjhiboaadoor", sum := "8287bc7fd1a94854febd4a6eb84044001058dfb8b5f8357697afbf56db0be6b6", checked := Tryd.checked }
namespace Rows
def none {H : Type} : Left H := { results := [], args := [] }

/- WHAT THE LISTED PACKAGE-LEVEL VARIABLES READ AS WHEN THE CALL BEGINS. Each datum BY PROGRAM (the guide's laid-datum.mjs) off the statement by which the dump's own 'gosem.cut.vars' lays the variable. In a bare row this is a premise. The card (YtnpcakakjhiboaaDoorCards.lean) ties it to the program's text. -/
def laid_lookout_formula_shapes {H : Type} : DataW H := .agg [.agg [.lit (.int .i64 0), .lit (.int .i64 0), .agg [.lit (.int .i64 0), .lit (.int .i64 0)]], .agg [.lit (.int .i64 0), .lit (.int .i64 7), .agg [.lit (.int .i64 0), .lit (.int .i64 0)]], .agg [.lit (.int .i64 0), .lit (.int .i64 7), .agg [.lit (.int .i64 0), .lit (.int .i64 0)]], .agg [.lit (.int .i64 0), .lit (.int .i64 7), .agg [.lit (.int .i64 0), .lit (.int .i64 0)]], .agg [.lit (.int .i64 1), .lit (.int .i64 6), .agg [.lit (.int .i64 6), .lit (.int .i64 0)]], .agg [.lit (.int .i64 2), .lit (.int .i64 4), .agg [.lit (.int .i64 4), .lit (.int .i64 5)]], .agg [.lit (.int .i64 2), .lit (.int .i64 3), .agg [.lit (.int .i64 3), .lit (.int .i64 4)]], .agg [.lit (.int .i64 2), .lit (.int .i64 2), .agg [.lit (.int .i64 3), .lit (.int .i64 2)]], .agg [.lit (.int .i64 2), .lit (.int .i64 1), .agg [.lit (.int .i64 1), .lit (.int .i64 2)]], .agg [.lit (.int .i64 1), .lit (.int .i64 6), .agg [.lit (.int .i64 6), .lit (.int .i64 0)]], .agg [.lit (.int .i64 1), .lit (.int .i64 6), .agg [.lit (.int .i64 6), .lit (.int .i64 0)]], .agg [.lit (.int .i64 2), .lit (.int .i64 5), .agg [.lit (.int .i64 6), .lit (.int .i64 5)]], .agg [.lit (.int .i64 2), .lit (.int .i64 5), .agg [.lit (.int .i64 6), .lit (.int .i64 5)]]]

/-- 'lookoutlaw14.NormTells': WHATEVER THE INPUT: true; the input reads as it did. -/
def normTellsSpec : ChangeSpec := { name := "normTells", fn := fun _ => fun
  | [d] => { results := [.lit (.bool true)], args := [d] }
  | _ => none }
def normTellsRow : OpenClaim := { program := "ytnpcakakjhiboaadoor", sum := "8287bc7fd1a94854febd4a6eb84044001058dfb8b5f8357697afbf56db0be6b6", func := "lookout/lookoutlaw14.NormTells", spec := "normTells", unfollowed := true, recurses := true, named := ["lookout/formula.shapes"], loops := true, plainKeys := false, apart := false, laid := [("lookout/formula.shapes", laid_lookout_formula_shapes)] }
def NormTellsSaid : Prop := normTellsRow.holds Tryd.pinned (OpenSpec.ofChange normTellsSpec)

/-- ITS FALSE NEIGHBOUR: 'it returns false'. Refute it at one input. -/
def normTellsWrong : ChangeSpec := { name := "normTells", fn := fun _ => fun
  | [d] => { results := [.lit (.bool false)], args := [d] }
  | _ => none }
def NormTellsWrongFalsely : Prop := normTellsRow.holds Tryd.pinned (OpenSpec.ofChange normTellsWrong)

/-- 'lookoutlaw14.NormCore': WHATEVER THE INPUT: true; the input reads as it did. -/
def normCoreSpec : ChangeSpec := { name := "normCore", fn := fun _ => fun
  | [d] => { results := [.lit (.bool true)], args := [d] }
  | _ => none }
def normCoreRow : OpenClaim := { program := "ytnpcakakjhiboaadoor", sum := "8287bc7fd1a94854febd4a6eb84044001058dfb8b5f8357697afbf56db0be6b6", func := "lookout/lookoutlaw14.NormCore", spec := "normCore", unfollowed := true, recurses := true, named := ["lookout/formula.shapes"], loops := true, plainKeys := false, apart := false, laid := [("lookout/formula.shapes", laid_lookout_formula_shapes)] }
def NormCoreSaid : Prop := normCoreRow.holds Tryd.pinned (OpenSpec.ofChange normCoreSpec)

/-- ITS FALSE NEIGHBOUR: 'it returns false'. Refute it at one input. -/
def normCoreWrong : ChangeSpec := { name := "normCore", fn := fun _ => fun
  | [d] => { results := [.lit (.bool false)], args := [d] }
  | _ => none }
def NormCoreWrongFalsely : Prop := normCoreRow.holds Tryd.pinned (OpenSpec.ofChange normCoreWrong)

/-- 'lookoutlaw14.NormTwice': WHATEVER THE INPUT: true; the input reads as it did. -/
def normTwiceSpec : ChangeSpec := { name := "normTwice", fn := fun _ => fun
  | [d1, d2, d3] => { results := [.lit (.bool true)], args := [d1, d2, d3] }
  | _ => none }
def normTwiceRow : OpenClaim := { program := "ytnpcakakjhiboaadoor", sum := "8287bc7fd1a94854febd4a6eb84044001058dfb8b5f8357697afbf56db0be6b6", func := "lookout/lookoutlaw14.NormTwice", spec := "normTwice", unfollowed := true, recurses := true, named := ["lookout/formula.shapes"], loops := true, plainKeys := false, apart := false, laid := [("lookout/formula.shapes", laid_lookout_formula_shapes)] }
def NormTwiceSaid : Prop := normTwiceRow.holds Tryd.pinned (OpenSpec.ofChange normTwiceSpec)

/-- ITS FALSE NEIGHBOUR: 'it returns false'. Refute it at one input. -/
def normTwiceWrong : ChangeSpec := { name := "normTwice", fn := fun _ => fun
  | [d1, d2, d3] => { results := [.lit (.bool false)], args := [d1, d2, d3] }
  | _ => none }
def NormTwiceWrongFalsely : Prop := normTwiceRow.holds Tryd.pinned (OpenSpec.ofChange normTwiceWrong)

/-- 'lookoutlaw14.NormSame': WHATEVER THE INPUT: true; the input reads as it did. -/
def normSameSpec : ChangeSpec := { name := "normSame", fn := fun _ => fun
  | [d1, d2] => { results := [.lit (.bool true)], args := [d1, d2] }
  | _ => none }
def normSameRow : OpenClaim := { program := "ytnpcakakjhiboaadoor", sum := "8287bc7fd1a94854febd4a6eb84044001058dfb8b5f8357697afbf56db0be6b6", func := "lookout/lookoutlaw14.NormSame", spec := "normSame", inPlace := ["internal/bytealg.abigen_runtime_cmpstring"], unfollowed := true, recurses := true, named := ["lookout/formula.shapes"], loops := true, plainKeys := false, apart := false, laid := [("lookout/formula.shapes", laid_lookout_formula_shapes)] }
def NormSameSaid : Prop := normSameRow.holds Tryd.pinned (OpenSpec.ofChange normSameSpec)

/-- ITS FALSE NEIGHBOUR: 'it returns false'. Refute it at one input. -/
def normSameWrong : ChangeSpec := { name := "normSame", fn := fun _ => fun
  | [d1, d2] => { results := [.lit (.bool false)], args := [d1, d2] }
  | _ => none }
def NormSameWrongFalsely : Prop := normSameRow.holds Tryd.pinned (OpenSpec.ofChange normSameWrong)

/-- 'lookoutlaw14.NormSmall': WHATEVER THE INPUT: true; the input reads as it did. -/
def normSmallSpec : ChangeSpec := { name := "normSmall", fn := fun _ => fun
  | [d] => { results := [.lit (.bool true)], args := [d] }
  | _ => none }
def normSmallRow : OpenClaim := { program := "ytnpcakakjhiboaadoor", sum := "8287bc7fd1a94854febd4a6eb84044001058dfb8b5f8357697afbf56db0be6b6", func := "lookout/lookoutlaw14.NormSmall", spec := "normSmall", unfollowed := true, recurses := true, named := ["lookout/formula.shapes"], loops := true, plainKeys := false, apart := false, laid := [("lookout/formula.shapes", laid_lookout_formula_shapes)] }
def NormSmallSaid : Prop := normSmallRow.holds Tryd.pinned (OpenSpec.ofChange normSmallSpec)

/-- ITS FALSE NEIGHBOUR: 'it returns false'. Refute it at one input. -/
def normSmallWrong : ChangeSpec := { name := "normSmall", fn := fun _ => fun
  | [d] => { results := [.lit (.bool false)], args := [d] }
  | _ => none }
def NormSmallWrongFalsely : Prop := normSmallRow.holds Tryd.pinned (OpenSpec.ofChange normSmallWrong)

/-- 'lookoutlaw13.TruthRows': WHATEVER THE INPUT: true; the input reads as it did. -/
def truthRowsSpec : ChangeSpec := { name := "truthRows", fn := fun _ => fun
  | [d1, d2] => { results := [.lit (.bool true)], args := [d1, d2] }
  | _ => none }
def truthRowsRow : OpenClaim := { program := "ytnpcakakjhiboaadoor", sum := "8287bc7fd1a94854febd4a6eb84044001058dfb8b5f8357697afbf56db0be6b6", func := "lookout/lookoutlaw13.TruthRows", spec := "truthRows", inPlace := ["internal/bytealg.abigen_runtime_cmpstring"], unfollowed := true, recurses := true, named := ["lookout/formula.shapes"], loops := true, plainKeys := false, apart := false, laid := [("lookout/formula.shapes", laid_lookout_formula_shapes)] }
def TruthRowsSaid : Prop := truthRowsRow.holds Tryd.pinned (OpenSpec.ofChange truthRowsSpec)

/-- ITS FALSE NEIGHBOUR: 'it returns false'. Refute it at one input. -/
def truthRowsWrong : ChangeSpec := { name := "truthRows", fn := fun _ => fun
  | [d1, d2] => { results := [.lit (.bool false)], args := [d1, d2] }
  | _ => none }
def TruthRowsWrongFalsely : Prop := truthRowsRow.holds Tryd.pinned (OpenSpec.ofChange truthRowsWrong)

/-- 'lookoutlaw13.TruthHolds': WHATEVER THE INPUT: true; the input reads as it did. -/
def truthHoldsSpec : ChangeSpec := { name := "truthHolds", fn := fun _ => fun
  | [d1, d2, d3] => { results := [.lit (.bool true)], args := [d1, d2, d3] }
  | _ => none }
def truthHoldsRow : OpenClaim := { program := "ytnpcakakjhiboaadoor", sum := "8287bc7fd1a94854febd4a6eb84044001058dfb8b5f8357697afbf56db0be6b6", func := "lookout/lookoutlaw13.TruthHolds", spec := "truthHolds", inPlace := ["internal/bytealg.abigen_runtime_cmpstring"], unfollowed := true, recurses := true, named := ["lookout/formula.shapes"], loops := true, plainKeys := false, apart := false, laid := [("lookout/formula.shapes", laid_lookout_formula_shapes)] }
def TruthHoldsSaid : Prop := truthHoldsRow.holds Tryd.pinned (OpenSpec.ofChange truthHoldsSpec)

/-- ITS FALSE NEIGHBOUR: 'it returns false'. Refute it at one input. -/
def truthHoldsWrong : ChangeSpec := { name := "truthHolds", fn := fun _ => fun
  | [d1, d2, d3] => { results := [.lit (.bool false)], args := [d1, d2, d3] }
  | _ => none }
def TruthHoldsWrongFalsely : Prop := truthHoldsRow.holds Tryd.pinned (OpenSpec.ofChange truthHoldsWrong)

/-- 'lookoutlaw13.TruthDuals': WHATEVER THE INPUT: true; the input reads as it did. -/
def truthDualsSpec : ChangeSpec := { name := "truthDuals", fn := fun _ => fun
  | [d1, d2, d3, d4] => { results := [.lit (.bool true)], args := [d1, d2, d3, d4] }
  | _ => none }
def truthDualsRow : OpenClaim := { program := "ytnpcakakjhiboaadoor", sum := "8287bc7fd1a94854febd4a6eb84044001058dfb8b5f8357697afbf56db0be6b6", func := "lookout/lookoutlaw13.TruthDuals", spec := "truthDuals", inPlace := ["internal/bytealg.abigen_runtime_cmpstring"], unfollowed := true, recurses := true, named := ["lookout/formula.shapes"], loops := true, plainKeys := false, apart := false, laid := [("lookout/formula.shapes", laid_lookout_formula_shapes)] }
def TruthDualsSaid : Prop := truthDualsRow.holds Tryd.pinned (OpenSpec.ofChange truthDualsSpec)

/-- ITS FALSE NEIGHBOUR: 'it returns false'. Refute it at one input. -/
def truthDualsWrong : ChangeSpec := { name := "truthDuals", fn := fun _ => fun
  | [d1, d2, d3, d4] => { results := [.lit (.bool false)], args := [d1, d2, d3, d4] }
  | _ => none }
def TruthDualsWrongFalsely : Prop := truthDualsRow.holds Tryd.pinned (OpenSpec.ofChange truthDualsWrong)

/-- 'lookoutlaw13.TruthWider': WHATEVER THE INPUT: true; the input reads as it did. -/
def truthWiderSpec : ChangeSpec := { name := "truthWider", fn := fun _ => fun
  | [d1, d2, d3, d4, d5] => { results := [.lit (.bool true)], args := [d1, d2, d3, d4, d5] }
  | _ => none }
def truthWiderRow : OpenClaim := { program := "ytnpcakakjhiboaadoor", sum := "8287bc7fd1a94854febd4a6eb84044001058dfb8b5f8357697afbf56db0be6b6", func := "lookout/lookoutlaw13.TruthWider", spec := "truthWider", inPlace := ["internal/bytealg.abigen_runtime_cmpstring"], unfollowed := true, recurses := true, named := ["lookout/formula.shapes"], loops := true, plainKeys := false, apart := false, laid := [("lookout/formula.shapes", laid_lookout_formula_shapes)] }
def TruthWiderSaid : Prop := truthWiderRow.holds Tryd.pinned (OpenSpec.ofChange truthWiderSpec)

/-- ITS FALSE NEIGHBOUR: 'it returns false'. Refute it at one input. -/
def truthWiderWrong : ChangeSpec := { name := "truthWider", fn := fun _ => fun
  | [d1, d2, d3, d4, d5] => { results := [.lit (.bool false)], args := [d1, d2, d3, d4, d5] }
  | _ => none }
def TruthWiderWrongFalsely : Prop := truthWiderRow.holds Tryd.pinned (OpenSpec.ofChange truthWiderWrong)

/-- 'lookoutlaw13.TruthHere': WHATEVER THE INPUT: true; the input reads as it did. -/
def truthHereSpec : ChangeSpec := { name := "truthHere", fn := fun _ => fun
  | [d1, d2, d3, d4] => { results := [.lit (.bool true)], args := [d1, d2, d3, d4] }
  | _ => none }
def truthHereRow : OpenClaim := { program := "ytnpcakakjhiboaadoor", sum := "8287bc7fd1a94854febd4a6eb84044001058dfb8b5f8357697afbf56db0be6b6", func := "lookout/lookoutlaw13.TruthHere", spec := "truthHere", inPlace := ["internal/bytealg.abigen_runtime_cmpstring"], unfollowed := true, recurses := true, named := ["lookout/formula.shapes"], loops := true, plainKeys := false, apart := false, laid := [("lookout/formula.shapes", laid_lookout_formula_shapes)] }
def TruthHereSaid : Prop := truthHereRow.holds Tryd.pinned (OpenSpec.ofChange truthHereSpec)

/-- ITS FALSE NEIGHBOUR: 'it returns false'. Refute it at one input. -/
def truthHereWrong : ChangeSpec := { name := "truthHere", fn := fun _ => fun
  | [d1, d2, d3, d4] => { results := [.lit (.bool false)], args := [d1, d2, d3, d4] }
  | _ => none }
def TruthHereWrongFalsely : Prop := truthHereRow.holds Tryd.pinned (OpenSpec.ofChange truthHereWrong)

/-- 'lookoutlaw13.TruthNear': WHATEVER THE INPUT: true; the input reads as it did. -/
def truthNearSpec : ChangeSpec := { name := "truthNear", fn := fun _ => fun
  | [d1, d2, d3] => { results := [.lit (.bool true)], args := [d1, d2, d3] }
  | _ => none }
def truthNearRow : OpenClaim := { program := "ytnpcakakjhiboaadoor", sum := "8287bc7fd1a94854febd4a6eb84044001058dfb8b5f8357697afbf56db0be6b6", func := "lookout/lookoutlaw13.TruthNear", spec := "truthNear", inPlace := ["internal/bytealg.abigen_runtime_cmpstring"], unfollowed := true, recurses := true, named := ["lookout/formula.shapes"], loops := true, plainKeys := false, apart := false, laid := [("lookout/formula.shapes", laid_lookout_formula_shapes)] }
def TruthNearSaid : Prop := truthNearRow.holds Tryd.pinned (OpenSpec.ofChange truthNearSpec)

/-- ITS FALSE NEIGHBOUR: 'it returns false'. Refute it at one input. -/
def truthNearWrong : ChangeSpec := { name := "truthNear", fn := fun _ => fun
  | [d1, d2, d3] => { results := [.lit (.bool false)], args := [d1, d2, d3] }
  | _ => none }
def TruthNearWrongFalsely : Prop := truthNearRow.holds Tryd.pinned (OpenSpec.ofChange truthNearWrong)

/-- 'lookoutlaw16.PlanTells': WHATEVER THE INPUT: true; the input reads as it did. -/
def planTellsSpec : ChangeSpec := { name := "planTells", fn := fun _ => fun
  | [d] => { results := [.lit (.bool true)], args := [d] }
  | _ => none }
def planTellsRow : OpenClaim := { program := "ytnpcakakjhiboaadoor", sum := "8287bc7fd1a94854febd4a6eb84044001058dfb8b5f8357697afbf56db0be6b6", func := "lookout/lookoutlaw16.PlanTells", spec := "planTells", unfollowed := true, recurses := true, named := ["lookout/formula.shapes"], loops := true, plainKeys := false, apart := false, laid := [("lookout/formula.shapes", laid_lookout_formula_shapes)] }
def PlanTellsSaid : Prop := planTellsRow.holds Tryd.pinned (OpenSpec.ofChange planTellsSpec)

/-- ITS FALSE NEIGHBOUR: 'it returns false'. Refute it at one input. -/
def planTellsWrong : ChangeSpec := { name := "planTells", fn := fun _ => fun
  | [d] => { results := [.lit (.bool false)], args := [d] }
  | _ => none }
def PlanTellsWrongFalsely : Prop := planTellsRow.holds Tryd.pinned (OpenSpec.ofChange planTellsWrong)

/-- 'lookoutlaw16.PlanBack': WHATEVER THE INPUT: true; the input reads as it did. -/
def planBackSpec : ChangeSpec := { name := "planBack", fn := fun _ => fun
  | [d] => { results := [.lit (.bool true)], args := [d] }
  | _ => none }
def planBackRow : OpenClaim := { program := "ytnpcakakjhiboaadoor", sum := "8287bc7fd1a94854febd4a6eb84044001058dfb8b5f8357697afbf56db0be6b6", func := "lookout/lookoutlaw16.PlanBack", spec := "planBack", unfollowed := true, recurses := true, named := ["lookout/formula.shapes"], loops := true, plainKeys := false, apart := false, laid := [("lookout/formula.shapes", laid_lookout_formula_shapes)] }
def PlanBackSaid : Prop := planBackRow.holds Tryd.pinned (OpenSpec.ofChange planBackSpec)

/-- ITS FALSE NEIGHBOUR: 'it returns false'. Refute it at one input. -/
def planBackWrong : ChangeSpec := { name := "planBack", fn := fun _ => fun
  | [d] => { results := [.lit (.bool false)], args := [d] }
  | _ => none }
def PlanBackWrongFalsely : Prop := planBackRow.holds Tryd.pinned (OpenSpec.ofChange planBackWrong)

/-- 'lookoutlaw16.PlanSame': WHATEVER THE INPUT: true; the input reads as it did. -/
def planSameSpec : ChangeSpec := { name := "planSame", fn := fun _ => fun
  | [d] => { results := [.lit (.bool true)], args := [d] }
  | _ => none }
def planSameRow : OpenClaim := { program := "ytnpcakakjhiboaadoor", sum := "8287bc7fd1a94854febd4a6eb84044001058dfb8b5f8357697afbf56db0be6b6", func := "lookout/lookoutlaw16.PlanSame", spec := "planSame", unfollowed := true, recurses := true, named := ["lookout/formula.shapes"], loops := true, plainKeys := false, apart := false, laid := [("lookout/formula.shapes", laid_lookout_formula_shapes)] }
def PlanSameSaid : Prop := planSameRow.holds Tryd.pinned (OpenSpec.ofChange planSameSpec)

/-- ITS FALSE NEIGHBOUR: 'it returns false'. Refute it at one input. -/
def planSameWrong : ChangeSpec := { name := "planSame", fn := fun _ => fun
  | [d] => { results := [.lit (.bool false)], args := [d] }
  | _ => none }
def PlanSameWrongFalsely : Prop := planSameRow.holds Tryd.pinned (OpenSpec.ofChange planSameWrong)

/-- 'lookoutlaw16.PlanOnce': WHATEVER THE INPUT: true; the input reads as it did. -/
def planOnceSpec : ChangeSpec := { name := "planOnce", fn := fun _ => fun
  | [d] => { results := [.lit (.bool true)], args := [d] }
  | _ => none }
def planOnceRow : OpenClaim := { program := "ytnpcakakjhiboaadoor", sum := "8287bc7fd1a94854febd4a6eb84044001058dfb8b5f8357697afbf56db0be6b6", func := "lookout/lookoutlaw16.PlanOnce", spec := "planOnce", unfollowed := true, recurses := true, named := ["lookout/formula.shapes"], loops := true, plainKeys := false, apart := false, laid := [("lookout/formula.shapes", laid_lookout_formula_shapes)] }
def PlanOnceSaid : Prop := planOnceRow.holds Tryd.pinned (OpenSpec.ofChange planOnceSpec)

/-- ITS FALSE NEIGHBOUR: 'it returns false'. Refute it at one input. -/
def planOnceWrong : ChangeSpec := { name := "planOnce", fn := fun _ => fun
  | [d] => { results := [.lit (.bool false)], args := [d] }
  | _ => none }
def PlanOnceWrongFalsely : Prop := planOnceRow.holds Tryd.pinned (OpenSpec.ofChange planOnceWrong)

/-- 'lookoutlaw11.HorizonTells': WHATEVER THE INPUT: true; the input reads as it did. -/
def horizonTellsSpec : ChangeSpec := { name := "horizonTells", fn := fun _ => fun
  | [d] => { results := [.lit (.bool true)], args := [d] }
  | _ => none }
def horizonTellsRow : OpenClaim := { program := "ytnpcakakjhiboaadoor", sum := "8287bc7fd1a94854febd4a6eb84044001058dfb8b5f8357697afbf56db0be6b6", func := "lookout/lookoutlaw11.HorizonTells", spec := "horizonTells", unfollowed := true, recurses := true, named := ["lookout/formula.shapes"], loops := true, plainKeys := false, apart := false, laid := [("lookout/formula.shapes", laid_lookout_formula_shapes)] }
def HorizonTellsSaid : Prop := horizonTellsRow.holds Tryd.pinned (OpenSpec.ofChange horizonTellsSpec)

/-- ITS FALSE NEIGHBOUR: 'it returns false'. Refute it at one input. -/
def horizonTellsWrong : ChangeSpec := { name := "horizonTells", fn := fun _ => fun
  | [d] => { results := [.lit (.bool false)], args := [d] }
  | _ => none }
def HorizonTellsWrongFalsely : Prop := horizonTellsRow.holds Tryd.pinned (OpenSpec.ofChange horizonTellsWrong)

/-- 'lookoutlaw11.HorizonNames': WHATEVER THE INPUT: true; the input reads as it did. -/
def horizonNamesSpec : ChangeSpec := { name := "horizonNames", fn := fun _ => fun
  | [d] => { results := [.lit (.bool true)], args := [d] }
  | _ => none }
def horizonNamesRow : OpenClaim := { program := "ytnpcakakjhiboaadoor", sum := "8287bc7fd1a94854febd4a6eb84044001058dfb8b5f8357697afbf56db0be6b6", func := "lookout/lookoutlaw11.HorizonNames", spec := "horizonNames", unfollowed := true, recurses := true, named := ["lookout/formula.shapes"], loops := true, plainKeys := false, apart := false, laid := [("lookout/formula.shapes", laid_lookout_formula_shapes)] }
def HorizonNamesSaid : Prop := horizonNamesRow.holds Tryd.pinned (OpenSpec.ofChange horizonNamesSpec)

/-- ITS FALSE NEIGHBOUR: 'it returns false'. Refute it at one input. -/
def horizonNamesWrong : ChangeSpec := { name := "horizonNames", fn := fun _ => fun
  | [d] => { results := [.lit (.bool false)], args := [d] }
  | _ => none }
def HorizonNamesWrongFalsely : Prop := horizonNamesRow.holds Tryd.pinned (OpenSpec.ofChange horizonNamesWrong)

/-- 'lookoutlaw11.HorizonKids': WHATEVER THE INPUT: true; the input reads as it did. -/
def horizonKidsSpec : ChangeSpec := { name := "horizonKids", fn := fun _ => fun
  | [d] => { results := [.lit (.bool true)], args := [d] }
  | _ => none }
def horizonKidsRow : OpenClaim := { program := "ytnpcakakjhiboaadoor", sum := "8287bc7fd1a94854febd4a6eb84044001058dfb8b5f8357697afbf56db0be6b6", func := "lookout/lookoutlaw11.HorizonKids", spec := "horizonKids", unfollowed := true, recurses := true, named := ["lookout/formula.shapes"], loops := true, plainKeys := false, apart := false, laid := [("lookout/formula.shapes", laid_lookout_formula_shapes)] }
def HorizonKidsSaid : Prop := horizonKidsRow.holds Tryd.pinned (OpenSpec.ofChange horizonKidsSpec)

/-- ITS FALSE NEIGHBOUR: 'it returns false'. Refute it at one input. -/
def horizonKidsWrong : ChangeSpec := { name := "horizonKids", fn := fun _ => fun
  | [d] => { results := [.lit (.bool false)], args := [d] }
  | _ => none }
def HorizonKidsWrongFalsely : Prop := horizonKidsRow.holds Tryd.pinned (OpenSpec.ofChange horizonKidsWrong)

/-- 'lookoutlaw11.HorizonSpans': WHATEVER THE INPUT: true; the input reads as it did. -/
def horizonSpansSpec : ChangeSpec := { name := "horizonSpans", fn := fun _ => fun
  | [d1, d2] => { results := [.lit (.bool true)], args := [d1, d2] }
  | _ => none }
def horizonSpansRow : OpenClaim := { program := "ytnpcakakjhiboaadoor", sum := "8287bc7fd1a94854febd4a6eb84044001058dfb8b5f8357697afbf56db0be6b6", func := "lookout/lookoutlaw11.HorizonSpans", spec := "horizonSpans", unfollowed := true, recurses := true, named := ["lookout/formula.shapes"], loops := true, plainKeys := false, apart := false, laid := [("lookout/formula.shapes", laid_lookout_formula_shapes)] }
def HorizonSpansSaid : Prop := horizonSpansRow.holds Tryd.pinned (OpenSpec.ofChange horizonSpansSpec)

/-- ITS FALSE NEIGHBOUR: 'it returns false'. Refute it at one input. -/
def horizonSpansWrong : ChangeSpec := { name := "horizonSpans", fn := fun _ => fun
  | [d1, d2] => { results := [.lit (.bool false)], args := [d1, d2] }
  | _ => none }
def HorizonSpansWrongFalsely : Prop := horizonSpansRow.holds Tryd.pinned (OpenSpec.ofChange horizonSpansWrong)

/-- 'lookoutlaw11.HorizonJoins': WHATEVER THE INPUT: true; the input reads as it did. -/
def horizonJoinsSpec : ChangeSpec := { name := "horizonJoins", fn := fun _ => fun
  | [d1, d2, d3] => { results := [.lit (.bool true)], args := [d1, d2, d3] }
  | _ => none }
def horizonJoinsRow : OpenClaim := { program := "ytnpcakakjhiboaadoor", sum := "8287bc7fd1a94854febd4a6eb84044001058dfb8b5f8357697afbf56db0be6b6", func := "lookout/lookoutlaw11.HorizonJoins", spec := "horizonJoins", unfollowed := true, recurses := true, named := ["lookout/formula.shapes"], loops := true, plainKeys := false, apart := false, laid := [("lookout/formula.shapes", laid_lookout_formula_shapes)] }
def HorizonJoinsSaid : Prop := horizonJoinsRow.holds Tryd.pinned (OpenSpec.ofChange horizonJoinsSpec)

/-- ITS FALSE NEIGHBOUR: 'it returns false'. Refute it at one input. -/
def horizonJoinsWrong : ChangeSpec := { name := "horizonJoins", fn := fun _ => fun
  | [d1, d2, d3] => { results := [.lit (.bool false)], args := [d1, d2, d3] }
  | _ => none }
def HorizonJoinsWrongFalsely : Prop := horizonJoinsRow.holds Tryd.pinned (OpenSpec.ofChange horizonJoinsWrong)

/- THE SECOND FORM. 'bulk': how many values and letters a reading holds, each counted each time it is reached (what is shared counts as often as it is met; a slice's spare places count too). A statement '..UptoSaid' is the law's where the arguments, and the package variables that the reading takes, are together of bulk at most 1048576: NARROWER than '..Said'. Prove '..Said' where nothing that the law and all that it calls make is longer than what came in: it says more and counts as full. Else prove '..UptoSaid'. A law counts once. -/
mutual
def uptoBulk {H : Type} : DataW H → Nat
  | .lit (.string bytes) => bytes.length + 1
  | .lit _ => 1
  | .nil => 1
  | .ptr d => uptoBulk d + 1
  | .slice elems spare => uptoBulkAll elems + uptoBulkAll spare + 1
  | .agg parts => uptoBulkAll parts + 1
  | .iface _ d => uptoBulk d + 1
  | .map entries => uptoBulkEntries entries + 1
  | .held _ => 1
def uptoBulkAll {H : Type} : List (DataW H) → Nat
  | [] => 0
  | d :: r => uptoBulk d + uptoBulkAll r
def uptoBulkEntries {H : Type} : List (Lit × DataW H) → Nat
  | [] => 0
  | x :: r => uptoBulkEntry x + uptoBulkEntries r
def uptoBulkEntry {H : Type} : Lit × DataW H → Nat
  | (.string bytes, d) => bytes.length + uptoBulk d + 1
  | (_, d) => uptoBulk d + 1
 end
def uptoSmall : (H : Type) → List (DataW H) → Bool := fun _ ds => decide (uptoBulkAll ds ≤ 1048576)
def OpenSpec.upto (s : _root_.Go.ChangeSpec) : _root_.Go.OpenSpec := { _root_.Go.OpenSpec.ofChange s with cond := some uptoSmall }

/-- 'lookoutlaw14.NormTells', WHERE WHAT IT READS IS OF BULK AT MOST 1048576: true; the input reads as it did. -/
def normTellsUptoRow : OpenClaim := { program := "ytnpcakakjhiboaadoor", sum := "8287bc7fd1a94854febd4a6eb84044001058dfb8b5f8357697afbf56db0be6b6", func := "lookout/lookoutlaw14.NormTells", spec := "normTells", unfollowed := true, recurses := true, named := ["lookout/formula.shapes"], loops := true, plainKeys := false, apart := false, laid := [("lookout/formula.shapes", laid_lookout_formula_shapes)], narrowed := true }
def NormTellsUptoSaid : Prop := normTellsUptoRow.holds Tryd.pinned (OpenSpec.upto normTellsSpec)

/-- 'lookoutlaw14.NormCore', WHERE WHAT IT READS IS OF BULK AT MOST 1048576: true; the input reads as it did. -/
def normCoreUptoRow : OpenClaim := { program := "ytnpcakakjhiboaadoor", sum := "8287bc7fd1a94854febd4a6eb84044001058dfb8b5f8357697afbf56db0be6b6", func := "lookout/lookoutlaw14.NormCore", spec := "normCore", unfollowed := true, recurses := true, named := ["lookout/formula.shapes"], loops := true, plainKeys := false, apart := false, laid := [("lookout/formula.shapes", laid_lookout_formula_shapes)], narrowed := true }
def NormCoreUptoSaid : Prop := normCoreUptoRow.holds Tryd.pinned (OpenSpec.upto normCoreSpec)

/-- 'lookoutlaw14.NormTwice', WHERE WHAT IT READS IS OF BULK AT MOST 1048576: true; the input reads as it did. -/
def normTwiceUptoRow : OpenClaim := { program := "ytnpcakakjhiboaadoor", sum := "8287bc7fd1a94854febd4a6eb84044001058dfb8b5f8357697afbf56db0be6b6", func := "lookout/lookoutlaw14.NormTwice", spec := "normTwice", unfollowed := true, recurses := true, named := ["lookout/formula.shapes"], loops := true, plainKeys := false, apart := false, laid := [("lookout/formula.shapes", laid_lookout_formula_shapes)], narrowed := true }
def NormTwiceUptoSaid : Prop := normTwiceUptoRow.holds Tryd.pinned (OpenSpec.upto normTwiceSpec)

/-- 'lookoutlaw14.NormSame', WHERE WHAT IT READS IS OF BULK AT MOST 1048576: true; the input reads as it did. -/
def normSameUptoRow : OpenClaim := { program := "ytnpcakakjhiboaadoor", sum := "8287bc7fd1a94854febd4a6eb84044001058dfb8b5f8357697afbf56db0be6b6", func := "lookout/lookoutlaw14.NormSame", spec := "normSame", inPlace := ["internal/bytealg.abigen_runtime_cmpstring"], unfollowed := true, recurses := true, named := ["lookout/formula.shapes"], loops := true, plainKeys := false, apart := false, laid := [("lookout/formula.shapes", laid_lookout_formula_shapes)], narrowed := true }
def NormSameUptoSaid : Prop := normSameUptoRow.holds Tryd.pinned (OpenSpec.upto normSameSpec)

/-- 'lookoutlaw14.NormSmall', WHERE WHAT IT READS IS OF BULK AT MOST 1048576: true; the input reads as it did. -/
def normSmallUptoRow : OpenClaim := { program := "ytnpcakakjhiboaadoor", sum := "8287bc7fd1a94854febd4a6eb84044001058dfb8b5f8357697afbf56db0be6b6", func := "lookout/lookoutlaw14.NormSmall", spec := "normSmall", unfollowed := true, recurses := true, named := ["lookout/formula.shapes"], loops := true, plainKeys := false, apart := false, laid := [("lookout/formula.shapes", laid_lookout_formula_shapes)], narrowed := true }
def NormSmallUptoSaid : Prop := normSmallUptoRow.holds Tryd.pinned (OpenSpec.upto normSmallSpec)

/-- 'lookoutlaw13.TruthRows', WHERE WHAT IT READS IS OF BULK AT MOST 1048576: true; the input reads as it did. -/
def truthRowsUptoRow : OpenClaim := { program := "ytnpcakakjhiboaadoor", sum := "8287bc7fd1a94854febd4a6eb84044001058dfb8b5f8357697afbf56db0be6b6", func := "lookout/lookoutlaw13.TruthRows", spec := "truthRows", inPlace := ["internal/bytealg.abigen_runtime_cmpstring"], unfollowed := true, recurses := true, named := ["lookout/formula.shapes"], loops := true, plainKeys := false, apart := false, laid := [("lookout/formula.shapes", laid_lookout_formula_shapes)], narrowed := true }
def TruthRowsUptoSaid : Prop := truthRowsUptoRow.holds Tryd.pinned (OpenSpec.upto truthRowsSpec)

/-- 'lookoutlaw13.TruthHolds', WHERE WHAT IT READS IS OF BULK AT MOST 1048576: true; the input reads as it did. -/
def truthHoldsUptoRow : OpenClaim := { program := "ytnpcakakjhiboaadoor", sum := "8287bc7fd1a94854febd4a6eb84044001058dfb8b5f8357697afbf56db0be6b6", func := "lookout/lookoutlaw13.TruthHolds", spec := "truthHolds", inPlace := ["internal/bytealg.abigen_runtime_cmpstring"], unfollowed := true, recurses := true, named := ["lookout/formula.shapes"], loops := true, plainKeys := false, apart := false, laid := [("lookout/formula.shapes", laid_lookout_formula_shapes)], narrowed := true }
def TruthHoldsUptoSaid : Prop := truthHoldsUptoRow.holds Tryd.pinned (OpenSpec.upto truthHoldsSpec)

/-- 'lookoutlaw13.TruthDuals', WHERE WHAT IT READS IS OF BULK AT MOST 1048576: true; the input reads as it did. -/
def truthDualsUptoRow : OpenClaim := { program := "ytnpcakakjhiboaadoor", sum := "8287bc7fd1a94854febd4a6eb84044001058dfb8b5f8357697afbf56db0be6b6", func := "lookout/lookoutlaw13.TruthDuals", spec := "truthDuals", inPlace := ["internal/bytealg.abigen_runtime_cmpstring"], unfollowed := true, recurses := true, named := ["lookout/formula.shapes"], loops := true, plainKeys := false, apart := false, laid := [("lookout/formula.shapes", laid_lookout_formula_shapes)], narrowed := true }
def TruthDualsUptoSaid : Prop := truthDualsUptoRow.holds Tryd.pinned (OpenSpec.upto truthDualsSpec)

/-- 'lookoutlaw13.TruthWider', WHERE WHAT IT READS IS OF BULK AT MOST 1048576: true; the input reads as it did. -/
def truthWiderUptoRow : OpenClaim := { program := "ytnpcakakjhiboaadoor", sum := "8287bc7fd1a94854febd4a6eb84044001058dfb8b5f8357697afbf56db0be6b6", func := "lookout/lookoutlaw13.TruthWider", spec := "truthWider", inPlace := ["internal/bytealg.abigen_runtime_cmpstring"], unfollowed := true, recurses := true, named := ["lookout/formula.shapes"], loops := true, plainKeys := false, apart := false, laid := [("lookout/formula.shapes", laid_lookout_formula_shapes)], narrowed := true }
def TruthWiderUptoSaid : Prop := truthWiderUptoRow.holds Tryd.pinned (OpenSpec.upto truthWiderSpec)

/-- 'lookoutlaw13.TruthHere', WHERE WHAT IT READS IS OF BULK AT MOST 1048576: true; the input reads as it did. -/
def truthHereUptoRow : OpenClaim := { program := "ytnpcakakjhiboaadoor", sum := "8287bc7fd1a94854febd4a6eb84044001058dfb8b5f8357697afbf56db0be6b6", func := "lookout/lookoutlaw13.TruthHere", spec := "truthHere", inPlace := ["internal/bytealg.abigen_runtime_cmpstring"], unfollowed := true, recurses := true, named := ["lookout/formula.shapes"], loops := true, plainKeys := false, apart := false, laid := [("lookout/formula.shapes", laid_lookout_formula_shapes)], narrowed := true }
def TruthHereUptoSaid : Prop := truthHereUptoRow.holds Tryd.pinned (OpenSpec.upto truthHereSpec)

/-- 'lookoutlaw13.TruthNear', WHERE WHAT IT READS IS OF BULK AT MOST 1048576: true; the input reads as it did. -/
def truthNearUptoRow : OpenClaim := { program := "ytnpcakakjhiboaadoor", sum := "8287bc7fd1a94854febd4a6eb84044001058dfb8b5f8357697afbf56db0be6b6", func := "lookout/lookoutlaw13.TruthNear", spec := "truthNear", inPlace := ["internal/bytealg.abigen_runtime_cmpstring"], unfollowed := true, recurses := true, named := ["lookout/formula.shapes"], loops := true, plainKeys := false, apart := false, laid := [("lookout/formula.shapes", laid_lookout_formula_shapes)], narrowed := true }
def TruthNearUptoSaid : Prop := truthNearUptoRow.holds Tryd.pinned (OpenSpec.upto truthNearSpec)

/-- 'lookoutlaw16.PlanTells', WHERE WHAT IT READS IS OF BULK AT MOST 1048576: true; the input reads as it did. -/
def planTellsUptoRow : OpenClaim := { program := "ytnpcakakjhiboaadoor", sum := "8287bc7fd1a94854febd4a6eb84044001058dfb8b5f8357697afbf56db0be6b6", func := "lookout/lookoutlaw16.PlanTells", spec := "planTells", unfollowed := true, recurses := true, named := ["lookout/formula.shapes"], loops := true, plainKeys := false, apart := false, laid := [("lookout/formula.shapes", laid_lookout_formula_shapes)], narrowed := true }
def PlanTellsUptoSaid : Prop := planTellsUptoRow.holds Tryd.pinned (OpenSpec.upto planTellsSpec)

/-- 'lookoutlaw16.PlanBack', WHERE WHAT IT READS IS OF BULK AT MOST 1048576: true; the input reads as it did. -/
def planBackUptoRow : OpenClaim := { program := "ytnpcakakjhiboaadoor", sum := "8287bc7fd1a94854febd4a6eb84044001058dfb8b5f8357697afbf56db0be6b6", func := "lookout/lookoutlaw16.PlanBack", spec := "planBack", unfollowed := true, recurses := true, named := ["lookout/formula.shapes"], loops := true, plainKeys := false, apart := false, laid := [("lookout/formula.shapes", laid_lookout_formula_shapes)], narrowed := true }
def PlanBackUptoSaid : Prop := planBackUptoRow.holds Tryd.pinned (OpenSpec.upto planBackSpec)

/-- 'lookoutlaw16.PlanSame', WHERE WHAT IT READS IS OF BULK AT MOST 1048576: true; the input reads as it did. -/
def planSameUptoRow : OpenClaim := { program := "ytnpcakakjhiboaadoor", sum := "8287bc7fd1a94854febd4a6eb84044001058dfb8b5f8357697afbf56db0be6b6", func := "lookout/lookoutlaw16.PlanSame", spec := "planSame", unfollowed := true, recurses := true, named := ["lookout/formula.shapes"], loops := true, plainKeys := false, apart := false, laid := [("lookout/formula.shapes", laid_lookout_formula_shapes)], narrowed := true }
def PlanSameUptoSaid : Prop := planSameUptoRow.holds Tryd.pinned (OpenSpec.upto planSameSpec)

/-- 'lookoutlaw16.PlanOnce', WHERE WHAT IT READS IS OF BULK AT MOST 1048576: true; the input reads as it did. -/
def planOnceUptoRow : OpenClaim := { program := "ytnpcakakjhiboaadoor", sum := "8287bc7fd1a94854febd4a6eb84044001058dfb8b5f8357697afbf56db0be6b6", func := "lookout/lookoutlaw16.PlanOnce", spec := "planOnce", unfollowed := true, recurses := true, named := ["lookout/formula.shapes"], loops := true, plainKeys := false, apart := false, laid := [("lookout/formula.shapes", laid_lookout_formula_shapes)], narrowed := true }
def PlanOnceUptoSaid : Prop := planOnceUptoRow.holds Tryd.pinned (OpenSpec.upto planOnceSpec)

/-- 'lookoutlaw11.HorizonTells', WHERE WHAT IT READS IS OF BULK AT MOST 1048576: true; the input reads as it did. -/
def horizonTellsUptoRow : OpenClaim := { program := "ytnpcakakjhiboaadoor", sum := "8287bc7fd1a94854febd4a6eb84044001058dfb8b5f8357697afbf56db0be6b6", func := "lookout/lookoutlaw11.HorizonTells", spec := "horizonTells", unfollowed := true, recurses := true, named := ["lookout/formula.shapes"], loops := true, plainKeys := false, apart := false, laid := [("lookout/formula.shapes", laid_lookout_formula_shapes)], narrowed := true }
def HorizonTellsUptoSaid : Prop := horizonTellsUptoRow.holds Tryd.pinned (OpenSpec.upto horizonTellsSpec)

/-- 'lookoutlaw11.HorizonNames', WHERE WHAT IT READS IS OF BULK AT MOST 1048576: true; the input reads as it did. -/
def horizonNamesUptoRow : OpenClaim := { program := "ytnpcakakjhiboaadoor", sum := "8287bc7fd1a94854febd4a6eb84044001058dfb8b5f8357697afbf56db0be6b6", func := "lookout/lookoutlaw11.HorizonNames", spec := "horizonNames", unfollowed := true, recurses := true, named := ["lookout/formula.shapes"], loops := true, plainKeys := false, apart := false, laid := [("lookout/formula.shapes", laid_lookout_formula_shapes)], narrowed := true }
def HorizonNamesUptoSaid : Prop := horizonNamesUptoRow.holds Tryd.pinned (OpenSpec.upto horizonNamesSpec)

/-- 'lookoutlaw11.HorizonKids', WHERE WHAT IT READS IS OF BULK AT MOST 1048576: true; the input reads as it did. -/
def horizonKidsUptoRow : OpenClaim := { program := "ytnpcakakjhiboaadoor", sum := "8287bc7fd1a94854febd4a6eb84044001058dfb8b5f8357697afbf56db0be6b6", func := "lookout/lookoutlaw11.HorizonKids", spec := "horizonKids", unfollowed := true, recurses := true, named := ["lookout/formula.shapes"], loops := true, plainKeys := false, apart := false, laid := [("lookout/formula.shapes", laid_lookout_formula_shapes)], narrowed := true }
def HorizonKidsUptoSaid : Prop := horizonKidsUptoRow.holds Tryd.pinned (OpenSpec.upto horizonKidsSpec)

/-- 'lookoutlaw11.HorizonSpans', WHERE WHAT IT READS IS OF BULK AT MOST 1048576: true; the input reads as it did. -/
def horizonSpansUptoRow : OpenClaim := { program := "ytnpcakakjhiboaadoor", sum := "8287bc7fd1a94854febd4a6eb84044001058dfb8b5f8357697afbf56db0be6b6", func := "lookout/lookoutlaw11.HorizonSpans", spec := "horizonSpans", unfollowed := true, recurses := true, named := ["lookout/formula.shapes"], loops := true, plainKeys := false, apart := false, laid := [("lookout/formula.shapes", laid_lookout_formula_shapes)], narrowed := true }
def HorizonSpansUptoSaid : Prop := horizonSpansUptoRow.holds Tryd.pinned (OpenSpec.upto horizonSpansSpec)

/-- 'lookoutlaw11.HorizonJoins', WHERE WHAT IT READS IS OF BULK AT MOST 1048576: true; the input reads as it did. -/
def horizonJoinsUptoRow : OpenClaim := { program := "ytnpcakakjhiboaadoor", sum := "8287bc7fd1a94854febd4a6eb84044001058dfb8b5f8357697afbf56db0be6b6", func := "lookout/lookoutlaw11.HorizonJoins", spec := "horizonJoins", unfollowed := true, recurses := true, named := ["lookout/formula.shapes"], loops := true, plainKeys := false, apart := false, laid := [("lookout/formula.shapes", laid_lookout_formula_shapes)], narrowed := true }
def HorizonJoinsUptoSaid : Prop := horizonJoinsUptoRow.holds Tryd.pinned (OpenSpec.upto horizonJoinsSpec)

end Rows
end Go.Proofs.YtnpcakakjhiboaaDoor
