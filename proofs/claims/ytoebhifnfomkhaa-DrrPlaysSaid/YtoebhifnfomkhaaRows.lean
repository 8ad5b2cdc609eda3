/-
  No cell of these rows narrows 'for every input' (looked for: loops, veiled, ifaces, maps, wideKeys, modest, calm, conditions, laid).
  DERIVED. THE GIVEN ROWS OF THIS SEAT. 5 by the template 'for every input the law returns true; each argument reads behind the call as it read before'; 0 by the template 'total and deterministic' (their statements: YtoebhifnfomkhaaTotals.lean).
  GIVEN WITH THE SEED: the statements are not yours to turn. If you find one false, say at which input.
  Laid BY PROGRAM, IN A SANDBOX (cutbox-rows.mjs): the forced cells as the released guide's own fill.sh prints them over the translation d586c4b62ecf72f7… (all of the seat's roots in one cut). By AI agents, Wed Nov 11 2026. No macro, syntax, notation, axiom, sorry.
-/
import Derived.Test.YtoebhifnfomkhaaChecked
import GoSem.Claim
import GoSem.ClaimJoined
import GoSem.ClaimMapViews
import Derived.JoinedTies
import Derived.KernelRfl
namespace Go.Proofs.Ytoebhifnfomkhaa
/- THE CELL 'sum', in the pinned program and in every row, IS THE sha256 OF THE DUMP (.gsa) THAT YtoebhifnfomkhaaProg.lean LOADS. Nothing in Lean hashes anything: it is a label: what it is worth is what the hold of that sum in a sandbox is worth. -/
noncomputable def Try.pinned : Pinned := { name := "ytoebhifnfomkhaa", sum := "d586c4b62ecf72f7897c094ad4e937cb935c8ba7cf6e5ab80e8d4a0e6a47a9b0", checked := Try.checked }
namespace Rows
def none {H : Type} : Left H := { results := [], args := [] }

/-- 'lookoutlaw20.DrrServes': WHATEVER THE INPUT: true; the input reads as it did. -/
def drrServesSpec : ChangeSpec := { name := "drrServes", fn := fun _ => fun
  | [d1, d2, d3] => { results := [.lit (.bool true)], args := [d1, d2, d3] }
  | _ => none }
def drrServesRow : OpenClaim := { program := "ytoebhifnfomkhaa", sum := "d586c4b62ecf72f7897c094ad4e937cb935c8ba7cf6e5ab80e8d4a0e6a47a9b0", func := "lookout/lookoutlaw20.DrrServes", spec := "drrServes", apart := false }
def DrrServesSaid : Prop := drrServesRow.holds Try.pinned (OpenSpec.ofChange drrServesSpec)

/-- ITS FALSE NEIGHBOUR: 'it returns false'. Refute it at one input. -/
def drrServesWrong : ChangeSpec := { name := "drrServes", fn := fun _ => fun
  | [d1, d2, d3] => { results := [.lit (.bool false)], args := [d1, d2, d3] }
  | _ => none }
def DrrServesWrongFalsely : Prop := drrServesRow.holds Try.pinned (OpenSpec.ofChange drrServesWrong)

/-- 'lookoutlaw20.DrrFair': WHATEVER THE INPUT: true; the input reads as it did. -/
def drrFairSpec : ChangeSpec := { name := "drrFair", fn := fun _ => fun
  | [d1, d2, d3, d4, d5] => { results := [.lit (.bool true)], args := [d1, d2, d3, d4, d5] }
  | _ => none }
def drrFairRow : OpenClaim := { program := "ytoebhifnfomkhaa", sum := "d586c4b62ecf72f7897c094ad4e937cb935c8ba7cf6e5ab80e8d4a0e6a47a9b0", func := "lookout/lookoutlaw20.DrrFair", spec := "drrFair", apart := false }
def DrrFairSaid : Prop := drrFairRow.holds Try.pinned (OpenSpec.ofChange drrFairSpec)

/-- ITS FALSE NEIGHBOUR: 'it returns false'. Refute it at one input. -/
def drrFairWrong : ChangeSpec := { name := "drrFair", fn := fun _ => fun
  | [d1, d2, d3, d4, d5] => { results := [.lit (.bool false)], args := [d1, d2, d3, d4, d5] }
  | _ => none }
def DrrFairWrongFalsely : Prop := drrFairRow.holds Try.pinned (OpenSpec.ofChange drrFairWrong)

/-- 'lookoutlaw20.DrrPlays': WHATEVER THE INPUT: true; the input reads as it did. -/
def drrPlaysSpec : ChangeSpec := { name := "drrPlays", fn := fun _ => fun
  | [d1, d2, d3] => { results := [.lit (.bool true)], args := [d1, d2, d3] }
  | _ => none }
def drrPlaysRow : OpenClaim := { program := "ytoebhifnfomkhaa", sum := "d586c4b62ecf72f7897c094ad4e937cb935c8ba7cf6e5ab80e8d4a0e6a47a9b0", func := "lookout/lookoutlaw20.DrrPlays", spec := "drrPlays", apart := false }
def DrrPlaysSaid : Prop := drrPlaysRow.holds Try.pinned (OpenSpec.ofChange drrPlaysSpec)

/-- ITS FALSE NEIGHBOUR: 'it returns false'. Refute it at one input. -/
def drrPlaysWrong : ChangeSpec := { name := "drrPlays", fn := fun _ => fun
  | [d1, d2, d3] => { results := [.lit (.bool false)], args := [d1, d2, d3] }
  | _ => none }
def DrrPlaysWrongFalsely : Prop := drrPlaysRow.holds Try.pinned (OpenSpec.ofChange drrPlaysWrong)

/-- 'lookoutlaw20.DrrAlone': WHATEVER THE INPUT: true; the input reads as it did. -/
def drrAloneSpec : ChangeSpec := { name := "drrAlone", fn := fun _ => fun
  | [d1, d2, d3, d4] => { results := [.lit (.bool true)], args := [d1, d2, d3, d4] }
  | _ => none }
def drrAloneRow : OpenClaim := { program := "ytoebhifnfomkhaa", sum := "d586c4b62ecf72f7897c094ad4e937cb935c8ba7cf6e5ab80e8d4a0e6a47a9b0", func := "lookout/lookoutlaw20.DrrAlone", spec := "drrAlone", apart := false }
def DrrAloneSaid : Prop := drrAloneRow.holds Try.pinned (OpenSpec.ofChange drrAloneSpec)

/-- ITS FALSE NEIGHBOUR: 'it returns false'. Refute it at one input. -/
def drrAloneWrong : ChangeSpec := { name := "drrAlone", fn := fun _ => fun
  | [d1, d2, d3, d4] => { results := [.lit (.bool false)], args := [d1, d2, d3, d4] }
  | _ => none }
def DrrAloneWrongFalsely : Prop := drrAloneRow.holds Try.pinned (OpenSpec.ofChange drrAloneWrong)

/-- 'lookoutlaw20.DrrClamps': WHATEVER THE INPUT: true; the input reads as it did. -/
def drrClampsSpec : ChangeSpec := { name := "drrClamps", fn := fun _ => fun
  | [d1, d2, d3] => { results := [.lit (.bool true)], args := [d1, d2, d3] }
  | _ => none }
def drrClampsRow : OpenClaim := { program := "ytoebhifnfomkhaa", sum := "d586c4b62ecf72f7897c094ad4e937cb935c8ba7cf6e5ab80e8d4a0e6a47a9b0", func := "lookout/lookoutlaw20.DrrClamps", spec := "drrClamps", apart := false }
def DrrClampsSaid : Prop := drrClampsRow.holds Try.pinned (OpenSpec.ofChange drrClampsSpec)

/-- ITS FALSE NEIGHBOUR: 'it returns false'. Refute it at one input. -/
def drrClampsWrong : ChangeSpec := { name := "drrClamps", fn := fun _ => fun
  | [d1, d2, d3] => { results := [.lit (.bool false)], args := [d1, d2, d3] }
  | _ => none }
def DrrClampsWrongFalsely : Prop := drrClampsRow.holds Try.pinned (OpenSpec.ofChange drrClampsWrong)

/- THE SECOND FORM. 'bulk': how many values and letters a reading holds, each counted each time it is reached (what is shared counts as often as it is met; a slice's spare places count too). A statement '..UptoSaid' is the law's where the arguments, and the package variables that the reading takes, are together of bulk at most 1048576: NARROWER than '..Said'. Prove '..Said' where nothing that the law and all that it calls make is longer than what came in: it says more and counts as full. Else prove '..UptoSaid'. A law counts once. -/
mutual
def uptoBulk {H : Type} : DataW H → Nat
  | .lit (.string bytes) => bytes.length + 1
  | .lit _ => 1
  | .nil => 1
  | .ptr d => uptoBulk d + 1
  | .slice elems spare => uptoBulkAll elems + uptoBulkAll spare + 1
  | .agg parts => uptoBulkAll parts + 1
  | .iface _ d => uptoBulk d + 1
  | .map entries => uptoBulkEntries entries + 1
  | .held _ => 1
def uptoBulkAll {H : Type} : List (DataW H) → Nat
  | [] => 0
  | d :: r => uptoBulk d + uptoBulkAll r
def uptoBulkEntries {H : Type} : List (Lit × DataW H) → Nat
  | [] => 0
  | x :: r => uptoBulkEntry x + uptoBulkEntries r
def uptoBulkEntry {H : Type} : Lit × DataW H → Nat
  | (.string bytes, d) => bytes.length + uptoBulk d + 1
  | (_, d) => uptoBulk d + 1
 end
def uptoSmall : (H : Type) → List (DataW H) → Bool := fun _ ds => decide (uptoBulkAll ds ≤ 1048576)
def OpenSpec.upto (s : _root_.Go.ChangeSpec) : _root_.Go.OpenSpec := { _root_.Go.OpenSpec.ofChange s with cond := some uptoSmall }

/-- 'lookoutlaw20.DrrServes', WHERE WHAT IT READS IS OF BULK AT MOST 1048576: true; the input reads as it did. -/
def drrServesUptoRow : OpenClaim := { program := "ytoebhifnfomkhaa", sum := "d586c4b62ecf72f7897c094ad4e937cb935c8ba7cf6e5ab80e8d4a0e6a47a9b0", func := "lookout/lookoutlaw20.DrrServes", spec := "drrServes", apart := false, narrowed := true }
def DrrServesUptoSaid : Prop := drrServesUptoRow.holds Try.pinned (OpenSpec.upto drrServesSpec)

/-- 'lookoutlaw20.DrrFair', WHERE WHAT IT READS IS OF BULK AT MOST 1048576: true; the input reads as it did. -/
def drrFairUptoRow : OpenClaim := { program := "ytoebhifnfomkhaa", sum := "d586c4b62ecf72f7897c094ad4e937cb935c8ba7cf6e5ab80e8d4a0e6a47a9b0", func := "lookout/lookoutlaw20.DrrFair", spec := "drrFair", apart := false, narrowed := true }
def DrrFairUptoSaid : Prop := drrFairUptoRow.holds Try.pinned (OpenSpec.upto drrFairSpec)

/-- 'lookoutlaw20.DrrPlays', WHERE WHAT IT READS IS OF BULK AT MOST 1048576: true; the input reads as it did. -/
def drrPlaysUptoRow : OpenClaim := { program := "ytoebhifnfomkhaa", sum := "d586c4b62ecf72f7897c094ad4e937cb935c8ba7cf6e5ab80e8d4a0e6a47a9b0", func := "lookout/lookoutlaw20.DrrPlays", spec := "drrPlays", apart := false, narrowed := true }
def DrrPlaysUptoSaid : Prop := drrPlaysUptoRow.holds Try.pinned (OpenSpec.upto drrPlaysSpec)

/-- 'lookoutlaw20.DrrAlone', WHERE WHAT IT READS IS OF BULK AT MOST 1048576: true; the input reads as it did. -/
def drrAloneUptoRow : OpenClaim := { program := "ytoebhifnfomkhaa", sum := "d586c4b62ecf72f7897c094ad4e937cb935c8ba7cf6e5ab80e8d4a0e6a47a9b0", func := "lookout/lookoutlaw20.DrrAlone", spec := "drrAlone", apart := false, narrowed := true }
def DrrAloneUptoSaid : Prop := drrAloneUptoRow.holds Try.pinned (OpenSpec.upto drrAloneSpec)

/-- 'lookoutlaw20.DrrClamps', WHERE WHAT IT READS IS OF BULK AT MOST 1048576: true; the input reads as it did. -/
def drrClampsUptoRow : OpenClaim := { program := "ytoebhifnfomkhaa", sum := "d586c4b62ecf72f7897c094ad4e937cb935c8ba7cf6e5ab80e8d4a0e6a47a9b0", func := "lookout/lookoutlaw20.DrrClamps", spec := "drrClamps", apart := false, narrowed := true }
def DrrClampsUptoSaid : Prop := drrClampsUptoRow.holds Try.pinned (OpenSpec.upto drrClampsSpec)

end Rows
end Go.Proofs.Ytoebhifnfomkhaa
