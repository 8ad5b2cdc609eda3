/-
  No cell of these rows narrows 'for every input' (looked for: loops, veiled, ifaces, maps, wideKeys, modest, calm, conditions, laid).
  DERIVED. THE GIVEN ROWS OF THIS SEAT. 5 by the template 'for every input the law returns true; each argument reads behind the call as it read before'; 0 by the template 'total and deterministic' (their statements: YtfaicdhkgicnkaaTotals.lean).
  GIVEN WITH THE SEED: the statements are not yours to turn. If you find one false, say at which input.
  Laid BY PROGRAM, IN A SANDBOX (cutbox-rows.mjs): the forced cells as the released guide's own fill.sh prints them over the translation 59436f0ab9e52d60… (all of the seat's roots in one cut). By AI agents, Wed Nov 11 2026. No macro, syntax, notation, axiom, sorry.
-/
import Derived.Test.YtfaicdhkgicnkaaChecked
import GoSem.Claim
import GoSem.ClaimJoined
import GoSem.ClaimMapViews
import Derived.JoinedTies
import Derived.KernelRfl
namespace Go.Proofs.Ytfaicdhkgicnkaa
/- THE CELL 'sum', in the pinned program and in every row, IS THE sha256 OF THE DUMP (.gsa) THAT YtfaicdhkgicnkaaProg.lean LOADS. Nothing in Lean hashes anything: it is a label: what it is worth is what the hold of that sum in a sandbox is worth. -/
noncomputable def Try.pinned : Pinned := { name := "ytfaicdhkgicnkaa", sum := "59436f0ab9e52d607aa63fe293976287bfc1fba57b147ed88e9c6239b1047687", checked := Try.checked }
namespace Rows
def none {H : Type} : Left H := { results := [], args := [] }

/-- 'lookoutlaw19.SessionBeats': WHATEVER THE INPUT: true; the input reads as it did. -/
def sessionBeatsSpec : ChangeSpec := { name := "sessionBeats", fn := fun _ => fun
  | [d1, d2, d3] => { results := [.lit (.bool true)], args := [d1, d2, d3] }
  | _ => none }
def sessionBeatsRow : OpenClaim := { program := "ytfaicdhkgicnkaa", sum := "59436f0ab9e52d607aa63fe293976287bfc1fba57b147ed88e9c6239b1047687", func := "lookout/lookoutlaw19.SessionBeats", spec := "sessionBeats", apart := false }
def SessionBeatsSaid : Prop := sessionBeatsRow.holds Try.pinned (OpenSpec.ofChange sessionBeatsSpec)

/-- ITS FALSE NEIGHBOUR: 'it returns false'. Refute it at one input. -/
def sessionBeatsWrong : ChangeSpec := { name := "sessionBeats", fn := fun _ => fun
  | [d1, d2, d3] => { results := [.lit (.bool false)], args := [d1, d2, d3] }
  | _ => none }
def SessionBeatsWrongFalsely : Prop := sessionBeatsRow.holds Try.pinned (OpenSpec.ofChange sessionBeatsWrong)

/-- 'lookoutlaw19.SessionPlays': WHATEVER THE INPUT: true; the input reads as it did. -/
def sessionPlaysSpec : ChangeSpec := { name := "sessionPlays", fn := fun _ => fun
  | [d] => { results := [.lit (.bool true)], args := [d] }
  | _ => none }
def sessionPlaysRow : OpenClaim := { program := "ytfaicdhkgicnkaa", sum := "59436f0ab9e52d607aa63fe293976287bfc1fba57b147ed88e9c6239b1047687", func := "lookout/lookoutlaw19.SessionPlays", spec := "sessionPlays", apart := false }
def SessionPlaysSaid : Prop := sessionPlaysRow.holds Try.pinned (OpenSpec.ofChange sessionPlaysSpec)

/-- ITS FALSE NEIGHBOUR: 'it returns false'. Refute it at one input. -/
def sessionPlaysWrong : ChangeSpec := { name := "sessionPlays", fn := fun _ => fun
  | [d] => { results := [.lit (.bool false)], args := [d] }
  | _ => none }
def SessionPlaysWrongFalsely : Prop := sessionPlaysRow.holds Try.pinned (OpenSpec.ofChange sessionPlaysWrong)

/-- 'lookoutlaw19.SessionTimes': WHATEVER THE INPUT: true; the input reads as it did. -/
def sessionTimesSpec : ChangeSpec := { name := "sessionTimes", fn := fun _ => fun
  | [d] => { results := [.lit (.bool true)], args := [d] }
  | _ => none }
def sessionTimesRow : OpenClaim := { program := "ytfaicdhkgicnkaa", sum := "59436f0ab9e52d607aa63fe293976287bfc1fba57b147ed88e9c6239b1047687", func := "lookout/lookoutlaw19.SessionTimes", spec := "sessionTimes", apart := false }
def SessionTimesSaid : Prop := sessionTimesRow.holds Try.pinned (OpenSpec.ofChange sessionTimesSpec)

/-- ITS FALSE NEIGHBOUR: 'it returns false'. Refute it at one input. -/
def sessionTimesWrong : ChangeSpec := { name := "sessionTimes", fn := fun _ => fun
  | [d] => { results := [.lit (.bool false)], args := [d] }
  | _ => none }
def SessionTimesWrongFalsely : Prop := sessionTimesRow.holds Try.pinned (OpenSpec.ofChange sessionTimesWrong)

/-- 'lookoutlaw19.SessionNumbers': WHATEVER THE INPUT: true; the input reads as it did. -/
def sessionNumbersSpec : ChangeSpec := { name := "sessionNumbers", fn := fun _ => fun
  | [d] => { results := [.lit (.bool true)], args := [d] }
  | _ => none }
def sessionNumbersRow : OpenClaim := { program := "ytfaicdhkgicnkaa", sum := "59436f0ab9e52d607aa63fe293976287bfc1fba57b147ed88e9c6239b1047687", func := "lookout/lookoutlaw19.SessionNumbers", spec := "sessionNumbers", apart := false }
def SessionNumbersSaid : Prop := sessionNumbersRow.holds Try.pinned (OpenSpec.ofChange sessionNumbersSpec)

/-- ITS FALSE NEIGHBOUR: 'it returns false'. Refute it at one input. -/
def sessionNumbersWrong : ChangeSpec := { name := "sessionNumbers", fn := fun _ => fun
  | [d] => { results := [.lit (.bool false)], args := [d] }
  | _ => none }
def SessionNumbersWrongFalsely : Prop := sessionNumbersRow.holds Try.pinned (OpenSpec.ofChange sessionNumbersWrong)

/-- 'lookoutlaw19.SessionStays': WHATEVER THE INPUT: true; the input reads as it did. -/
def sessionStaysSpec : ChangeSpec := { name := "sessionStays", fn := fun _ => fun
  | [d] => { results := [.lit (.bool true)], args := [d] }
  | _ => none }
def sessionStaysRow : OpenClaim := { program := "ytfaicdhkgicnkaa", sum := "59436f0ab9e52d607aa63fe293976287bfc1fba57b147ed88e9c6239b1047687", func := "lookout/lookoutlaw19.SessionStays", spec := "sessionStays", apart := false }
def SessionStaysSaid : Prop := sessionStaysRow.holds Try.pinned (OpenSpec.ofChange sessionStaysSpec)

/-- ITS FALSE NEIGHBOUR: 'it returns false'. Refute it at one input. -/
def sessionStaysWrong : ChangeSpec := { name := "sessionStays", fn := fun _ => fun
  | [d] => { results := [.lit (.bool false)], args := [d] }
  | _ => none }
def SessionStaysWrongFalsely : Prop := sessionStaysRow.holds Try.pinned (OpenSpec.ofChange sessionStaysWrong)

/- THE SECOND FORM. 'bulk': how many values and letters a reading holds, each counted each time it is reached (what is shared counts as often as it is met; a slice's spare places count too). A statement '..UptoSaid' is the law's where the arguments, and the package variables that the reading takes, are together of bulk at most 1048576: NARROWER than '..Said'. Prove '..Said' where nothing that the law and all that it calls make is longer than what came in: it says more and counts as full. Else prove '..UptoSaid'. A law counts once. -/
mutual
def uptoBulk {H : Type} : DataW H → Nat
  | .lit (.string bytes) => bytes.length + 1
  | .lit _ => 1
  | .nil => 1
  | .ptr d => uptoBulk d + 1
  | .slice elems spare => uptoBulkAll elems + uptoBulkAll spare + 1
  | .agg parts => uptoBulkAll parts + 1
  | .iface _ d => uptoBulk d + 1
  | .map entries => uptoBulkEntries entries + 1
  | .held _ => 1
def uptoBulkAll {H : Type} : List (DataW H) → Nat
  | [] => 0
  | d :: r => uptoBulk d + uptoBulkAll r
def uptoBulkEntries {H : Type} : List (Lit × DataW H) → Nat
  | [] => 0
  | x :: r => uptoBulkEntry x + uptoBulkEntries r
def uptoBulkEntry {H : Type} : Lit × DataW H → Nat
  | (.string bytes, d) => bytes.length + uptoBulk d + 1
  | (_, d) => uptoBulk d + 1
 end
def uptoSmall : (H : Type) → List (DataW H) → Bool := fun _ ds => decide (uptoBulkAll ds ≤ 1048576)
def OpenSpec.upto (s : _root_.Go.ChangeSpec) : _root_.Go.OpenSpec := { _root_.Go.OpenSpec.ofChange s with cond := some uptoSmall }

/-- 'lookoutlaw19.SessionBeats', WHERE WHAT IT READS IS OF BULK AT MOST 1048576: true; the input reads as it did. -/
def sessionBeatsUptoRow : OpenClaim := { program := "ytfaicdhkgicnkaa", sum := "59436f0ab9e52d607aa63fe293976287bfc1fba57b147ed88e9c6239b1047687", func := "lookout/lookoutlaw19.SessionBeats", spec := "sessionBeats", apart := false, narrowed := true }
def SessionBeatsUptoSaid : Prop := sessionBeatsUptoRow.holds Try.pinned (OpenSpec.upto sessionBeatsSpec)

/-- 'lookoutlaw19.SessionPlays', WHERE WHAT IT READS IS OF BULK AT MOST 1048576: true; the input reads as it did. -/
def sessionPlaysUptoRow : OpenClaim := { program := "ytfaicdhkgicnkaa", sum := "59436f0ab9e52d607aa63fe293976287bfc1fba57b147ed88e9c6239b1047687", func := "lookout/lookoutlaw19.SessionPlays", spec := "sessionPlays", apart := false, narrowed := true }
def SessionPlaysUptoSaid : Prop := sessionPlaysUptoRow.holds Try.pinned (OpenSpec.upto sessionPlaysSpec)

/-- 'lookoutlaw19.SessionTimes', WHERE WHAT IT READS IS OF BULK AT MOST 1048576: true; the input reads as it did. -/
def sessionTimesUptoRow : OpenClaim := { program := "ytfaicdhkgicnkaa", sum := "59436f0ab9e52d607aa63fe293976287bfc1fba57b147ed88e9c6239b1047687", func := "lookout/lookoutlaw19.SessionTimes", spec := "sessionTimes", apart := false, narrowed := true }
def SessionTimesUptoSaid : Prop := sessionTimesUptoRow.holds Try.pinned (OpenSpec.upto sessionTimesSpec)

/-- 'lookoutlaw19.SessionNumbers', WHERE WHAT IT READS IS OF BULK AT MOST 1048576: true; the input reads as it did. -/
def sessionNumbersUptoRow : OpenClaim := { program := "ytfaicdhkgicnkaa", sum := "59436f0ab9e52d607aa63fe293976287bfc1fba57b147ed88e9c6239b1047687", func := "lookout/lookoutlaw19.SessionNumbers", spec := "sessionNumbers", apart := false, narrowed := true }
def SessionNumbersUptoSaid : Prop := sessionNumbersUptoRow.holds Try.pinned (OpenSpec.upto sessionNumbersSpec)

/-- 'lookoutlaw19.SessionStays', WHERE WHAT IT READS IS OF BULK AT MOST 1048576: true; the input reads as it did. -/
def sessionStaysUptoRow : OpenClaim := { program := "ytfaicdhkgicnkaa", sum := "59436f0ab9e52d607aa63fe293976287bfc1fba57b147ed88e9c6239b1047687", func := "lookout/lookoutlaw19.SessionStays", spec := "sessionStays", apart := false, narrowed := true }
def SessionStaysUptoSaid : Prop := sessionStaysUptoRow.holds Try.pinned (OpenSpec.upto sessionStaysSpec)

end Rows
end Go.Proofs.Ytfaicdhkgicnkaa
