/-
  No cell of these rows narrows 'for every input' (looked for: loops, veiled, ifaces, maps, wideKeys, modest, calm, conditions, laid).
  DERIVED. THE GIVEN ROWS OF THIS SEAT. 4 by the template 'for every input the law returns true; each argument reads behind the call as it read before'; 0 by the template 'total and deterministic' (their statements: YtilhioiocfllhaaTotals.lean).
  GIVEN WITH THE SEED: the statements are not yours to turn. If you find one false, say at which input.
  Laid BY PROGRAM, IN A SANDBOX (cutbox-rows.mjs): the forced cells as the released guide's own fill.sh prints them over the translation a9721c577dd45368… (all of the seat's roots in one cut). By AI agents, Wed Nov 11 2026. No macro, syntax, notation, axiom, sorry.
-/
import Derived.Test.YtilhioiocfllhaaChecked
import GoSem.Claim
import GoSem.ClaimJoined
import GoSem.ClaimMapViews
import Derived.JoinedTies
import Derived.KernelRfl
namespace Go.Proofs.Ytilhioiocfllhaa
/- THE CELL 'sum', in the pinned program and in every row, IS THE sha256 OF THE DUMP (.gsa) THAT YtilhioiocfllhaaProg.lean LOADS. Nothing in Lean hashes anything: it is a label: what it is worth is what the hold of that sum in a sandbox is worth. -/
noncomputable def Try.pinned : Pinned := { name := "ytilhioiocfllhaa", sum := "a9721c577dd4536870a7fdf8de2cdd218255c68a60c3576c0d008ac529e96408", checked := Try.checked }
namespace Rows
def none {H : Type} : Left H := { results := [], args := [] }

/-- 'linkboylaw06.SumsCheck': WHATEVER THE INPUT: true; the input reads as it did. -/
def sumsCheckSpec : ChangeSpec := { name := "sumsCheck", fn := fun _ => fun
  | [d1, d2] => { results := [.lit (.bool true)], args := [d1, d2] }
  | _ => none }
def sumsCheckRow : OpenClaim := { program := "ytilhioiocfllhaa", sum := "a9721c577dd4536870a7fdf8de2cdd218255c68a60c3576c0d008ac529e96408", func := "linkboy/linkboylaw06.SumsCheck", spec := "sumsCheck", unfollowed := true, recurses := true, apart := false }
def SumsCheckSaid : Prop := sumsCheckRow.holds Try.pinned (OpenSpec.ofChange sumsCheckSpec)

/-- ITS FALSE NEIGHBOUR: 'it returns false'. Refute it at one input. -/
def sumsCheckWrong : ChangeSpec := { name := "sumsCheck", fn := fun _ => fun
  | [d1, d2] => { results := [.lit (.bool false)], args := [d1, d2] }
  | _ => none }
def SumsCheckWrongFalsely : Prop := sumsCheckRow.holds Try.pinned (OpenSpec.ofChange sumsCheckWrong)

/-- 'linkboylaw06.SumsChange': WHATEVER THE INPUT: true; the input reads as it did. -/
def sumsChangeSpec : ChangeSpec := { name := "sumsChange", fn := fun _ => fun
  | [d1, d2, d3] => { results := [.lit (.bool true)], args := [d1, d2, d3] }
  | _ => none }
def sumsChangeRow : OpenClaim := { program := "ytilhioiocfllhaa", sum := "a9721c577dd4536870a7fdf8de2cdd218255c68a60c3576c0d008ac529e96408", func := "linkboy/linkboylaw06.SumsChange", spec := "sumsChange", unfollowed := true, recurses := true, apart := false }
def SumsChangeSaid : Prop := sumsChangeRow.holds Try.pinned (OpenSpec.ofChange sumsChangeSpec)

/-- ITS FALSE NEIGHBOUR: 'it returns false'. Refute it at one input. -/
def sumsChangeWrong : ChangeSpec := { name := "sumsChange", fn := fun _ => fun
  | [d1, d2, d3] => { results := [.lit (.bool false)], args := [d1, d2, d3] }
  | _ => none }
def SumsChangeWrongFalsely : Prop := sumsChangeRow.holds Try.pinned (OpenSpec.ofChange sumsChangeWrong)

/-- 'linkboylaw06.SumsChanged': WHATEVER THE INPUT: true; the input reads as it did. -/
def sumsChangedSpec : ChangeSpec := { name := "sumsChanged", fn := fun _ => fun
  | [d1, d2, d3] => { results := [.lit (.bool true)], args := [d1, d2, d3] }
  | _ => none }
def sumsChangedRow : OpenClaim := { program := "ytilhioiocfllhaa", sum := "a9721c577dd4536870a7fdf8de2cdd218255c68a60c3576c0d008ac529e96408", func := "linkboy/linkboylaw06.SumsChanged", spec := "sumsChanged", unfollowed := true, recurses := true, apart := false }
def SumsChangedSaid : Prop := sumsChangedRow.holds Try.pinned (OpenSpec.ofChange sumsChangedSpec)

/-- ITS FALSE NEIGHBOUR: 'it returns false'. Refute it at one input. -/
def sumsChangedWrong : ChangeSpec := { name := "sumsChanged", fn := fun _ => fun
  | [d1, d2, d3] => { results := [.lit (.bool false)], args := [d1, d2, d3] }
  | _ => none }
def SumsChangedWrongFalsely : Prop := sumsChangedRow.holds Try.pinned (OpenSpec.ofChange sumsChangedWrong)

/-- 'linkboylaw06.SumsPseudo': WHATEVER THE INPUT: true; the input reads as it did. -/
def sumsPseudoSpec : ChangeSpec := { name := "sumsPseudo", fn := fun _ => fun
  | [d1, d2, d3] => { results := [.lit (.bool true)], args := [d1, d2, d3] }
  | _ => none }
def sumsPseudoRow : OpenClaim := { program := "ytilhioiocfllhaa", sum := "a9721c577dd4536870a7fdf8de2cdd218255c68a60c3576c0d008ac529e96408", func := "linkboy/linkboylaw06.SumsPseudo", spec := "sumsPseudo", unfollowed := true, recurses := true, apart := false }
def SumsPseudoSaid : Prop := sumsPseudoRow.holds Try.pinned (OpenSpec.ofChange sumsPseudoSpec)

/-- ITS FALSE NEIGHBOUR: 'it returns false'. Refute it at one input. -/
def sumsPseudoWrong : ChangeSpec := { name := "sumsPseudo", fn := fun _ => fun
  | [d1, d2, d3] => { results := [.lit (.bool false)], args := [d1, d2, d3] }
  | _ => none }
def SumsPseudoWrongFalsely : Prop := sumsPseudoRow.holds Try.pinned (OpenSpec.ofChange sumsPseudoWrong)

/- THE SECOND FORM. 'bulk': how many values and letters a reading holds, each counted each time it is reached (what is shared counts as often as it is met; a slice's spare places count too). A statement '..UptoSaid' is the law's where the arguments, and the package variables that the reading takes, are together of bulk at most 1048576: NARROWER than '..Said'. Prove '..Said' where nothing that the law and all that it calls make is longer than what came in: it says more and counts as full. Else prove '..UptoSaid'. A law counts once. -/
mutual
def uptoBulk {H : Type} : DataW H → Nat
  | .lit (.string bytes) => bytes.length + 1
  | .lit _ => 1
  | .nil => 1
  | .ptr d => uptoBulk d + 1
  | .slice elems spare => uptoBulkAll elems + uptoBulkAll spare + 1
  | .agg parts => uptoBulkAll parts + 1
  | .iface _ d => uptoBulk d + 1
  | .map entries => uptoBulkEntries entries + 1
  | .held _ => 1
def uptoBulkAll {H : Type} : List (DataW H) → Nat
  | [] => 0
  | d :: r => uptoBulk d + uptoBulkAll r
def uptoBulkEntries {H : Type} : List (Lit × DataW H) → Nat
  | [] => 0
  | x :: r => uptoBulkEntry x + uptoBulkEntries r
def uptoBulkEntry {H : Type} : Lit × DataW H → Nat
  | (.string bytes, d) => bytes.length + uptoBulk d + 1
  | (_, d) => uptoBulk d + 1
 end
def uptoSmall : (H : Type) → List (DataW H) → Bool := fun _ ds => decide (uptoBulkAll ds ≤ 1048576)
def OpenSpec.upto (s : _root_.Go.ChangeSpec) : _root_.Go.OpenSpec := { _root_.Go.OpenSpec.ofChange s with cond := some uptoSmall }

/-- 'linkboylaw06.SumsCheck', WHERE WHAT IT READS IS OF BULK AT MOST 1048576: true; the input reads as it did. -/
def sumsCheckUptoRow : OpenClaim := { program := "ytilhioiocfllhaa", sum := "a9721c577dd4536870a7fdf8de2cdd218255c68a60c3576c0d008ac529e96408", func := "linkboy/linkboylaw06.SumsCheck", spec := "sumsCheck", unfollowed := true, recurses := true, apart := false, narrowed := true }
def SumsCheckUptoSaid : Prop := sumsCheckUptoRow.holds Try.pinned (OpenSpec.upto sumsCheckSpec)

/-- 'linkboylaw06.SumsChange', WHERE WHAT IT READS IS OF BULK AT MOST 1048576: true; the input reads as it did. -/
def sumsChangeUptoRow : OpenClaim := { program := "ytilhioiocfllhaa", sum := "a9721c577dd4536870a7fdf8de2cdd218255c68a60c3576c0d008ac529e96408", func := "linkboy/linkboylaw06.SumsChange", spec := "sumsChange", unfollowed := true, recurses := true, apart := false, narrowed := true }
def SumsChangeUptoSaid : Prop := sumsChangeUptoRow.holds Try.pinned (OpenSpec.upto sumsChangeSpec)

/-- 'linkboylaw06.SumsChanged', WHERE WHAT IT READS IS OF BULK AT MOST 1048576: true; the input reads as it did. -/
def sumsChangedUptoRow : OpenClaim := { program := "ytilhioiocfllhaa", sum := "a9721c577dd4536870a7fdf8de2cdd218255c68a60c3576c0d008ac529e96408", func := "linkboy/linkboylaw06.SumsChanged", spec := "sumsChanged", unfollowed := true, recurses := true, apart := false, narrowed := true }
def SumsChangedUptoSaid : Prop := sumsChangedUptoRow.holds Try.pinned (OpenSpec.upto sumsChangedSpec)

/-- 'linkboylaw06.SumsPseudo', WHERE WHAT IT READS IS OF BULK AT MOST 1048576: true; the input reads as it did. -/
def sumsPseudoUptoRow : OpenClaim := { program := "ytilhioiocfllhaa", sum := "a9721c577dd4536870a7fdf8de2cdd218255c68a60c3576c0d008ac529e96408", func := "linkboy/linkboylaw06.SumsPseudo", spec := "sumsPseudo", unfollowed := true, recurses := true, apart := false, narrowed := true }
def SumsPseudoUptoSaid : Prop := sumsPseudoUptoRow.holds Try.pinned (OpenSpec.upto sumsPseudoSpec)

end Rows
end Go.Proofs.Ytilhioiocfllhaa
