/-
  No cell of these rows narrows 'for every input' (looked for: loops, veiled, ifaces, maps, wideKeys, modest, calm, conditions, laid).
  DERIVED. THE GIVEN ROWS OF THIS SEAT. 4 by the template 'for every input the law returns true; each argument reads behind the call as it read before'; 0 by the template 'total and deterministic' (their statements: YtifdbjombgcfcaaTotals.lean).
  GIVEN WITH THE SEED: the statements are not yours to turn. If you find one false, say at which input.
  Laid BY PROGRAM, IN A SANDBOX (cutbox-rows.mjs): the forced cells as the released guide's own fill.sh prints them over the translation f03d9e01021934a8… (all of the seat's roots in one cut). By AI agents, Wed Nov 11 2026. No macro, syntax, notation, axiom, sorry.
-/
import Derived.Test.YtifdbjombgcfcaaChecked
import GoSem.Claim
import GoSem.ClaimJoined
import GoSem.ClaimMapViews
import Derived.JoinedTies
import Derived.KernelRfl
namespace Go.Proofs.Ytifdbjombgcfcaa
/- THE CELL 'sum', in the pinned program and in every row, IS THE sha256 OF THE DUMP (.gsa) THAT YtifdbjombgcfcaaProg.lean LOADS. Nothing in Lean hashes anything: it is a label: what it is worth is what the hold of that sum in a sandbox is worth. -/
noncomputable def Try.pinned : Pinned := { name := "ytifdbjombgcfcaa", sum := "f03d9e01021934a8557322639f1dc919aa6491d1c9b93684ce948df97c664cbb", checked := Try.checked }
namespace Rows
def none {H : Type} : Left H := { results := [], args := [] }

/-- 'linkboylaw07.HashUnlike': WHATEVER THE INPUT: true; the input reads as it did. -/
def hashUnlikeSpec : ChangeSpec := { name := "hashUnlike", fn := fun _ => fun
  | [d1, d2] => { results := [.lit (.bool true)], args := [d1, d2] }
  | _ => none }
def hashUnlikeRow : OpenClaim := { program := "ytifdbjombgcfcaa", sum := "f03d9e01021934a8557322639f1dc919aa6491d1c9b93684ce948df97c664cbb", func := "linkboy/linkboylaw07.HashUnlike", spec := "hashUnlike", apart := false }
def HashUnlikeSaid : Prop := hashUnlikeRow.holds Try.pinned (OpenSpec.ofChange hashUnlikeSpec)

/-- ITS FALSE NEIGHBOUR: 'it returns false'. Refute it at one input. -/
def hashUnlikeWrong : ChangeSpec := { name := "hashUnlike", fn := fun _ => fun
  | [d1, d2] => { results := [.lit (.bool false)], args := [d1, d2] }
  | _ => none }
def HashUnlikeWrongFalsely : Prop := hashUnlikeRow.holds Try.pinned (OpenSpec.ofChange hashUnlikeWrong)

/-- 'linkboylaw07.HashBytes': WHATEVER THE INPUT: true; the input reads as it did. -/
def hashBytesSpec : ChangeSpec := { name := "hashBytes", fn := fun _ => fun
  | [d1, d2, d3] => { results := [.lit (.bool true)], args := [d1, d2, d3] }
  | _ => none }
def hashBytesRow : OpenClaim := { program := "ytifdbjombgcfcaa", sum := "f03d9e01021934a8557322639f1dc919aa6491d1c9b93684ce948df97c664cbb", func := "linkboy/linkboylaw07.HashBytes", spec := "hashBytes", apart := false }
def HashBytesSaid : Prop := hashBytesRow.holds Try.pinned (OpenSpec.ofChange hashBytesSpec)

/-- ITS FALSE NEIGHBOUR: 'it returns false'. Refute it at one input. -/
def hashBytesWrong : ChangeSpec := { name := "hashBytes", fn := fun _ => fun
  | [d1, d2, d3] => { results := [.lit (.bool false)], args := [d1, d2, d3] }
  | _ => none }
def HashBytesWrongFalsely : Prop := hashBytesRow.holds Try.pinned (OpenSpec.ofChange hashBytesWrong)

/-- 'linkboylaw07.HashMixes': WHATEVER THE INPUT: true; the input reads as it did. -/
def hashMixesSpec : ChangeSpec := { name := "hashMixes", fn := fun _ => fun
  | [d] => { results := [.lit (.bool true)], args := [d] }
  | _ => none }
def hashMixesRow : OpenClaim := { program := "ytifdbjombgcfcaa", sum := "f03d9e01021934a8557322639f1dc919aa6491d1c9b93684ce948df97c664cbb", func := "linkboy/linkboylaw07.HashMixes", spec := "hashMixes", apart := false }
def HashMixesSaid : Prop := hashMixesRow.holds Try.pinned (OpenSpec.ofChange hashMixesSpec)

/-- ITS FALSE NEIGHBOUR: 'it returns false'. Refute it at one input. -/
def hashMixesWrong : ChangeSpec := { name := "hashMixes", fn := fun _ => fun
  | [d] => { results := [.lit (.bool false)], args := [d] }
  | _ => none }
def HashMixesWrongFalsely : Prop := hashMixesRow.holds Try.pinned (OpenSpec.ofChange hashMixesWrong)

/-- 'linkboylaw07.HashTuples': WHATEVER THE INPUT: true; the input reads as it did. -/
def hashTuplesSpec : ChangeSpec := { name := "hashTuples", fn := fun _ => fun
  | [d1, d2] => { results := [.lit (.bool true)], args := [d1, d2] }
  | _ => none }
def hashTuplesRow : OpenClaim := { program := "ytifdbjombgcfcaa", sum := "f03d9e01021934a8557322639f1dc919aa6491d1c9b93684ce948df97c664cbb", func := "linkboy/linkboylaw07.HashTuples", spec := "hashTuples", apart := false }
def HashTuplesSaid : Prop := hashTuplesRow.holds Try.pinned (OpenSpec.ofChange hashTuplesSpec)

/-- ITS FALSE NEIGHBOUR: 'it returns false'. Refute it at one input. -/
def hashTuplesWrong : ChangeSpec := { name := "hashTuples", fn := fun _ => fun
  | [d1, d2] => { results := [.lit (.bool false)], args := [d1, d2] }
  | _ => none }
def HashTuplesWrongFalsely : Prop := hashTuplesRow.holds Try.pinned (OpenSpec.ofChange hashTuplesWrong)

/- THE SECOND FORM. 'bulk': how many values and letters a reading holds, each counted each time it is reached (what is shared counts as often as it is met; a slice's spare places count too). A statement '..UptoSaid' is the law's where the arguments, and the package variables that the reading takes, are together of bulk at most 1048576: NARROWER than '..Said'. Prove '..Said' where nothing that the law and all that it calls make is longer than what came in: it says more and counts as full. Else prove '..UptoSaid'. A law counts once. -/
mutual
def uptoBulk {H : Type} : DataW H → Nat
  | .lit (.string bytes) => bytes.length + 1
  | .lit _ => 1
  | .nil => 1
  | .ptr d => uptoBulk d + 1
  | .slice elems spare => uptoBulkAll elems + uptoBulkAll spare + 1
  | .agg parts => uptoBulkAll parts + 1
  | .iface _ d => uptoBulk d + 1
  | .map entries => uptoBulkEntries entries + 1
  | .held _ => 1
def uptoBulkAll {H : Type} : List (DataW H) → Nat
  | [] => 0
  | d :: r => uptoBulk d + uptoBulkAll r
def uptoBulkEntries {H : Type} : List (Lit × DataW H) → Nat
  | [] => 0
  | x :: r => uptoBulkEntry x + uptoBulkEntries r
def uptoBulkEntry {H : Type} : Lit × DataW H → Nat
  | (.string bytes, d) => bytes.length + uptoBulk d + 1
  | (_, d) => uptoBulk d + 1
 end
def uptoSmall : (H : Type) → List (DataW H) → Bool := fun _ ds => decide (uptoBulkAll ds ≤ 1048576)
def OpenSpec.upto (s : _root_.Go.ChangeSpec) : _root_.Go.OpenSpec := { _root_.Go.OpenSpec.ofChange s with cond := some uptoSmall }

/-- 'linkboylaw07.HashUnlike', WHERE WHAT IT READS IS OF BULK AT MOST 1048576: true; the input reads as it did. -/
def hashUnlikeUptoRow : OpenClaim := { program := "ytifdbjombgcfcaa", sum := "f03d9e01021934a8557322639f1dc919aa6491d1c9b93684ce948df97c664cbb", func := "linkboy/linkboylaw07.HashUnlike", spec := "hashUnlike", apart := false, narrowed := true }
def HashUnlikeUptoSaid : Prop := hashUnlikeUptoRow.holds Try.pinned (OpenSpec.upto hashUnlikeSpec)

/-- 'linkboylaw07.HashBytes', WHERE WHAT IT READS IS OF BULK AT MOST 1048576: true; the input reads as it did. -/
def hashBytesUptoRow : OpenClaim := { program := "ytifdbjombgcfcaa", sum := "f03d9e01021934a8557322639f1dc919aa6491d1c9b93684ce948df97c664cbb", func := "linkboy/linkboylaw07.HashBytes", spec := "hashBytes", apart := false, narrowed := true }
def HashBytesUptoSaid : Prop := hashBytesUptoRow.holds Try.pinned (OpenSpec.upto hashBytesSpec)

/-- 'linkboylaw07.HashMixes', WHERE WHAT IT READS IS OF BULK AT MOST 1048576: true; the input reads as it did. -/
def hashMixesUptoRow : OpenClaim := { program := "ytifdbjombgcfcaa", sum := "f03d9e01021934a8557322639f1dc919aa6491d1c9b93684ce948df97c664cbb", func := "linkboy/linkboylaw07.HashMixes", spec := "hashMixes", apart := false, narrowed := true }
def HashMixesUptoSaid : Prop := hashMixesUptoRow.holds Try.pinned (OpenSpec.upto hashMixesSpec)

/-- 'linkboylaw07.HashTuples', WHERE WHAT IT READS IS OF BULK AT MOST 1048576: true; the input reads as it did. -/
def hashTuplesUptoRow : OpenClaim := { program := "ytifdbjombgcfcaa", sum := "f03d9e01021934a8557322639f1dc919aa6491d1c9b93684ce948df97c664cbb", func := "linkboy/linkboylaw07.HashTuples", spec := "hashTuples", apart := false, narrowed := true }
def HashTuplesUptoSaid : Prop := hashTuplesUptoRow.holds Try.pinned (OpenSpec.upto hashTuplesSpec)

end Rows
end Go.Proofs.Ytifdbjombgcfcaa
