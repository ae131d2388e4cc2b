/-
  No cell of these rows narrows 'for every input' (looked for: loops, veiled, ifaces, maps, wideKeys, modest, calm, conditions, laid).
  DERIVED. THE GIVEN ROWS OF THIS SEAT. 4 by the template 'for every input the law returns true; each argument reads behind the call as it read before'; 0 by the template 'total and deterministic' (their statements: YtmjohallhdcdnaaTotals.lean).
  GIVEN WITH THE SEED: the statements are not yours to turn. If you find one false, say at which input.
  Laid BY PROGRAM, IN A SANDBOX (cutbox-rows.mjs): the forced cells as the released guide's own fill.sh prints them over the translation c04aeafb6c3b7147… (all of the seat's roots in one cut). By AI agents, Wed Nov 11 2026. No macro, syntax, notation, axiom, sorry.
-/
import Derived.Test.YtmjohallhdcdnaaChecked
import GoSem.Claim
import GoSem.ClaimJoined
import GoSem.ClaimMapViews
import Derived.JoinedTies
import Derived.KernelRfl
namespace Go.Proofs.Ytmjohallhdcdnaa
/- THE CELL 'sum', in the pinned program and in every row, IS THE sha256 OF THE DUMP (.gsa) THAT YtmjohallhdcdnaaProg.lean LOADS. Nothing in Lean hashes anything: it is a label: what it is worth is what the hold of that sum in a sandbox is worth. -/
noncomputable def Try.pinned : Pinned := { name := "ytmjohallhdcdnaa", sum := "c04aeafb6c3b714721e725a409010dc169b144ac5a522fe3d8f9177d2bf11ebd", checked := Try.checked }
namespace Rows
def none {H : Type} : Left H := { results := [], args := [] }

/-- 'gazettelaw09.RaftsnapPieces': WHATEVER THE INPUT: true; the input reads as it did. -/
def raftsnapPiecesSpec : ChangeSpec := { name := "raftsnapPieces", fn := fun _ => fun
  | [d1, d2, d3] => { results := [.lit (.bool true)], args := [d1, d2, d3] }
  | _ => none }
def raftsnapPiecesRow : OpenClaim := { program := "ytmjohallhdcdnaa", sum := "c04aeafb6c3b714721e725a409010dc169b144ac5a522fe3d8f9177d2bf11ebd", func := "gazette/gazettelaw09.RaftsnapPieces", spec := "raftsnapPieces", apart := false }
def RaftsnapPiecesSaid : Prop := raftsnapPiecesRow.holds Try.pinned (OpenSpec.ofChange raftsnapPiecesSpec)

/-- ITS FALSE NEIGHBOUR: 'it returns false'. Refute it at one input. -/
def raftsnapPiecesWrong : ChangeSpec := { name := "raftsnapPieces", fn := fun _ => fun
  | [d1, d2, d3] => { results := [.lit (.bool false)], args := [d1, d2, d3] }
  | _ => none }
def RaftsnapPiecesWrongFalsely : Prop := raftsnapPiecesRow.holds Try.pinned (OpenSpec.ofChange raftsnapPiecesWrong)

/-- 'gazettelaw09.RaftsnapTakes': WHATEVER THE INPUT: true; the input reads as it did. -/
def raftsnapTakesSpec : ChangeSpec := { name := "raftsnapTakes", fn := fun _ => fun
  | [d1, d2, d3] => { results := [.lit (.bool true)], args := [d1, d2, d3] }
  | _ => none }
def raftsnapTakesRow : OpenClaim := { program := "ytmjohallhdcdnaa", sum := "c04aeafb6c3b714721e725a409010dc169b144ac5a522fe3d8f9177d2bf11ebd", func := "gazette/gazettelaw09.RaftsnapTakes", spec := "raftsnapTakes", apart := false }
def RaftsnapTakesSaid : Prop := raftsnapTakesRow.holds Try.pinned (OpenSpec.ofChange raftsnapTakesSpec)

/-- ITS FALSE NEIGHBOUR: 'it returns false'. Refute it at one input. -/
def raftsnapTakesWrong : ChangeSpec := { name := "raftsnapTakes", fn := fun _ => fun
  | [d1, d2, d3] => { results := [.lit (.bool false)], args := [d1, d2, d3] }
  | _ => none }
def RaftsnapTakesWrongFalsely : Prop := raftsnapTakesRow.holds Try.pinned (OpenSpec.ofChange raftsnapTakesWrong)

/-- 'gazettelaw09.RaftsnapOther': WHATEVER THE INPUT: true; the input reads as it did. -/
def raftsnapOtherSpec : ChangeSpec := { name := "raftsnapOther", fn := fun _ => fun
  | [d1, d2, d3] => { results := [.lit (.bool true)], args := [d1, d2, d3] }
  | _ => none }
def raftsnapOtherRow : OpenClaim := { program := "ytmjohallhdcdnaa", sum := "c04aeafb6c3b714721e725a409010dc169b144ac5a522fe3d8f9177d2bf11ebd", func := "gazette/gazettelaw09.RaftsnapOther", spec := "raftsnapOther", apart := false }
def RaftsnapOtherSaid : Prop := raftsnapOtherRow.holds Try.pinned (OpenSpec.ofChange raftsnapOtherSpec)

/-- ITS FALSE NEIGHBOUR: 'it returns false'. Refute it at one input. -/
def raftsnapOtherWrong : ChangeSpec := { name := "raftsnapOther", fn := fun _ => fun
  | [d1, d2, d3] => { results := [.lit (.bool false)], args := [d1, d2, d3] }
  | _ => none }
def RaftsnapOtherWrongFalsely : Prop := raftsnapOtherRow.holds Try.pinned (OpenSpec.ofChange raftsnapOtherWrong)

/-- 'gazettelaw09.RaftsnapWhole': WHATEVER THE INPUT: true; the input reads as it did. -/
def raftsnapWholeSpec : ChangeSpec := { name := "raftsnapWhole", fn := fun _ => fun
  | [d1, d2] => { results := [.lit (.bool true)], args := [d1, d2] }
  | _ => none }
def raftsnapWholeRow : OpenClaim := { program := "ytmjohallhdcdnaa", sum := "c04aeafb6c3b714721e725a409010dc169b144ac5a522fe3d8f9177d2bf11ebd", func := "gazette/gazettelaw09.RaftsnapWhole", spec := "raftsnapWhole", apart := false }
def RaftsnapWholeSaid : Prop := raftsnapWholeRow.holds Try.pinned (OpenSpec.ofChange raftsnapWholeSpec)

/-- ITS FALSE NEIGHBOUR: 'it returns false'. Refute it at one input. -/
def raftsnapWholeWrong : ChangeSpec := { name := "raftsnapWhole", fn := fun _ => fun
  | [d1, d2] => { results := [.lit (.bool false)], args := [d1, d2] }
  | _ => none }
def RaftsnapWholeWrongFalsely : Prop := raftsnapWholeRow.holds Try.pinned (OpenSpec.ofChange raftsnapWholeWrong)

/- THE SECOND FORM. 'bulk': how many values and letters a reading holds, each counted each time it is reached (what is shared counts as often as it is met; a slice's spare places count too). A statement '..UptoSaid' is the law's where the arguments, and the package variables that the reading takes, are together of bulk at most 1048576: NARROWER than '..Said'. Prove '..Said' where nothing that the law and all that it calls make is longer than what came in: it says more and counts as full. Else prove '..UptoSaid'. A law counts once. -/
mutual
def uptoBulk {H : Type} : DataW H → Nat
  | .lit (.string bytes) => bytes.length + 1
  | .lit _ => 1
  | .nil => 1
  | .ptr d => uptoBulk d + 1
  | .slice elems spare => uptoBulkAll elems + uptoBulkAll spare + 1
  | .agg parts => uptoBulkAll parts + 1
  | .iface _ d => uptoBulk d + 1
  | .map entries => uptoBulkEntries entries + 1
  | .held _ => 1
def uptoBulkAll {H : Type} : List (DataW H) → Nat
  | [] => 0
  | d :: r => uptoBulk d + uptoBulkAll r
def uptoBulkEntries {H : Type} : List (Lit × DataW H) → Nat
  | [] => 0
  | x :: r => uptoBulkEntry x + uptoBulkEntries r
def uptoBulkEntry {H : Type} : Lit × DataW H → Nat
  | (.string bytes, d) => bytes.length + uptoBulk d + 1
  | (_, d) => uptoBulk d + 1
 end
def uptoSmall : (H : Type) → List (DataW H) → Bool := fun _ ds => decide (uptoBulkAll ds ≤ 1048576)
def OpenSpec.upto (s : _root_.Go.ChangeSpec) : _root_.Go.OpenSpec := { _root_.Go.OpenSpec.ofChange s with cond := some uptoSmall }

/-- 'gazettelaw09.RaftsnapPieces', WHERE WHAT IT READS IS OF BULK AT MOST 1048576: true; the input reads as it did. -/
def raftsnapPiecesUptoRow : OpenClaim := { program := "ytmjohallhdcdnaa", sum := "c04aeafb6c3b714721e725a409010dc169b144ac5a522fe3d8f9177d2bf11ebd", func := "gazette/gazettelaw09.RaftsnapPieces", spec := "raftsnapPieces", apart := false, narrowed := true }
def RaftsnapPiecesUptoSaid : Prop := raftsnapPiecesUptoRow.holds Try.pinned (OpenSpec.upto raftsnapPiecesSpec)

/-- 'gazettelaw09.RaftsnapTakes', WHERE WHAT IT READS IS OF BULK AT MOST 1048576: true; the input reads as it did. -/
def raftsnapTakesUptoRow : OpenClaim := { program := "ytmjohallhdcdnaa", sum := "c04aeafb6c3b714721e725a409010dc169b144ac5a522fe3d8f9177d2bf11ebd", func := "gazette/gazettelaw09.RaftsnapTakes", spec := "raftsnapTakes", apart := false, narrowed := true }
def RaftsnapTakesUptoSaid : Prop := raftsnapTakesUptoRow.holds Try.pinned (OpenSpec.upto raftsnapTakesSpec)

/-- 'gazettelaw09.RaftsnapOther', WHERE WHAT IT READS IS OF BULK AT MOST 1048576: true; the input reads as it did. -/
def raftsnapOtherUptoRow : OpenClaim := { program := "ytmjohallhdcdnaa", sum := "c04aeafb6c3b714721e725a409010dc169b144ac5a522fe3d8f9177d2bf11ebd", func := "gazette/gazettelaw09.RaftsnapOther", spec := "raftsnapOther", apart := false, narrowed := true }
def RaftsnapOtherUptoSaid : Prop := raftsnapOtherUptoRow.holds Try.pinned (OpenSpec.upto raftsnapOtherSpec)

/-- 'gazettelaw09.RaftsnapWhole', WHERE WHAT IT READS IS OF BULK AT MOST 1048576: true; the input reads as it did. -/
def raftsnapWholeUptoRow : OpenClaim := { program := "ytmjohallhdcdnaa", sum := "c04aeafb6c3b714721e725a409010dc169b144ac5a522fe3d8f9177d2bf11ebd", func := "gazette/gazettelaw09.RaftsnapWhole", spec := "raftsnapWhole", apart := false, narrowed := true }
def RaftsnapWholeUptoSaid : Prop := raftsnapWholeUptoRow.holds Try.pinned (OpenSpec.upto raftsnapWholeSpec)

end Rows
end Go.Proofs.Ytmjohallhdcdnaa
