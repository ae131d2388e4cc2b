/-
  No cell of these rows narrows 'for every input' (looked for: loops, veiled, ifaces, maps, wideKeys, modest, calm, conditions, laid).
  DERIVED. THE GIVEN ROWS OF THIS SEAT. 6 by the template 'for every input the law returns true; each argument reads behind the call as it read before'; 0 by the template 'total and deterministic' (their statements: YtglabhfmeinogaaTotals.lean).
  GIVEN WITH THE SEED: the statements are not yours to turn. If you find one false, say at which input.
  Laid BY PROGRAM, IN A SANDBOX (cutbox-rows.mjs): the forced cells as the released guide's own fill.sh prints them over the translation 0fff46d2f35010b2… (all of the seat's roots in one cut). By AI agents, Wed Nov 11 2026. No macro, syntax, notation, axiom, sorry.
-/
import Derived.Test.YtglabhfmeinogaaChecked
import GoSem.Claim
import GoSem.ClaimJoined
import GoSem.ClaimMapViews
import Derived.JoinedTies
import Derived.KernelRfl
namespace Go.Proofs.Ytglabhfmeinogaa
/- THE CELL 'sum', in the pinned program and in every row, IS THE sha256 OF THE DUMP (.gsa) THAT YtglabhfmeinogaaProg.lean LOADS. Nothing in Lean hashes anything: it is a label: what it is worth is what the hold of that sum in a sandbox is worth. -/
noncomputable def Try.pinned : Pinned := { name := "ytglabhfmeinogaa", sum := "0fff46d2f35010b22621d2c12751315746d2de8e17c2eb1e378f4c23b09685ad", checked := Try.checked }
namespace Rows
def none {H : Type} : Left H := { results := [], args := [] }

/-- 'gazettelaw06.RaftlogWhole': WHATEVER THE INPUT: true; the input reads as it did. -/
def raftlogWholeSpec : ChangeSpec := { name := "raftlogWhole", fn := fun _ => fun
  | [d1, d2] => { results := [.lit (.bool true)], args := [d1, d2] }
  | _ => none }
def raftlogWholeRow : OpenClaim := { program := "ytglabhfmeinogaa", sum := "0fff46d2f35010b22621d2c12751315746d2de8e17c2eb1e378f4c23b09685ad", func := "gazette/gazettelaw06.RaftlogWhole", spec := "raftlogWhole", unfollowed := true, recurses := true, apart := false }
def RaftlogWholeSaid : Prop := raftlogWholeRow.holds Try.pinned (OpenSpec.ofChange raftlogWholeSpec)

/-- ITS FALSE NEIGHBOUR: 'it returns false'. Refute it at one input. -/
def raftlogWholeWrong : ChangeSpec := { name := "raftlogWhole", fn := fun _ => fun
  | [d1, d2] => { results := [.lit (.bool false)], args := [d1, d2] }
  | _ => none }
def RaftlogWholeWrongFalsely : Prop := raftlogWholeRow.holds Try.pinned (OpenSpec.ofChange raftlogWholeWrong)

/-- 'gazettelaw06.RaftlogKeeps': WHATEVER THE INPUT: true; the input reads as it did. -/
def raftlogKeepsSpec : ChangeSpec := { name := "raftlogKeeps", fn := fun _ => fun
  | [d1, d2] => { results := [.lit (.bool true)], args := [d1, d2] }
  | _ => none }
def raftlogKeepsRow : OpenClaim := { program := "ytglabhfmeinogaa", sum := "0fff46d2f35010b22621d2c12751315746d2de8e17c2eb1e378f4c23b09685ad", func := "gazette/gazettelaw06.RaftlogKeeps", spec := "raftlogKeeps", unfollowed := true, recurses := true, apart := false }
def RaftlogKeepsSaid : Prop := raftlogKeepsRow.holds Try.pinned (OpenSpec.ofChange raftlogKeepsSpec)

/-- ITS FALSE NEIGHBOUR: 'it returns false'. Refute it at one input. -/
def raftlogKeepsWrong : ChangeSpec := { name := "raftlogKeeps", fn := fun _ => fun
  | [d1, d2] => { results := [.lit (.bool false)], args := [d1, d2] }
  | _ => none }
def RaftlogKeepsWrongFalsely : Prop := raftlogKeepsRow.holds Try.pinned (OpenSpec.ofChange raftlogKeepsWrong)

/-- 'gazettelaw06.RaftlogSlices': WHATEVER THE INPUT: true; the input reads as it did. -/
def raftlogSlicesSpec : ChangeSpec := { name := "raftlogSlices", fn := fun _ => fun
  | [d1, d2, d3] => { results := [.lit (.bool true)], args := [d1, d2, d3] }
  | _ => none }
def raftlogSlicesRow : OpenClaim := { program := "ytglabhfmeinogaa", sum := "0fff46d2f35010b22621d2c12751315746d2de8e17c2eb1e378f4c23b09685ad", func := "gazette/gazettelaw06.RaftlogSlices", spec := "raftlogSlices", unfollowed := true, recurses := true, apart := false }
def RaftlogSlicesSaid : Prop := raftlogSlicesRow.holds Try.pinned (OpenSpec.ofChange raftlogSlicesSpec)

/-- ITS FALSE NEIGHBOUR: 'it returns false'. Refute it at one input. -/
def raftlogSlicesWrong : ChangeSpec := { name := "raftlogSlices", fn := fun _ => fun
  | [d1, d2, d3] => { results := [.lit (.bool false)], args := [d1, d2, d3] }
  | _ => none }
def RaftlogSlicesWrongFalsely : Prop := raftlogSlicesRow.holds Try.pinned (OpenSpec.ofChange raftlogSlicesWrong)

/-- 'gazettelaw06.RaftlogCompacts': WHATEVER THE INPUT: true; the input reads as it did. -/
def raftlogCompactsSpec : ChangeSpec := { name := "raftlogCompacts", fn := fun _ => fun
  | [d1, d2, d3] => { results := [.lit (.bool true)], args := [d1, d2, d3] }
  | _ => none }
def raftlogCompactsRow : OpenClaim := { program := "ytglabhfmeinogaa", sum := "0fff46d2f35010b22621d2c12751315746d2de8e17c2eb1e378f4c23b09685ad", func := "gazette/gazettelaw06.RaftlogCompacts", spec := "raftlogCompacts", unfollowed := true, recurses := true, apart := false }
def RaftlogCompactsSaid : Prop := raftlogCompactsRow.holds Try.pinned (OpenSpec.ofChange raftlogCompactsSpec)

/-- ITS FALSE NEIGHBOUR: 'it returns false'. Refute it at one input. -/
def raftlogCompactsWrong : ChangeSpec := { name := "raftlogCompacts", fn := fun _ => fun
  | [d1, d2, d3] => { results := [.lit (.bool false)], args := [d1, d2, d3] }
  | _ => none }
def RaftlogCompactsWrongFalsely : Prop := raftlogCompactsRow.holds Try.pinned (OpenSpec.ofChange raftlogCompactsWrong)

/-- 'gazettelaw06.RaftlogTwice': WHATEVER THE INPUT: true; the input reads as it did. -/
def raftlogTwiceSpec : ChangeSpec := { name := "raftlogTwice", fn := fun _ => fun
  | [d] => { results := [.lit (.bool true)], args := [d] }
  | _ => none }
def raftlogTwiceRow : OpenClaim := { program := "ytglabhfmeinogaa", sum := "0fff46d2f35010b22621d2c12751315746d2de8e17c2eb1e378f4c23b09685ad", func := "gazette/gazettelaw06.RaftlogTwice", spec := "raftlogTwice", unfollowed := true, recurses := true, apart := false }
def RaftlogTwiceSaid : Prop := raftlogTwiceRow.holds Try.pinned (OpenSpec.ofChange raftlogTwiceSpec)

/-- ITS FALSE NEIGHBOUR: 'it returns false'. Refute it at one input. -/
def raftlogTwiceWrong : ChangeSpec := { name := "raftlogTwice", fn := fun _ => fun
  | [d] => { results := [.lit (.bool false)], args := [d] }
  | _ => none }
def RaftlogTwiceWrongFalsely : Prop := raftlogTwiceRow.holds Try.pinned (OpenSpec.ofChange raftlogTwiceWrong)

/-- 'gazettelaw06.RaftlogCopies': WHATEVER THE INPUT: true; the input reads as it did. -/
def raftlogCopiesSpec : ChangeSpec := { name := "raftlogCopies", fn := fun _ => fun
  | [d1, d2, d3, d4] => { results := [.lit (.bool true)], args := [d1, d2, d3, d4] }
  | _ => none }
def raftlogCopiesRow : OpenClaim := { program := "ytglabhfmeinogaa", sum := "0fff46d2f35010b22621d2c12751315746d2de8e17c2eb1e378f4c23b09685ad", func := "gazette/gazettelaw06.RaftlogCopies", spec := "raftlogCopies", unfollowed := true, recurses := true, apart := false }
def RaftlogCopiesSaid : Prop := raftlogCopiesRow.holds Try.pinned (OpenSpec.ofChange raftlogCopiesSpec)

/-- ITS FALSE NEIGHBOUR: 'it returns false'. Refute it at one input. -/
def raftlogCopiesWrong : ChangeSpec := { name := "raftlogCopies", fn := fun _ => fun
  | [d1, d2, d3, d4] => { results := [.lit (.bool false)], args := [d1, d2, d3, d4] }
  | _ => none }
def RaftlogCopiesWrongFalsely : Prop := raftlogCopiesRow.holds Try.pinned (OpenSpec.ofChange raftlogCopiesWrong)

/- THE SECOND FORM. 'bulk': how many values and letters a reading holds, each counted each time it is reached (what is shared counts as often as it is met; a slice's spare places count too). A statement '..UptoSaid' is the law's where the arguments, and the package variables that the reading takes, are together of bulk at most 1048576: NARROWER than '..Said'. Prove '..Said' where nothing that the law and all that it calls make is longer than what came in: it says more and counts as full. Else prove '..UptoSaid'. A law counts once. -/
mutual
def uptoBulk {H : Type} : DataW H → Nat
  | .lit (.string bytes) => bytes.length + 1
  | .lit _ => 1
  | .nil => 1
  | .ptr d => uptoBulk d + 1
  | .slice elems spare => uptoBulkAll elems + uptoBulkAll spare + 1
  | .agg parts => uptoBulkAll parts + 1
  | .iface _ d => uptoBulk d + 1
  | .map entries => uptoBulkEntries entries + 1
  | .held _ => 1
def uptoBulkAll {H : Type} : List (DataW H) → Nat
  | [] => 0
  | d :: r => uptoBulk d + uptoBulkAll r
def uptoBulkEntries {H : Type} : List (Lit × DataW H) → Nat
  | [] => 0
  | x :: r => uptoBulkEntry x + uptoBulkEntries r
def uptoBulkEntry {H : Type} : Lit × DataW H → Nat
  | (.string bytes, d) => bytes.length + uptoBulk d + 1
  | (_, d) => uptoBulk d + 1
 end
def uptoSmall : (H : Type) → List (DataW H) → Bool := fun _ ds => decide (uptoBulkAll ds ≤ 1048576)
def OpenSpec.upto (s : _root_.Go.ChangeSpec) : _root_.Go.OpenSpec := { _root_.Go.OpenSpec.ofChange s with cond := some uptoSmall }

/-- 'gazettelaw06.RaftlogWhole', WHERE WHAT IT READS IS OF BULK AT MOST 1048576: true; the input reads as it did. -/
def raftlogWholeUptoRow : OpenClaim := { program := "ytglabhfmeinogaa", sum := "0fff46d2f35010b22621d2c12751315746d2de8e17c2eb1e378f4c23b09685ad", func := "gazette/gazettelaw06.RaftlogWhole", spec := "raftlogWhole", unfollowed := true, recurses := true, apart := false, narrowed := true }
def RaftlogWholeUptoSaid : Prop := raftlogWholeUptoRow.holds Try.pinned (OpenSpec.upto raftlogWholeSpec)

/-- 'gazettelaw06.RaftlogKeeps', WHERE WHAT IT READS IS OF BULK AT MOST 1048576: true; the input reads as it did. -/
def raftlogKeepsUptoRow : OpenClaim := { program := "ytglabhfmeinogaa", sum := "0fff46d2f35010b22621d2c12751315746d2de8e17c2eb1e378f4c23b09685ad", func := "gazette/gazettelaw06.RaftlogKeeps", spec := "raftlogKeeps", unfollowed := true, recurses := true, apart := false, narrowed := true }
def RaftlogKeepsUptoSaid : Prop := raftlogKeepsUptoRow.holds Try.pinned (OpenSpec.upto raftlogKeepsSpec)

/-- 'gazettelaw06.RaftlogSlices', WHERE WHAT IT READS IS OF BULK AT MOST 1048576: true; the input reads as it did. -/
def raftlogSlicesUptoRow : OpenClaim := { program := "ytglabhfmeinogaa", sum := "0fff46d2f35010b22621d2c12751315746d2de8e17c2eb1e378f4c23b09685ad", func := "gazette/gazettelaw06.RaftlogSlices", spec := "raftlogSlices", unfollowed := true, recurses := true, apart := false, narrowed := true }
def RaftlogSlicesUptoSaid : Prop := raftlogSlicesUptoRow.holds Try.pinned (OpenSpec.upto raftlogSlicesSpec)

/-- 'gazettelaw06.RaftlogCompacts', WHERE WHAT IT READS IS OF BULK AT MOST 1048576: true; the input reads as it did. -/
def raftlogCompactsUptoRow : OpenClaim := { program := "ytglabhfmeinogaa", sum := "0fff46d2f35010b22621d2c12751315746d2de8e17c2eb1e378f4c23b09685ad", func := "gazette/gazettelaw06.RaftlogCompacts", spec := "raftlogCompacts", unfollowed := true, recurses := true, apart := false, narrowed := true }
def RaftlogCompactsUptoSaid : Prop := raftlogCompactsUptoRow.holds Try.pinned (OpenSpec.upto raftlogCompactsSpec)

/-- 'gazettelaw06.RaftlogTwice', WHERE WHAT IT READS IS OF BULK AT MOST 1048576: true; the input reads as it did. -/
def raftlogTwiceUptoRow : OpenClaim := { program := "ytglabhfmeinogaa", sum := "0fff46d2f35010b22621d2c12751315746d2de8e17c2eb1e378f4c23b09685ad", func := "gazette/gazettelaw06.RaftlogTwice", spec := "raftlogTwice", unfollowed := true, recurses := true, apart := false, narrowed := true }
def RaftlogTwiceUptoSaid : Prop := raftlogTwiceUptoRow.holds Try.pinned (OpenSpec.upto raftlogTwiceSpec)

/-- 'gazettelaw06.RaftlogCopies', WHERE WHAT IT READS IS OF BULK AT MOST 1048576: true; the input reads as it did. -/
def raftlogCopiesUptoRow : OpenClaim := { program := "ytglabhfmeinogaa", sum := "0fff46d2f35010b22621d2c12751315746d2de8e17c2eb1e378f4c23b09685ad", func := "gazette/gazettelaw06.RaftlogCopies", spec := "raftlogCopies", unfollowed := true, recurses := true, apart := false, narrowed := true }
def RaftlogCopiesUptoSaid : Prop := raftlogCopiesUptoRow.holds Try.pinned (OpenSpec.upto raftlogCopiesSpec)

end Rows
end Go.Proofs.Ytglabhfmeinogaa
