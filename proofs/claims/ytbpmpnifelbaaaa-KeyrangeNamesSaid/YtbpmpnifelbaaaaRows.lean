/-
  No cell of these rows narrows 'for every input' (looked for: loops, veiled, ifaces, maps, wideKeys, modest, calm, conditions, laid).
  DERIVED. THE GIVEN ROWS OF THIS SEAT. 6 by the template 'for every input the law returns true; each argument reads behind the call as it read before'; 0 by the template 'total and deterministic' (their statements: YtbpmpnifelbaaaaTotals.lean).
  GIVEN WITH THE SEED: the statements are not yours to turn. If you find one false, say at which input.
  Laid BY PROGRAM, IN A SANDBOX (cutbox-rows.mjs): the forced cells as the released guide's own fill.sh prints them over the translation 02bd1407393421da… (all of the seat's roots in one cut). By AI agents, Wed Nov 11 2026. No macro, syntax, notation, axiom, sorry.
-/
import Derived.Test.YtbpmpnifelbaaaaChecked
import GoSem.Claim
import GoSem.ClaimJoined
import GoSem.ClaimMapViews
import Derived.JoinedTies
import Derived.KernelRfl
namespace Go.Proofs.Ytbpmpnifelbaaaa
/- THE CELL 'sum', in the pinned program and in every row, IS THE sha256 OF THE DUMP (.gsa) THAT YtbpmpnifelbaaaaProg.lean LOADS. Nothing in Lean hashes anything: it is a label: what it is worth is what the hold of that sum in a sandbox is worth. -/
noncomputable def Try.pinned : Pinned := { name := "ytbpmpnifelbaaaa", sum := "02bd1407393421da18d6714e7c729797bfb9a52ce97f85db2c8ca6deaf5ca84b", checked := Try.checked }
namespace Rows
def none {H : Type} : Left H := { results := [], args := [] }

/-- 'gazettelaw13.KeyrangeMeet': WHATEVER THE INPUT: true; the input reads as it did. -/
def keyrangeMeetSpec : ChangeSpec := { name := "keyrangeMeet", fn := fun _ => fun
  | [d1, d2, d3] => { results := [.lit (.bool true)], args := [d1, d2, d3] }
  | _ => none }
def keyrangeMeetRow : OpenClaim := { program := "ytbpmpnifelbaaaa", sum := "02bd1407393421da18d6714e7c729797bfb9a52ce97f85db2c8ca6deaf5ca84b", func := "gazette/gazettelaw13.KeyrangeMeet", spec := "keyrangeMeet", apart := false }
def KeyrangeMeetSaid : Prop := keyrangeMeetRow.holds Try.pinned (OpenSpec.ofChange keyrangeMeetSpec)

/-- ITS FALSE NEIGHBOUR: 'it returns false'. Refute it at one input. -/
def keyrangeMeetWrong : ChangeSpec := { name := "keyrangeMeet", fn := fun _ => fun
  | [d1, d2, d3] => { results := [.lit (.bool false)], args := [d1, d2, d3] }
  | _ => none }
def KeyrangeMeetWrongFalsely : Prop := keyrangeMeetRow.holds Try.pinned (OpenSpec.ofChange keyrangeMeetWrong)

/-- 'gazettelaw13.KeyrangeCalls': WHATEVER THE INPUT: true; the input reads as it did. -/
def keyrangeCallsSpec : ChangeSpec := { name := "keyrangeCalls", fn := fun _ => fun
  | [d1, d2, d3] => { results := [.lit (.bool true)], args := [d1, d2, d3] }
  | _ => none }
def keyrangeCallsRow : OpenClaim := { program := "ytbpmpnifelbaaaa", sum := "02bd1407393421da18d6714e7c729797bfb9a52ce97f85db2c8ca6deaf5ca84b", func := "gazette/gazettelaw13.KeyrangeCalls", spec := "keyrangeCalls", apart := false }
def KeyrangeCallsSaid : Prop := keyrangeCallsRow.holds Try.pinned (OpenSpec.ofChange keyrangeCallsSpec)

/-- ITS FALSE NEIGHBOUR: 'it returns false'. Refute it at one input. -/
def keyrangeCallsWrong : ChangeSpec := { name := "keyrangeCalls", fn := fun _ => fun
  | [d1, d2, d3] => { results := [.lit (.bool false)], args := [d1, d2, d3] }
  | _ => none }
def KeyrangeCallsWrongFalsely : Prop := keyrangeCallsRow.holds Try.pinned (OpenSpec.ofChange keyrangeCallsWrong)

/-- 'gazettelaw13.KeyrangeCut': WHATEVER THE INPUT: true; the input reads as it did. -/
def keyrangeCutSpec : ChangeSpec := { name := "keyrangeCut", fn := fun _ => fun
  | [d1, d2, d3] => { results := [.lit (.bool true)], args := [d1, d2, d3] }
  | _ => none }
def keyrangeCutRow : OpenClaim := { program := "ytbpmpnifelbaaaa", sum := "02bd1407393421da18d6714e7c729797bfb9a52ce97f85db2c8ca6deaf5ca84b", func := "gazette/gazettelaw13.KeyrangeCut", spec := "keyrangeCut", apart := false }
def KeyrangeCutSaid : Prop := keyrangeCutRow.holds Try.pinned (OpenSpec.ofChange keyrangeCutSpec)

/-- ITS FALSE NEIGHBOUR: 'it returns false'. Refute it at one input. -/
def keyrangeCutWrong : ChangeSpec := { name := "keyrangeCut", fn := fun _ => fun
  | [d1, d2, d3] => { results := [.lit (.bool false)], args := [d1, d2, d3] }
  | _ => none }
def KeyrangeCutWrongFalsely : Prop := keyrangeCutRow.holds Try.pinned (OpenSpec.ofChange keyrangeCutWrong)

/-- 'gazettelaw13.KeyrangeLists': WHATEVER THE INPUT: true; the input reads as it did. -/
def keyrangeListsSpec : ChangeSpec := { name := "keyrangeLists", fn := fun _ => fun
  | [d1, d2] => { results := [.lit (.bool true)], args := [d1, d2] }
  | _ => none }
def keyrangeListsRow : OpenClaim := { program := "ytbpmpnifelbaaaa", sum := "02bd1407393421da18d6714e7c729797bfb9a52ce97f85db2c8ca6deaf5ca84b", func := "gazette/gazettelaw13.KeyrangeLists", spec := "keyrangeLists", unfollowed := true, recurses := true, apart := false }
def KeyrangeListsSaid : Prop := keyrangeListsRow.holds Try.pinned (OpenSpec.ofChange keyrangeListsSpec)

/-- ITS FALSE NEIGHBOUR: 'it returns false'. Refute it at one input. -/
def keyrangeListsWrong : ChangeSpec := { name := "keyrangeLists", fn := fun _ => fun
  | [d1, d2] => { results := [.lit (.bool false)], args := [d1, d2] }
  | _ => none }
def KeyrangeListsWrongFalsely : Prop := keyrangeListsRow.holds Try.pinned (OpenSpec.ofChange keyrangeListsWrong)

/-- 'gazettelaw13.KeyrangeWhole': WHATEVER THE INPUT: true; the input reads as it did. -/
def keyrangeWholeSpec : ChangeSpec := { name := "keyrangeWhole", fn := fun _ => fun
  | [d1, d2, d3] => { results := [.lit (.bool true)], args := [d1, d2, d3] }
  | _ => none }
def keyrangeWholeRow : OpenClaim := { program := "ytbpmpnifelbaaaa", sum := "02bd1407393421da18d6714e7c729797bfb9a52ce97f85db2c8ca6deaf5ca84b", func := "gazette/gazettelaw13.KeyrangeWhole", spec := "keyrangeWhole", unfollowed := true, recurses := true, apart := false }
def KeyrangeWholeSaid : Prop := keyrangeWholeRow.holds Try.pinned (OpenSpec.ofChange keyrangeWholeSpec)

/-- ITS FALSE NEIGHBOUR: 'it returns false'. Refute it at one input. -/
def keyrangeWholeWrong : ChangeSpec := { name := "keyrangeWhole", fn := fun _ => fun
  | [d1, d2, d3] => { results := [.lit (.bool false)], args := [d1, d2, d3] }
  | _ => none }
def KeyrangeWholeWrongFalsely : Prop := keyrangeWholeRow.holds Try.pinned (OpenSpec.ofChange keyrangeWholeWrong)

/-- 'gazettelaw13.KeyrangeNames': WHATEVER THE INPUT: true; the input reads as it did. -/
def keyrangeNamesSpec : ChangeSpec := { name := "keyrangeNames", fn := fun _ => fun
  | [] => { results := [.lit (.bool true)], args := [] }
  | _ => none }
def keyrangeNamesRow : OpenClaim := { program := "ytbpmpnifelbaaaa", sum := "02bd1407393421da18d6714e7c729797bfb9a52ce97f85db2c8ca6deaf5ca84b", func := "gazette/gazettelaw13.KeyrangeNames", spec := "keyrangeNames", apart := false }
def KeyrangeNamesSaid : Prop := keyrangeNamesRow.holds Try.pinned (OpenSpec.ofChange keyrangeNamesSpec)

/-- ITS FALSE NEIGHBOUR: 'it returns false'. Refute it at one input. -/
def keyrangeNamesWrong : ChangeSpec := { name := "keyrangeNames", fn := fun _ => fun
  | [] => { results := [.lit (.bool false)], args := [] }
  | _ => none }
def KeyrangeNamesWrongFalsely : Prop := keyrangeNamesRow.holds Try.pinned (OpenSpec.ofChange keyrangeNamesWrong)

/- THE SECOND FORM. 'bulk': how many values and letters a reading holds, each counted each time it is reached (what is shared counts as often as it is met; a slice's spare places count too). A statement '..UptoSaid' is the law's where the arguments, and the package variables that the reading takes, are together of bulk at most 1048576: NARROWER than '..Said'. Prove '..Said' where nothing that the law and all that it calls make is longer than what came in: it says more and counts as full. Else prove '..UptoSaid'. A law counts once. -/
mutual
def uptoBulk {H : Type} : DataW H → Nat
  | .lit (.string bytes) => bytes.length + 1
  | .lit _ => 1
  | .nil => 1
  | .ptr d => uptoBulk d + 1
  | .slice elems spare => uptoBulkAll elems + uptoBulkAll spare + 1
  | .agg parts => uptoBulkAll parts + 1
  | .iface _ d => uptoBulk d + 1
  | .map entries => uptoBulkEntries entries + 1
  | .held _ => 1
def uptoBulkAll {H : Type} : List (DataW H) → Nat
  | [] => 0
  | d :: r => uptoBulk d + uptoBulkAll r
def uptoBulkEntries {H : Type} : List (Lit × DataW H) → Nat
  | [] => 0
  | x :: r => uptoBulkEntry x + uptoBulkEntries r
def uptoBulkEntry {H : Type} : Lit × DataW H → Nat
  | (.string bytes, d) => bytes.length + uptoBulk d + 1
  | (_, d) => uptoBulk d + 1
 end
def uptoSmall : (H : Type) → List (DataW H) → Bool := fun _ ds => decide (uptoBulkAll ds ≤ 1048576)
def OpenSpec.upto (s : _root_.Go.ChangeSpec) : _root_.Go.OpenSpec := { _root_.Go.OpenSpec.ofChange s with cond := some uptoSmall }

/-- 'gazettelaw13.KeyrangeMeet', WHERE WHAT IT READS IS OF BULK AT MOST 1048576: true; the input reads as it did. -/
def keyrangeMeetUptoRow : OpenClaim := { program := "ytbpmpnifelbaaaa", sum := "02bd1407393421da18d6714e7c729797bfb9a52ce97f85db2c8ca6deaf5ca84b", func := "gazette/gazettelaw13.KeyrangeMeet", spec := "keyrangeMeet", apart := false, narrowed := true }
def KeyrangeMeetUptoSaid : Prop := keyrangeMeetUptoRow.holds Try.pinned (OpenSpec.upto keyrangeMeetSpec)

/-- 'gazettelaw13.KeyrangeCalls', WHERE WHAT IT READS IS OF BULK AT MOST 1048576: true; the input reads as it did. -/
def keyrangeCallsUptoRow : OpenClaim := { program := "ytbpmpnifelbaaaa", sum := "02bd1407393421da18d6714e7c729797bfb9a52ce97f85db2c8ca6deaf5ca84b", func := "gazette/gazettelaw13.KeyrangeCalls", spec := "keyrangeCalls", apart := false, narrowed := true }
def KeyrangeCallsUptoSaid : Prop := keyrangeCallsUptoRow.holds Try.pinned (OpenSpec.upto keyrangeCallsSpec)

/-- 'gazettelaw13.KeyrangeCut', WHERE WHAT IT READS IS OF BULK AT MOST 1048576: true; the input reads as it did. -/
def keyrangeCutUptoRow : OpenClaim := { program := "ytbpmpnifelbaaaa", sum := "02bd1407393421da18d6714e7c729797bfb9a52ce97f85db2c8ca6deaf5ca84b", func := "gazette/gazettelaw13.KeyrangeCut", spec := "keyrangeCut", apart := false, narrowed := true }
def KeyrangeCutUptoSaid : Prop := keyrangeCutUptoRow.holds Try.pinned (OpenSpec.upto keyrangeCutSpec)

/-- 'gazettelaw13.KeyrangeLists', WHERE WHAT IT READS IS OF BULK AT MOST 1048576: true; the input reads as it did. -/
def keyrangeListsUptoRow : OpenClaim := { program := "ytbpmpnifelbaaaa", sum := "02bd1407393421da18d6714e7c729797bfb9a52ce97f85db2c8ca6deaf5ca84b", func := "gazette/gazettelaw13.KeyrangeLists", spec := "keyrangeLists", unfollowed := true, recurses := true, apart := false, narrowed := true }
def KeyrangeListsUptoSaid : Prop := keyrangeListsUptoRow.holds Try.pinned (OpenSpec.upto keyrangeListsSpec)

/-- 'gazettelaw13.KeyrangeWhole', WHERE WHAT IT READS IS OF BULK AT MOST 1048576: true; the input reads as it did. -/
def keyrangeWholeUptoRow : OpenClaim := { program := "ytbpmpnifelbaaaa", sum := "02bd1407393421da18d6714e7c729797bfb9a52ce97f85db2c8ca6deaf5ca84b", func := "gazette/gazettelaw13.KeyrangeWhole", spec := "keyrangeWhole", unfollowed := true, recurses := true, apart := false, narrowed := true }
def KeyrangeWholeUptoSaid : Prop := keyrangeWholeUptoRow.holds Try.pinned (OpenSpec.upto keyrangeWholeSpec)

/-- 'gazettelaw13.KeyrangeNames', WHERE WHAT IT READS IS OF BULK AT MOST 1048576: true; the input reads as it did. -/
def keyrangeNamesUptoRow : OpenClaim := { program := "ytbpmpnifelbaaaa", sum := "02bd1407393421da18d6714e7c729797bfb9a52ce97f85db2c8ca6deaf5ca84b", func := "gazette/gazettelaw13.KeyrangeNames", spec := "keyrangeNames", apart := false, narrowed := true }
def KeyrangeNamesUptoSaid : Prop := keyrangeNamesUptoRow.holds Try.pinned (OpenSpec.upto keyrangeNamesSpec)

end Rows
end Go.Proofs.Ytbpmpnifelbaaaa
