/-
  No cell of these rows narrows 'for every input' (looked for: loops, veiled, ifaces, maps, wideKeys, modest, calm, conditions, laid).
  DERIVED. THE GIVEN ROWS OF THIS SEAT. 5 by the template 'for every input the law returns true; each argument reads behind the call as it read before'; 0 by the template 'total and deterministic' (their statements: YtjihiohmemmabaaTotals.lean).
  GIVEN WITH THE SEED: the statements are not yours to turn. If you find one false, say at which input.
  Laid BY PROGRAM, IN A SANDBOX (cutbox-rows.mjs): the forced cells as the released guide's own fill.sh prints them over the translation 472527ea835b1a3c… (all of the seat's roots in one cut). By AI agents, Wed Nov 11 2026. No macro, syntax, notation, axiom, sorry.
-/
import Derived.Test.YtjihiohmemmabaaChecked
import GoSem.Claim
import GoSem.ClaimJoined
import GoSem.ClaimMapViews
import Derived.JoinedTies
import Derived.KernelRfl
namespace Go.Proofs.Ytjihiohmemmabaa
/- THE CELL 'sum', in the pinned program and in every row, IS THE sha256 OF THE DUMP (.gsa) THAT YtjihiohmemmabaaProg.lean LOADS. Nothing in Lean hashes anything: it is a label: what it is worth is what the hold of that sum in a sandbox is worth. -/
noncomputable def Try.pinned : Pinned := { name := "ytjihiohmemmabaa", sum := "472527ea835b1a3cdada8787127a886123bc43cc434339de52267538eb91a905", checked := Try.checked }
namespace Rows
def none {H : Type} : Left H := { results := [], args := [] }

/-- 'gazettelaw03.SimnetFull': WHATEVER THE INPUT: true; the input reads as it did. -/
def simnetFullSpec : ChangeSpec := { name := "simnetFull", fn := fun _ => fun
  | [d1, d2] => { results := [.lit (.bool true)], args := [d1, d2] }
  | _ => none }
def simnetFullRow : OpenClaim := { program := "ytjihiohmemmabaa", sum := "472527ea835b1a3cdada8787127a886123bc43cc434339de52267538eb91a905", func := "gazette/gazettelaw03.SimnetFull", spec := "simnetFull", plainKeys := false, apart := false }
def SimnetFullSaid : Prop := simnetFullRow.holds Try.pinned (OpenSpec.ofChange simnetFullSpec)

/-- ITS FALSE NEIGHBOUR: 'it returns false'. Refute it at one input. -/
def simnetFullWrong : ChangeSpec := { name := "simnetFull", fn := fun _ => fun
  | [d1, d2] => { results := [.lit (.bool false)], args := [d1, d2] }
  | _ => none }
def SimnetFullWrongFalsely : Prop := simnetFullRow.holds Try.pinned (OpenSpec.ofChange simnetFullWrong)

/-- 'gazettelaw03.SimnetParts': WHATEVER THE INPUT: true; the input reads as it did. -/
def simnetPartsSpec : ChangeSpec := { name := "simnetParts", fn := fun _ => fun
  | [d1, d2, d3, d4] => { results := [.lit (.bool true)], args := [d1, d2, d3, d4] }
  | _ => none }
def simnetPartsRow : OpenClaim := { program := "ytjihiohmemmabaa", sum := "472527ea835b1a3cdada8787127a886123bc43cc434339de52267538eb91a905", func := "gazette/gazettelaw03.SimnetParts", spec := "simnetParts", plainKeys := false, apart := false }
def SimnetPartsSaid : Prop := simnetPartsRow.holds Try.pinned (OpenSpec.ofChange simnetPartsSpec)

/-- ITS FALSE NEIGHBOUR: 'it returns false'. Refute it at one input. -/
def simnetPartsWrong : ChangeSpec := { name := "simnetParts", fn := fun _ => fun
  | [d1, d2, d3, d4] => { results := [.lit (.bool false)], args := [d1, d2, d3, d4] }
  | _ => none }
def SimnetPartsWrongFalsely : Prop := simnetPartsRow.holds Try.pinned (OpenSpec.ofChange simnetPartsWrong)

/-- 'gazettelaw03.SimnetKeeps': WHATEVER THE INPUT: true; the input reads as it did. -/
def simnetKeepsSpec : ChangeSpec := { name := "simnetKeeps", fn := fun _ => fun
  | [d1, d2, d3] => { results := [.lit (.bool true)], args := [d1, d2, d3] }
  | _ => none }
def simnetKeepsRow : OpenClaim := { program := "ytjihiohmemmabaa", sum := "472527ea835b1a3cdada8787127a886123bc43cc434339de52267538eb91a905", func := "gazette/gazettelaw03.SimnetKeeps", spec := "simnetKeeps", plainKeys := false, apart := false }
def SimnetKeepsSaid : Prop := simnetKeepsRow.holds Try.pinned (OpenSpec.ofChange simnetKeepsSpec)

/-- ITS FALSE NEIGHBOUR: 'it returns false'. Refute it at one input. -/
def simnetKeepsWrong : ChangeSpec := { name := "simnetKeeps", fn := fun _ => fun
  | [d1, d2, d3] => { results := [.lit (.bool false)], args := [d1, d2, d3] }
  | _ => none }
def SimnetKeepsWrongFalsely : Prop := simnetKeepsRow.holds Try.pinned (OpenSpec.ofChange simnetKeepsWrong)

/-- 'gazettelaw03.SimnetPlays': WHATEVER THE INPUT: true; the input reads as it did. -/
def simnetPlaysSpec : ChangeSpec := { name := "simnetPlays", fn := fun _ => fun
  | [d1, d2] => { results := [.lit (.bool true)], args := [d1, d2] }
  | _ => none }
def simnetPlaysRow : OpenClaim := { program := "ytjihiohmemmabaa", sum := "472527ea835b1a3cdada8787127a886123bc43cc434339de52267538eb91a905", func := "gazette/gazettelaw03.SimnetPlays", spec := "simnetPlays", plainKeys := false, apart := false }
def SimnetPlaysSaid : Prop := simnetPlaysRow.holds Try.pinned (OpenSpec.ofChange simnetPlaysSpec)

/-- ITS FALSE NEIGHBOUR: 'it returns false'. Refute it at one input. -/
def simnetPlaysWrong : ChangeSpec := { name := "simnetPlays", fn := fun _ => fun
  | [d1, d2] => { results := [.lit (.bool false)], args := [d1, d2] }
  | _ => none }
def SimnetPlaysWrongFalsely : Prop := simnetPlaysRow.holds Try.pinned (OpenSpec.ofChange simnetPlaysWrong)

/-- 'gazettelaw03.SimnetApart': WHATEVER THE INPUT: true; the input reads as it did. -/
def simnetApartSpec : ChangeSpec := { name := "simnetApart", fn := fun _ => fun
  | [d1, d2, d3, d4] => { results := [.lit (.bool true)], args := [d1, d2, d3, d4] }
  | _ => none }
def simnetApartRow : OpenClaim := { program := "ytjihiohmemmabaa", sum := "472527ea835b1a3cdada8787127a886123bc43cc434339de52267538eb91a905", func := "gazette/gazettelaw03.SimnetApart", spec := "simnetApart", plainKeys := false, apart := false }
def SimnetApartSaid : Prop := simnetApartRow.holds Try.pinned (OpenSpec.ofChange simnetApartSpec)

/-- ITS FALSE NEIGHBOUR: 'it returns false'. Refute it at one input. -/
def simnetApartWrong : ChangeSpec := { name := "simnetApart", fn := fun _ => fun
  | [d1, d2, d3, d4] => { results := [.lit (.bool false)], args := [d1, d2, d3, d4] }
  | _ => none }
def SimnetApartWrongFalsely : Prop := simnetApartRow.holds Try.pinned (OpenSpec.ofChange simnetApartWrong)

/- THE SECOND FORM. 'bulk': how many values and letters a reading holds, each counted each time it is reached (what is shared counts as often as it is met; a slice's spare places count too). A statement '..UptoSaid' is the law's where the arguments, and the package variables that the reading takes, are together of bulk at most 1048576: NARROWER than '..Said'. Prove '..Said' where nothing that the law and all that it calls make is longer than what came in: it says more and counts as full. Else prove '..UptoSaid'. A law counts once. -/
mutual
def uptoBulk {H : Type} : DataW H → Nat
  | .lit (.string bytes) => bytes.length + 1
  | .lit _ => 1
  | .nil => 1
  | .ptr d => uptoBulk d + 1
  | .slice elems spare => uptoBulkAll elems + uptoBulkAll spare + 1
  | .agg parts => uptoBulkAll parts + 1
  | .iface _ d => uptoBulk d + 1
  | .map entries => uptoBulkEntries entries + 1
  | .held _ => 1
def uptoBulkAll {H : Type} : List (DataW H) → Nat
  | [] => 0
  | d :: r => uptoBulk d + uptoBulkAll r
def uptoBulkEntries {H : Type} : List (Lit × DataW H) → Nat
  | [] => 0
  | x :: r => uptoBulkEntry x + uptoBulkEntries r
def uptoBulkEntry {H : Type} : Lit × DataW H → Nat
  | (.string bytes, d) => bytes.length + uptoBulk d + 1
  | (_, d) => uptoBulk d + 1
 end
def uptoSmall : (H : Type) → List (DataW H) → Bool := fun _ ds => decide (uptoBulkAll ds ≤ 1048576)
def OpenSpec.upto (s : _root_.Go.ChangeSpec) : _root_.Go.OpenSpec := { _root_.Go.OpenSpec.ofChange s with cond := some uptoSmall }

/-- 'gazettelaw03.SimnetFull', WHERE WHAT IT READS IS OF BULK AT MOST 1048576: true; the input reads as it did. -/
def simnetFullUptoRow : OpenClaim := { program := "ytjihiohmemmabaa", sum := "472527ea835b1a3cdada8787127a886123bc43cc434339de52267538eb91a905", func := "gazette/gazettelaw03.SimnetFull", spec := "simnetFull", plainKeys := false, apart := false, narrowed := true }
def SimnetFullUptoSaid : Prop := simnetFullUptoRow.holds Try.pinned (OpenSpec.upto simnetFullSpec)

/-- 'gazettelaw03.SimnetParts', WHERE WHAT IT READS IS OF BULK AT MOST 1048576: true; the input reads as it did. -/
def simnetPartsUptoRow : OpenClaim := { program := "ytjihiohmemmabaa", sum := "472527ea835b1a3cdada8787127a886123bc43cc434339de52267538eb91a905", func := "gazette/gazettelaw03.SimnetParts", spec := "simnetParts", plainKeys := false, apart := false, narrowed := true }
def SimnetPartsUptoSaid : Prop := simnetPartsUptoRow.holds Try.pinned (OpenSpec.upto simnetPartsSpec)

/-- 'gazettelaw03.SimnetKeeps', WHERE WHAT IT READS IS OF BULK AT MOST 1048576: true; the input reads as it did. -/
def simnetKeepsUptoRow : OpenClaim := { program := "ytjihiohmemmabaa", sum := "472527ea835b1a3cdada8787127a886123bc43cc434339de52267538eb91a905", func := "gazette/gazettelaw03.SimnetKeeps", spec := "simnetKeeps", plainKeys := false, apart := false, narrowed := true }
def SimnetKeepsUptoSaid : Prop := simnetKeepsUptoRow.holds Try.pinned (OpenSpec.upto simnetKeepsSpec)

/-- 'gazettelaw03.SimnetPlays', WHERE WHAT IT READS IS OF BULK AT MOST 1048576: true; the input reads as it did. -/
def simnetPlaysUptoRow : OpenClaim := { program := "ytjihiohmemmabaa", sum := "472527ea835b1a3cdada8787127a886123bc43cc434339de52267538eb91a905", func := "gazette/gazettelaw03.SimnetPlays", spec := "simnetPlays", plainKeys := false, apart := false, narrowed := true }
def SimnetPlaysUptoSaid : Prop := simnetPlaysUptoRow.holds Try.pinned (OpenSpec.upto simnetPlaysSpec)

/-- 'gazettelaw03.SimnetApart', WHERE WHAT IT READS IS OF BULK AT MOST 1048576: true; the input reads as it did. -/
def simnetApartUptoRow : OpenClaim := { program := "ytjihiohmemmabaa", sum := "472527ea835b1a3cdada8787127a886123bc43cc434339de52267538eb91a905", func := "gazette/gazettelaw03.SimnetApart", spec := "simnetApart", plainKeys := false, apart := false, narrowed := true }
def SimnetApartUptoSaid : Prop := simnetApartUptoRow.holds Try.pinned (OpenSpec.upto simnetApartSpec)

end Rows
end Go.Proofs.Ytjihiohmemmabaa
