/-
  No cell of these rows narrows 'for every input' (looked for: loops, veiled, ifaces, maps, wideKeys, modest, calm, conditions, laid).
  DERIVED. THE GIVEN ROWS OF THIS SEAT. 2 by the template 'for every input the law returns true; each argument reads behind the call as it read before'; 0 by the template 'total and deterministic' (their statements: YtmemggdjnfccfaaTotals.lean).
  GIVEN WITH THE SEED: the statements are not yours to turn. If you find one false, say at which input.
  Laid BY PROGRAM, IN A SANDBOX (cutbox-rows.mjs): the forced cells as the released guide's own fill.sh prints them over the translation dd051c2f989c24e8… (all of the seat's roots in one cut). By AI agents, Wed Nov 11 2026. No macro, syntax, notation, axiom, sorry.
-/
import Derived.Test.YtmemggdjnfccfaaChecked
import GoSem.Claim
import GoSem.ClaimJoined
import GoSem.ClaimMapViews
import Derived.JoinedTies
import Derived.KernelRfl
namespace Go.Proofs.Ytmemggdjnfccfaa
/- THE CELL 'sum', in the pinned program and in every row, IS THE sha256 OF THE DUMP (.gsa) THAT YtmemggdjnfccfaaProg.lean LOADS. Nothing in Lean hashes anything: it is a label: what it is worth is what the hold of that sum in a sandbox is worth. -/
noncomputable def Try.pinned : Pinned := { name := "ytmemggdjnfccfaa", sum := "dd051c2f989c24e8873af5409ff3e6849b0c7d32b16d9d6f818ffd0d1f815859", checked := Try.checked }
namespace Rows
def none {H : Type} : Left H := { results := [], args := [] }

/-- 'innkeeplaw16.FootTells': WHATEVER THE INPUT: true; the input reads as it did. -/
def footTellsSpec : ChangeSpec := { name := "footTells", fn := fun _ => fun
  | [d1, d2, d3, d4] => { results := [.lit (.bool true)], args := [d1, d2, d3, d4] }
  | _ => none }
def footTellsRow : OpenClaim := { program := "ytmemggdjnfccfaa", sum := "dd051c2f989c24e8873af5409ff3e6849b0c7d32b16d9d6f818ffd0d1f815859", func := "innkeep/innkeeplaw16.FootTells", spec := "footTells", unfollowed := true, recurses := true, plainKeys := false, apart := false }
def FootTellsSaid : Prop := footTellsRow.holds Try.pinned (OpenSpec.ofChange footTellsSpec)

/-- ITS FALSE NEIGHBOUR: 'it returns false'. Refute it at one input. -/
def footTellsWrong : ChangeSpec := { name := "footTells", fn := fun _ => fun
  | [d1, d2, d3, d4] => { results := [.lit (.bool false)], args := [d1, d2, d3, d4] }
  | _ => none }
def FootTellsWrongFalsely : Prop := footTellsRow.holds Try.pinned (OpenSpec.ofChange footTellsWrong)

/-- 'innkeeplaw16.FootFew': WHATEVER THE INPUT: true; the input reads as it did. -/
def footFewSpec : ChangeSpec := { name := "footFew", fn := fun _ => fun
  | [d1, d2, d3] => { results := [.lit (.bool true)], args := [d1, d2, d3] }
  | _ => none }
def footFewRow : OpenClaim := { program := "ytmemggdjnfccfaa", sum := "dd051c2f989c24e8873af5409ff3e6849b0c7d32b16d9d6f818ffd0d1f815859", func := "innkeep/innkeeplaw16.FootFew", spec := "footFew", unfollowed := true, recurses := true, plainKeys := false, apart := false }
def FootFewSaid : Prop := footFewRow.holds Try.pinned (OpenSpec.ofChange footFewSpec)

/-- ITS FALSE NEIGHBOUR: 'it returns false'. Refute it at one input. -/
def footFewWrong : ChangeSpec := { name := "footFew", fn := fun _ => fun
  | [d1, d2, d3] => { results := [.lit (.bool false)], args := [d1, d2, d3] }
  | _ => none }
def FootFewWrongFalsely : Prop := footFewRow.holds Try.pinned (OpenSpec.ofChange footFewWrong)

/- THE SECOND FORM. 'bulk': how many values and letters a reading holds, each counted each time it is reached (what is shared counts as often as it is met; a slice's spare places count too). A statement '..UptoSaid' is the law's where the arguments, and the package variables that the reading takes, are together of bulk at most 1048576: NARROWER than '..Said'. Prove '..Said' where nothing that the law and all that it calls make is longer than what came in: it says more and counts as full. Else prove '..UptoSaid'. A law counts once. -/
mutual
def uptoBulk {H : Type} : DataW H → Nat
  | .lit (.string bytes) => bytes.length + 1
  | .lit _ => 1
  | .nil => 1
  | .ptr d => uptoBulk d + 1
  | .slice elems spare => uptoBulkAll elems + uptoBulkAll spare + 1
  | .agg parts => uptoBulkAll parts + 1
  | .iface _ d => uptoBulk d + 1
  | .map entries => uptoBulkEntries entries + 1
  | .held _ => 1
def uptoBulkAll {H : Type} : List (DataW H) → Nat
  | [] => 0
  | d :: r => uptoBulk d + uptoBulkAll r
def uptoBulkEntries {H : Type} : List (Lit × DataW H) → Nat
  | [] => 0
  | x :: r => uptoBulkEntry x + uptoBulkEntries r
def uptoBulkEntry {H : Type} : Lit × DataW H → Nat
  | (.string bytes, d) => bytes.length + uptoBulk d + 1
  | (_, d) => uptoBulk d + 1
 end
def uptoSmall : (H : Type) → List (DataW H) → Bool := fun _ ds => decide (uptoBulkAll ds ≤ 1048576)
def OpenSpec.upto (s : _root_.Go.ChangeSpec) : _root_.Go.OpenSpec := { _root_.Go.OpenSpec.ofChange s with cond := some uptoSmall }

/-- 'innkeeplaw16.FootTells', WHERE WHAT IT READS IS OF BULK AT MOST 1048576: true; the input reads as it did. -/
def footTellsUptoRow : OpenClaim := { program := "ytmemggdjnfccfaa", sum := "dd051c2f989c24e8873af5409ff3e6849b0c7d32b16d9d6f818ffd0d1f815859", func := "innkeep/innkeeplaw16.FootTells", spec := "footTells", unfollowed := true, recurses := true, plainKeys := false, apart := false, narrowed := true }
def FootTellsUptoSaid : Prop := footTellsUptoRow.holds Try.pinned (OpenSpec.upto footTellsSpec)

/-- 'innkeeplaw16.FootFew', WHERE WHAT IT READS IS OF BULK AT MOST 1048576: true; the input reads as it did. -/
def footFewUptoRow : OpenClaim := { program := "ytmemggdjnfccfaa", sum := "dd051c2f989c24e8873af5409ff3e6849b0c7d32b16d9d6f818ffd0d1f815859", func := "innkeep/innkeeplaw16.FootFew", spec := "footFew", unfollowed := true, recurses := true, plainKeys := false, apart := false, narrowed := true }
def FootFewUptoSaid : Prop := footFewUptoRow.holds Try.pinned (OpenSpec.upto footFewSpec)

end Rows
end Go.Proofs.Ytmemggdjnfccfaa
