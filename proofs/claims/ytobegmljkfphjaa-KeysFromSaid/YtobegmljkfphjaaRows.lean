/-
  No cell of these rows narrows 'for every input' (looked for: loops, veiled, ifaces, maps, wideKeys, modest, calm, conditions, laid).
  DERIVED. THE GIVEN ROWS OF THIS SEAT. 5 by the template 'for every input the law returns true; each argument reads behind the call as it read before'; 0 by the template 'total and deterministic' (their statements: YtobegmljkfphjaaTotals.lean).
  GIVEN WITH THE SEED: the statements are not yours to turn. If you find one false, say at which input.
  Laid BY PROGRAM, IN A SANDBOX (cutbox-rows.mjs): the forced cells as the released guide's own fill.sh prints them over the translation b8c819b83063d8ca… (all of the seat's roots in one cut). By AI agents, Wed Nov 11 2026. No macro, syntax, notation, axiom, sorry.
-/
import Derived.Test.YtobegmljkfphjaaChecked
import GoSem.Claim
import GoSem.ClaimJoined
import GoSem.ClaimMapViews
import Derived.JoinedTies
import Derived.KernelRfl
namespace Go.Proofs.Ytobegmljkfphjaa
/- THE CELL 'sum', in the pinned program and in every row, IS THE sha256 OF THE DUMP (.gsa) THAT YtobegmljkfphjaaProg.lean LOADS. Nothing in Lean hashes anything: it is a label: what it is worth is what the hold of that sum in a sandbox is worth. -/
noncomputable def Try.pinned : Pinned := { name := "ytobegmljkfphjaa", sum := "b8c819b83063d8ca071b31034d5c75564c7ac9d72ca662ef912f508e865ef3d5", checked := Try.checked }
namespace Rows
def none {H : Type} : Left H := { results := [], args := [] }

/-- 'innkeeplaw14.KeysSort': WHATEVER THE INPUT: true; the input reads as it did. -/
def keysSortSpec : ChangeSpec := { name := "keysSort", fn := fun _ => fun
  | [d1, d2, d3] => { results := [.lit (.bool true)], args := [d1, d2, d3] }
  | _ => none }
def keysSortRow : OpenClaim := { program := "ytobegmljkfphjaa", sum := "b8c819b83063d8ca071b31034d5c75564c7ac9d72ca662ef912f508e865ef3d5", func := "innkeep/innkeeplaw14.KeysSort", spec := "keysSort", unfollowed := true, recurses := true, plainKeys := false, apart := false }
def KeysSortSaid : Prop := keysSortRow.holds Try.pinned (OpenSpec.ofChange keysSortSpec)

/-- ITS FALSE NEIGHBOUR: 'it returns false'. Refute it at one input. -/
def keysSortWrong : ChangeSpec := { name := "keysSort", fn := fun _ => fun
  | [d1, d2, d3] => { results := [.lit (.bool false)], args := [d1, d2, d3] }
  | _ => none }
def KeysSortWrongFalsely : Prop := keysSortRow.holds Try.pinned (OpenSpec.ofChange keysSortWrong)

/-- 'innkeeplaw14.KeysPlace': WHATEVER THE INPUT: true; the input reads as it did. -/
def keysPlaceSpec : ChangeSpec := { name := "keysPlace", fn := fun _ => fun
  | [d1, d2, d3] => { results := [.lit (.bool true)], args := [d1, d2, d3] }
  | _ => none }
def keysPlaceRow : OpenClaim := { program := "ytobegmljkfphjaa", sum := "b8c819b83063d8ca071b31034d5c75564c7ac9d72ca662ef912f508e865ef3d5", func := "innkeep/innkeeplaw14.KeysPlace", spec := "keysPlace", unfollowed := true, recurses := true, plainKeys := false, apart := false }
def KeysPlaceSaid : Prop := keysPlaceRow.holds Try.pinned (OpenSpec.ofChange keysPlaceSpec)

/-- ITS FALSE NEIGHBOUR: 'it returns false'. Refute it at one input. -/
def keysPlaceWrong : ChangeSpec := { name := "keysPlace", fn := fun _ => fun
  | [d1, d2, d3] => { results := [.lit (.bool false)], args := [d1, d2, d3] }
  | _ => none }
def KeysPlaceWrongFalsely : Prop := keysPlaceRow.holds Try.pinned (OpenSpec.ofChange keysPlaceWrong)

/-- 'innkeeplaw14.KeysOrder': WHATEVER THE INPUT: true; the input reads as it did. -/
def keysOrderSpec : ChangeSpec := { name := "keysOrder", fn := fun _ => fun
  | [d1, d2, d3] => { results := [.lit (.bool true)], args := [d1, d2, d3] }
  | _ => none }
def keysOrderRow : OpenClaim := { program := "ytobegmljkfphjaa", sum := "b8c819b83063d8ca071b31034d5c75564c7ac9d72ca662ef912f508e865ef3d5", func := "innkeep/innkeeplaw14.KeysOrder", spec := "keysOrder", unfollowed := true, recurses := true, plainKeys := false, apart := false }
def KeysOrderSaid : Prop := keysOrderRow.holds Try.pinned (OpenSpec.ofChange keysOrderSpec)

/-- ITS FALSE NEIGHBOUR: 'it returns false'. Refute it at one input. -/
def keysOrderWrong : ChangeSpec := { name := "keysOrder", fn := fun _ => fun
  | [d1, d2, d3] => { results := [.lit (.bool false)], args := [d1, d2, d3] }
  | _ => none }
def KeysOrderWrongFalsely : Prop := keysOrderRow.holds Try.pinned (OpenSpec.ofChange keysOrderWrong)

/-- 'innkeeplaw14.KeysKeep': WHATEVER THE INPUT: true; the input reads as it did. -/
def keysKeepSpec : ChangeSpec := { name := "keysKeep", fn := fun _ => fun
  | [d] => { results := [.lit (.bool true)], args := [d] }
  | _ => none }
def keysKeepRow : OpenClaim := { program := "ytobegmljkfphjaa", sum := "b8c819b83063d8ca071b31034d5c75564c7ac9d72ca662ef912f508e865ef3d5", func := "innkeep/innkeeplaw14.KeysKeep", spec := "keysKeep", unfollowed := true, recurses := true, plainKeys := false, apart := false }
def KeysKeepSaid : Prop := keysKeepRow.holds Try.pinned (OpenSpec.ofChange keysKeepSpec)

/-- ITS FALSE NEIGHBOUR: 'it returns false'. Refute it at one input. -/
def keysKeepWrong : ChangeSpec := { name := "keysKeep", fn := fun _ => fun
  | [d] => { results := [.lit (.bool false)], args := [d] }
  | _ => none }
def KeysKeepWrongFalsely : Prop := keysKeepRow.holds Try.pinned (OpenSpec.ofChange keysKeepWrong)

/-- 'innkeeplaw14.KeysFrom': WHATEVER THE INPUT: true; the input reads as it did. -/
def keysFromSpec : ChangeSpec := { name := "keysFrom", fn := fun _ => fun
  | [d1, d2, d3] => { results := [.lit (.bool true)], args := [d1, d2, d3] }
  | _ => none }
def keysFromRow : OpenClaim := { program := "ytobegmljkfphjaa", sum := "b8c819b83063d8ca071b31034d5c75564c7ac9d72ca662ef912f508e865ef3d5", func := "innkeep/innkeeplaw14.KeysFrom", spec := "keysFrom", unfollowed := true, recurses := true, plainKeys := false, apart := false }
def KeysFromSaid : Prop := keysFromRow.holds Try.pinned (OpenSpec.ofChange keysFromSpec)

/-- ITS FALSE NEIGHBOUR: 'it returns false'. Refute it at one input. -/
def keysFromWrong : ChangeSpec := { name := "keysFrom", fn := fun _ => fun
  | [d1, d2, d3] => { results := [.lit (.bool false)], args := [d1, d2, d3] }
  | _ => none }
def KeysFromWrongFalsely : Prop := keysFromRow.holds Try.pinned (OpenSpec.ofChange keysFromWrong)

/- THE SECOND FORM. 'bulk': how many values and letters a reading holds, each counted each time it is reached (what is shared counts as often as it is met; a slice's spare places count too). A statement '..UptoSaid' is the law's where the arguments, and the package variables that the reading takes, are together of bulk at most 1048576: NARROWER than '..Said'. Prove '..Said' where nothing that the law and all that it calls make is longer than what came in: it says more and counts as full. Else prove '..UptoSaid'. A law counts once. -/
mutual
def uptoBulk {H : Type} : DataW H → Nat
  | .lit (.string bytes) => bytes.length + 1
  | .lit _ => 1
  | .nil => 1
  | .ptr d => uptoBulk d + 1
  | .slice elems spare => uptoBulkAll elems + uptoBulkAll spare + 1
  | .agg parts => uptoBulkAll parts + 1
  | .iface _ d => uptoBulk d + 1
  | .map entries => uptoBulkEntries entries + 1
  | .held _ => 1
def uptoBulkAll {H : Type} : List (DataW H) → Nat
  | [] => 0
  | d :: r => uptoBulk d + uptoBulkAll r
def uptoBulkEntries {H : Type} : List (Lit × DataW H) → Nat
  | [] => 0
  | x :: r => uptoBulkEntry x + uptoBulkEntries r
def uptoBulkEntry {H : Type} : Lit × DataW H → Nat
  | (.string bytes, d) => bytes.length + uptoBulk d + 1
  | (_, d) => uptoBulk d + 1
 end
def uptoSmall : (H : Type) → List (DataW H) → Bool := fun _ ds => decide (uptoBulkAll ds ≤ 1048576)
def OpenSpec.upto (s : _root_.Go.ChangeSpec) : _root_.Go.OpenSpec := { _root_.Go.OpenSpec.ofChange s with cond := some uptoSmall }

/-- 'innkeeplaw14.KeysSort', WHERE WHAT IT READS IS OF BULK AT MOST 1048576: true; the input reads as it did. -/
def keysSortUptoRow : OpenClaim := { program := "ytobegmljkfphjaa", sum := "b8c819b83063d8ca071b31034d5c75564c7ac9d72ca662ef912f508e865ef3d5", func := "innkeep/innkeeplaw14.KeysSort", spec := "keysSort", unfollowed := true, recurses := true, plainKeys := false, apart := false, narrowed := true }
def KeysSortUptoSaid : Prop := keysSortUptoRow.holds Try.pinned (OpenSpec.upto keysSortSpec)

/-- 'innkeeplaw14.KeysPlace', WHERE WHAT IT READS IS OF BULK AT MOST 1048576: true; the input reads as it did. -/
def keysPlaceUptoRow : OpenClaim := { program := "ytobegmljkfphjaa", sum := "b8c819b83063d8ca071b31034d5c75564c7ac9d72ca662ef912f508e865ef3d5", func := "innkeep/innkeeplaw14.KeysPlace", spec := "keysPlace", unfollowed := true, recurses := true, plainKeys := false, apart := false, narrowed := true }
def KeysPlaceUptoSaid : Prop := keysPlaceUptoRow.holds Try.pinned (OpenSpec.upto keysPlaceSpec)

/-- 'innkeeplaw14.KeysOrder', WHERE WHAT IT READS IS OF BULK AT MOST 1048576: true; the input reads as it did. -/
def keysOrderUptoRow : OpenClaim := { program := "ytobegmljkfphjaa", sum := "b8c819b83063d8ca071b31034d5c75564c7ac9d72ca662ef912f508e865ef3d5", func := "innkeep/innkeeplaw14.KeysOrder", spec := "keysOrder", unfollowed := true, recurses := true, plainKeys := false, apart := false, narrowed := true }
def KeysOrderUptoSaid : Prop := keysOrderUptoRow.holds Try.pinned (OpenSpec.upto keysOrderSpec)

/-- 'innkeeplaw14.KeysKeep', WHERE WHAT IT READS IS OF BULK AT MOST 1048576: true; the input reads as it did. -/
def keysKeepUptoRow : OpenClaim := { program := "ytobegmljkfphjaa", sum := "b8c819b83063d8ca071b31034d5c75564c7ac9d72ca662ef912f508e865ef3d5", func := "innkeep/innkeeplaw14.KeysKeep", spec := "keysKeep", unfollowed := true, recurses := true, plainKeys := false, apart := false, narrowed := true }
def KeysKeepUptoSaid : Prop := keysKeepUptoRow.holds Try.pinned (OpenSpec.upto keysKeepSpec)

/-- 'innkeeplaw14.KeysFrom', WHERE WHAT IT READS IS OF BULK AT MOST 1048576: true; the input reads as it did. -/
def keysFromUptoRow : OpenClaim := { program := "ytobegmljkfphjaa", sum := "b8c819b83063d8ca071b31034d5c75564c7ac9d72ca662ef912f508e865ef3d5", func := "innkeep/innkeeplaw14.KeysFrom", spec := "keysFrom", unfollowed := true, recurses := true, plainKeys := false, apart := false, narrowed := true }
def KeysFromUptoSaid : Prop := keysFromUptoRow.holds Try.pinned (OpenSpec.upto keysFromSpec)

end Rows
end Go.Proofs.Ytobegmljkfphjaa
