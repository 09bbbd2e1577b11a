/-
  No cell of these rows narrows 'for every input' (looked for: loops, veiled, ifaces, maps, wideKeys, modest, calm, conditions, laid).
  DERIVED. THE GIVEN ROWS OF THIS SEAT. 5 by the template 'for every input the law returns true; each argument reads behind the call as it read before'; 0 by the template 'total and deterministic' (their statements: YtdlpogefdccacaaTotals.lean).
  GIVEN WITH THE SEED: the statements are not yours to turn. If you find one false, say at which input.
  Laid BY PROGRAM, IN A SANDBOX (cutbox-rows.mjs): the forced cells as the released guide's own fill.sh prints them over the translation 63db93ea9277f841… (all of the seat's roots in one cut). By AI agents, Wed Nov 11 2026. No macro, syntax, notation, axiom, sorry.
-/
import Derived.Test.YtdlpogefdccacaaChecked
import GoSem.Claim
import GoSem.ClaimJoined
import GoSem.ClaimMapViews
import Derived.JoinedTies
import Derived.KernelRfl
namespace Go.Proofs.Ytdlpogefdccacaa
/- THE CELL 'sum', in the pinned program and in every row, IS THE sha256 OF THE DUMP (.gsa) THAT YtdlpogefdccacaaProg.lean LOADS. Nothing in Lean hashes anything: it is a label: what it is worth is what the hold of that sum in a sandbox is worth. -/
noncomputable def Try.pinned : Pinned := { name := "ytdlpogefdccacaa", sum := "63db93ea9277f841bebc5d36569f0c4984fa79274f5c7828a7636187eabeefb4", checked := Try.checked }
namespace Rows
def none {H : Type} : Left H := { results := [], args := [] }

/-- 'innkeeplaw01.CoinMoves': WHATEVER THE INPUT: true; the input reads as it did. -/
def coinMovesSpec : ChangeSpec := { name := "coinMoves", fn := fun _ => fun
  | [d1, d2, d3, d4] => { results := [.lit (.bool true)], args := [d1, d2, d3, d4] }
  | _ => none }
def coinMovesRow : OpenClaim := { program := "ytdlpogefdccacaa", sum := "63db93ea9277f841bebc5d36569f0c4984fa79274f5c7828a7636187eabeefb4", func := "innkeep/innkeeplaw01.CoinMoves", spec := "coinMoves", apart := false }
def CoinMovesSaid : Prop := coinMovesRow.holds Try.pinned (OpenSpec.ofChange coinMovesSpec)

/-- ITS FALSE NEIGHBOUR: 'it returns false'. Refute it at one input. -/
def coinMovesWrong : ChangeSpec := { name := "coinMoves", fn := fun _ => fun
  | [d1, d2, d3, d4] => { results := [.lit (.bool false)], args := [d1, d2, d3, d4] }
  | _ => none }
def CoinMovesWrongFalsely : Prop := coinMovesRow.holds Try.pinned (OpenSpec.ofChange coinMovesWrong)

/-- 'innkeeplaw01.CoinKeeps': WHATEVER THE INPUT: true; the input reads as it did. -/
def coinKeepsSpec : ChangeSpec := { name := "coinKeeps", fn := fun _ => fun
  | [d1, d2, d3, d4] => { results := [.lit (.bool true)], args := [d1, d2, d3, d4] }
  | _ => none }
def coinKeepsRow : OpenClaim := { program := "ytdlpogefdccacaa", sum := "63db93ea9277f841bebc5d36569f0c4984fa79274f5c7828a7636187eabeefb4", func := "innkeep/innkeeplaw01.CoinKeeps", spec := "coinKeeps", apart := false }
def CoinKeepsSaid : Prop := coinKeepsRow.holds Try.pinned (OpenSpec.ofChange coinKeepsSpec)

/-- ITS FALSE NEIGHBOUR: 'it returns false'. Refute it at one input. -/
def coinKeepsWrong : ChangeSpec := { name := "coinKeeps", fn := fun _ => fun
  | [d1, d2, d3, d4] => { results := [.lit (.bool false)], args := [d1, d2, d3, d4] }
  | _ => none }
def CoinKeepsWrongFalsely : Prop := coinKeepsRow.holds Try.pinned (OpenSpec.ofChange coinKeepsWrong)

/-- 'innkeeplaw01.CoinSums': WHATEVER THE INPUT: true; the input reads as it did. -/
def coinSumsSpec : ChangeSpec := { name := "coinSums", fn := fun _ => fun
  | [d1, d2] => { results := [.lit (.bool true)], args := [d1, d2] }
  | _ => none }
def coinSumsRow : OpenClaim := { program := "ytdlpogefdccacaa", sum := "63db93ea9277f841bebc5d36569f0c4984fa79274f5c7828a7636187eabeefb4", func := "innkeep/innkeeplaw01.CoinSums", spec := "coinSums", apart := false }
def CoinSumsSaid : Prop := coinSumsRow.holds Try.pinned (OpenSpec.ofChange coinSumsSpec)

/-- ITS FALSE NEIGHBOUR: 'it returns false'. Refute it at one input. -/
def coinSumsWrong : ChangeSpec := { name := "coinSums", fn := fun _ => fun
  | [d1, d2] => { results := [.lit (.bool false)], args := [d1, d2] }
  | _ => none }
def CoinSumsWrongFalsely : Prop := coinSumsRow.holds Try.pinned (OpenSpec.ofChange coinSumsWrong)

/-- 'innkeeplaw01.CoinTwice': WHATEVER THE INPUT: true; the input reads as it did. -/
def coinTwiceSpec : ChangeSpec := { name := "coinTwice", fn := fun _ => fun
  | [d1, d2, d3, d4] => { results := [.lit (.bool true)], args := [d1, d2, d3, d4] }
  | _ => none }
def coinTwiceRow : OpenClaim := { program := "ytdlpogefdccacaa", sum := "63db93ea9277f841bebc5d36569f0c4984fa79274f5c7828a7636187eabeefb4", func := "innkeep/innkeeplaw01.CoinTwice", spec := "coinTwice", apart := false }
def CoinTwiceSaid : Prop := coinTwiceRow.holds Try.pinned (OpenSpec.ofChange coinTwiceSpec)

/-- ITS FALSE NEIGHBOUR: 'it returns false'. Refute it at one input. -/
def coinTwiceWrong : ChangeSpec := { name := "coinTwice", fn := fun _ => fun
  | [d1, d2, d3, d4] => { results := [.lit (.bool false)], args := [d1, d2, d3, d4] }
  | _ => none }
def CoinTwiceWrongFalsely : Prop := coinTwiceRow.holds Try.pinned (OpenSpec.ofChange coinTwiceWrong)

/-- 'innkeeplaw01.CoinTurned': WHATEVER THE INPUT: true; the input reads as it did. -/
def coinTurnedSpec : ChangeSpec := { name := "coinTurned", fn := fun _ => fun
  | [d1, d2, d3, d4] => { results := [.lit (.bool true)], args := [d1, d2, d3, d4] }
  | _ => none }
def coinTurnedRow : OpenClaim := { program := "ytdlpogefdccacaa", sum := "63db93ea9277f841bebc5d36569f0c4984fa79274f5c7828a7636187eabeefb4", func := "innkeep/innkeeplaw01.CoinTurned", spec := "coinTurned", apart := false }
def CoinTurnedSaid : Prop := coinTurnedRow.holds Try.pinned (OpenSpec.ofChange coinTurnedSpec)

/-- ITS FALSE NEIGHBOUR: 'it returns false'. Refute it at one input. -/
def coinTurnedWrong : ChangeSpec := { name := "coinTurned", fn := fun _ => fun
  | [d1, d2, d3, d4] => { results := [.lit (.bool false)], args := [d1, d2, d3, d4] }
  | _ => none }
def CoinTurnedWrongFalsely : Prop := coinTurnedRow.holds Try.pinned (OpenSpec.ofChange coinTurnedWrong)

/- THE SECOND FORM. 'bulk': how many values and letters a reading holds, each counted each time it is reached (what is shared counts as often as it is met; a slice's spare places count too). A statement '..UptoSaid' is the law's where the arguments, and the package variables that the reading takes, are together of bulk at most 1048576: NARROWER than '..Said'. Prove '..Said' where nothing that the law and all that it calls make is longer than what came in: it says more and counts as full. Else prove '..UptoSaid'. A law counts once. -/
mutual
def uptoBulk {H : Type} : DataW H → Nat
  | .lit (.string bytes) => bytes.length + 1
  | .lit _ => 1
  | .nil => 1
  | .ptr d => uptoBulk d + 1
  | .slice elems spare => uptoBulkAll elems + uptoBulkAll spare + 1
  | .agg parts => uptoBulkAll parts + 1
  | .iface _ d => uptoBulk d + 1
  | .map entries => uptoBulkEntries entries + 1
  | .held _ => 1
def uptoBulkAll {H : Type} : List (DataW H) → Nat
  | [] => 0
  | d :: r => uptoBulk d + uptoBulkAll r
def uptoBulkEntries {H : Type} : List (Lit × DataW H) → Nat
  | [] => 0
  | x :: r => uptoBulkEntry x + uptoBulkEntries r
def uptoBulkEntry {H : Type} : Lit × DataW H → Nat
  | (.string bytes, d) => bytes.length + uptoBulk d + 1
  | (_, d) => uptoBulk d + 1
 end
def uptoSmall : (H : Type) → List (DataW H) → Bool := fun _ ds => decide (uptoBulkAll ds ≤ 1048576)
def OpenSpec.upto (s : _root_.Go.ChangeSpec) : _root_.Go.OpenSpec := { _root_.Go.OpenSpec.ofChange s with cond := some uptoSmall }

/-- 'innkeeplaw01.CoinMoves', WHERE WHAT IT READS IS OF BULK AT MOST 1048576: true; the input reads as it did. -/
def coinMovesUptoRow : OpenClaim := { program := "ytdlpogefdccacaa", sum := "63db93ea9277f841bebc5d36569f0c4984fa79274f5c7828a7636187eabeefb4", func := "innkeep/innkeeplaw01.CoinMoves", spec := "coinMoves", apart := false, narrowed := true }
def CoinMovesUptoSaid : Prop := coinMovesUptoRow.holds Try.pinned (OpenSpec.upto coinMovesSpec)

/-- 'innkeeplaw01.CoinKeeps', WHERE WHAT IT READS IS OF BULK AT MOST 1048576: true; the input reads as it did. -/
def coinKeepsUptoRow : OpenClaim := { program := "ytdlpogefdccacaa", sum := "63db93ea9277f841bebc5d36569f0c4984fa79274f5c7828a7636187eabeefb4", func := "innkeep/innkeeplaw01.CoinKeeps", spec := "coinKeeps", apart := false, narrowed := true }
def CoinKeepsUptoSaid : Prop := coinKeepsUptoRow.holds Try.pinned (OpenSpec.upto coinKeepsSpec)

/-- 'innkeeplaw01.CoinSums', WHERE WHAT IT READS IS OF BULK AT MOST 1048576: true; the input reads as it did. -/
def coinSumsUptoRow : OpenClaim := { program := "ytdlpogefdccacaa", sum := "63db93ea9277f841bebc5d36569f0c4984fa79274f5c7828a7636187eabeefb4", func := "innkeep/innkeeplaw01.CoinSums", spec := "coinSums", apart := false, narrowed := true }
def CoinSumsUptoSaid : Prop := coinSumsUptoRow.holds Try.pinned (OpenSpec.upto coinSumsSpec)

/-- 'innkeeplaw01.CoinTwice', WHERE WHAT IT READS IS OF BULK AT MOST 1048576: true; the input reads as it did. -/
def coinTwiceUptoRow : OpenClaim := { program := "ytdlpogefdccacaa", sum := "63db93ea9277f841bebc5d36569f0c4984fa79274f5c7828a7636187eabeefb4", func := "innkeep/innkeeplaw01.CoinTwice", spec := "coinTwice", apart := false, narrowed := true }
def CoinTwiceUptoSaid : Prop := coinTwiceUptoRow.holds Try.pinned (OpenSpec.upto coinTwiceSpec)

/-- 'innkeeplaw01.CoinTurned', WHERE WHAT IT READS IS OF BULK AT MOST 1048576: true; the input reads as it did. -/
def coinTurnedUptoRow : OpenClaim := { program := "ytdlpogefdccacaa", sum := "63db93ea9277f841bebc5d36569f0c4984fa79274f5c7828a7636187eabeefb4", func := "innkeep/innkeeplaw01.CoinTurned", spec := "coinTurned", apart := false, narrowed := true }
def CoinTurnedUptoSaid : Prop := coinTurnedUptoRow.holds Try.pinned (OpenSpec.upto coinTurnedSpec)

end Rows
end Go.Proofs.Ytdlpogefdccacaa
