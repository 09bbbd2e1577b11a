/-
  No cell of these rows narrows 'for every input' (looked for: loops, veiled, ifaces, maps, wideKeys, modest, calm, conditions, laid).
  DERIVED. THE GIVEN ROWS OF THIS SEAT. 4 by the template 'for every input the law returns true; each argument reads behind the call as it read before'; 0 by the template 'total and deterministic' (their statements: YtdbogcinhmfmpaaTotals.lean).
  GIVEN WITH THE SEED: the statements are not yours to turn. If you find one false, say at which input.
  Laid BY PROGRAM, IN A SANDBOX (cutbox-rows.mjs): the forced cells as the released guide's own fill.sh prints them over the translation 113ec9eec94ef0b3… (all of the seat's roots in one cut). By AI agents, Wed Nov 11 2026. No macro, syntax, notation, axiom, sorry.
-/
import Derived.Test.YtdbogcinhmfmpaaChecked
import GoSem.Claim
import GoSem.ClaimJoined
import GoSem.ClaimMapViews
import Derived.JoinedTies
import Derived.KernelRfl
namespace Go.Proofs.Ytdbogcinhmfmpaa
/- THE CELL 'sum', in the pinned program and in every row, IS THE sha256 OF THE DUMP (.gsa) THAT YtdbogcinhmfmpaaProg.lean LOADS. Nothing in Lean hashes anything: it is a label: what it is worth is what the hold of that sum in a sandbox is worth. -/
noncomputable def Try.pinned : Pinned := { name := "ytdbogcinhmfmpaa", sum := "113ec9eec94ef0b3ee318e8df5f5d2ca24fd12cff35f61471c15cb322b430c80", checked := Try.checked }
namespace Rows
def none {H : Type} : Left H := { results := [], args := [] }

/-- 'innkeeplaw11.GiftsDo': WHATEVER THE INPUT: true; the input reads as it did. -/
def giftsDoSpec : ChangeSpec := { name := "giftsDo", fn := fun _ => fun
  | [d1, d2, d3, d4, d5] => { results := [.lit (.bool true)], args := [d1, d2, d3, d4, d5] }
  | _ => none }
def giftsDoRow : OpenClaim := { program := "ytdbogcinhmfmpaa", sum := "113ec9eec94ef0b3ee318e8df5f5d2ca24fd12cff35f61471c15cb322b430c80", func := "innkeep/innkeeplaw11.GiftsDo", spec := "giftsDo", unfollowed := true, recurses := true, apart := false }
def GiftsDoSaid : Prop := giftsDoRow.holds Try.pinned (OpenSpec.ofChange giftsDoSpec)

/-- ITS FALSE NEIGHBOUR: 'it returns false'. Refute it at one input. -/
def giftsDoWrong : ChangeSpec := { name := "giftsDo", fn := fun _ => fun
  | [d1, d2, d3, d4, d5] => { results := [.lit (.bool false)], args := [d1, d2, d3, d4, d5] }
  | _ => none }
def GiftsDoWrongFalsely : Prop := giftsDoRow.holds Try.pinned (OpenSpec.ofChange giftsDoWrong)

/-- 'innkeeplaw11.GiftsKeep': WHATEVER THE INPUT: true; the input reads as it did. -/
def giftsKeepSpec : ChangeSpec := { name := "giftsKeep", fn := fun _ => fun
  | [d1, d2, d3] => { results := [.lit (.bool true)], args := [d1, d2, d3] }
  | _ => none }
def giftsKeepRow : OpenClaim := { program := "ytdbogcinhmfmpaa", sum := "113ec9eec94ef0b3ee318e8df5f5d2ca24fd12cff35f61471c15cb322b430c80", func := "innkeep/innkeeplaw11.GiftsKeep", spec := "giftsKeep", unfollowed := true, recurses := true, apart := false }
def GiftsKeepSaid : Prop := giftsKeepRow.holds Try.pinned (OpenSpec.ofChange giftsKeepSpec)

/-- ITS FALSE NEIGHBOUR: 'it returns false'. Refute it at one input. -/
def giftsKeepWrong : ChangeSpec := { name := "giftsKeep", fn := fun _ => fun
  | [d1, d2, d3] => { results := [.lit (.bool false)], args := [d1, d2, d3] }
  | _ => none }
def GiftsKeepWrongFalsely : Prop := giftsKeepRow.holds Try.pinned (OpenSpec.ofChange giftsKeepWrong)

/-- 'innkeeplaw11.GiftsGive': WHATEVER THE INPUT: true; the input reads as it did. -/
def giftsGiveSpec : ChangeSpec := { name := "giftsGive", fn := fun _ => fun
  | [d1, d2, d3, d4] => { results := [.lit (.bool true)], args := [d1, d2, d3, d4] }
  | _ => none }
def giftsGiveRow : OpenClaim := { program := "ytdbogcinhmfmpaa", sum := "113ec9eec94ef0b3ee318e8df5f5d2ca24fd12cff35f61471c15cb322b430c80", func := "innkeep/innkeeplaw11.GiftsGive", spec := "giftsGive", unfollowed := true, recurses := true, apart := false }
def GiftsGiveSaid : Prop := giftsGiveRow.holds Try.pinned (OpenSpec.ofChange giftsGiveSpec)

/-- ITS FALSE NEIGHBOUR: 'it returns false'. Refute it at one input. -/
def giftsGiveWrong : ChangeSpec := { name := "giftsGive", fn := fun _ => fun
  | [d1, d2, d3, d4] => { results := [.lit (.bool false)], args := [d1, d2, d3, d4] }
  | _ => none }
def GiftsGiveWrongFalsely : Prop := giftsGiveRow.holds Try.pinned (OpenSpec.ofChange giftsGiveWrong)

/-- 'innkeeplaw11.GiftsNone': WHATEVER THE INPUT: true; the input reads as it did. -/
def giftsNoneSpec : ChangeSpec := { name := "giftsNone", fn := fun _ => fun
  | [d1, d2, d3, d4] => { results := [.lit (.bool true)], args := [d1, d2, d3, d4] }
  | _ => none }
def giftsNoneRow : OpenClaim := { program := "ytdbogcinhmfmpaa", sum := "113ec9eec94ef0b3ee318e8df5f5d2ca24fd12cff35f61471c15cb322b430c80", func := "innkeep/innkeeplaw11.GiftsNone", spec := "giftsNone", unfollowed := true, recurses := true, apart := false }
def GiftsNoneSaid : Prop := giftsNoneRow.holds Try.pinned (OpenSpec.ofChange giftsNoneSpec)

/-- ITS FALSE NEIGHBOUR: 'it returns false'. Refute it at one input. -/
def giftsNoneWrong : ChangeSpec := { name := "giftsNone", fn := fun _ => fun
  | [d1, d2, d3, d4] => { results := [.lit (.bool false)], args := [d1, d2, d3, d4] }
  | _ => none }
def GiftsNoneWrongFalsely : Prop := giftsNoneRow.holds Try.pinned (OpenSpec.ofChange giftsNoneWrong)

/- THE SECOND FORM. 'bulk': how many values and letters a reading holds, each counted each time it is reached (what is shared counts as often as it is met; a slice's spare places count too). A statement '..UptoSaid' is the law's where the arguments, and the package variables that the reading takes, are together of bulk at most 1048576: NARROWER than '..Said'. Prove '..Said' where nothing that the law and all that it calls make is longer than what came in: it says more and counts as full. Else prove '..UptoSaid'. A law counts once. -/
mutual
def uptoBulk {H : Type} : DataW H → Nat
  | .lit (.string bytes) => bytes.length + 1
  | .lit _ => 1
  | .nil => 1
  | .ptr d => uptoBulk d + 1
  | .slice elems spare => uptoBulkAll elems + uptoBulkAll spare + 1
  | .agg parts => uptoBulkAll parts + 1
  | .iface _ d => uptoBulk d + 1
  | .map entries => uptoBulkEntries entries + 1
  | .held _ => 1
def uptoBulkAll {H : Type} : List (DataW H) → Nat
  | [] => 0
  | d :: r => uptoBulk d + uptoBulkAll r
def uptoBulkEntries {H : Type} : List (Lit × DataW H) → Nat
  | [] => 0
  | x :: r => uptoBulkEntry x + uptoBulkEntries r
def uptoBulkEntry {H : Type} : Lit × DataW H → Nat
  | (.string bytes, d) => bytes.length + uptoBulk d + 1
  | (_, d) => uptoBulk d + 1
 end
def uptoSmall : (H : Type) → List (DataW H) → Bool := fun _ ds => decide (uptoBulkAll ds ≤ 1048576)
def OpenSpec.upto (s : _root_.Go.ChangeSpec) : _root_.Go.OpenSpec := { _root_.Go.OpenSpec.ofChange s with cond := some uptoSmall }

/-- 'innkeeplaw11.GiftsDo', WHERE WHAT IT READS IS OF BULK AT MOST 1048576: true; the input reads as it did. -/
def giftsDoUptoRow : OpenClaim := { program := "ytdbogcinhmfmpaa", sum := "113ec9eec94ef0b3ee318e8df5f5d2ca24fd12cff35f61471c15cb322b430c80", func := "innkeep/innkeeplaw11.GiftsDo", spec := "giftsDo", unfollowed := true, recurses := true, apart := false, narrowed := true }
def GiftsDoUptoSaid : Prop := giftsDoUptoRow.holds Try.pinned (OpenSpec.upto giftsDoSpec)

/-- 'innkeeplaw11.GiftsKeep', WHERE WHAT IT READS IS OF BULK AT MOST 1048576: true; the input reads as it did. -/
def giftsKeepUptoRow : OpenClaim := { program := "ytdbogcinhmfmpaa", sum := "113ec9eec94ef0b3ee318e8df5f5d2ca24fd12cff35f61471c15cb322b430c80", func := "innkeep/innkeeplaw11.GiftsKeep", spec := "giftsKeep", unfollowed := true, recurses := true, apart := false, narrowed := true }
def GiftsKeepUptoSaid : Prop := giftsKeepUptoRow.holds Try.pinned (OpenSpec.upto giftsKeepSpec)

/-- 'innkeeplaw11.GiftsGive', WHERE WHAT IT READS IS OF BULK AT MOST 1048576: true; the input reads as it did. -/
def giftsGiveUptoRow : OpenClaim := { program := "ytdbogcinhmfmpaa", sum := "113ec9eec94ef0b3ee318e8df5f5d2ca24fd12cff35f61471c15cb322b430c80", func := "innkeep/innkeeplaw11.GiftsGive", spec := "giftsGive", unfollowed := true, recurses := true, apart := false, narrowed := true }
def GiftsGiveUptoSaid : Prop := giftsGiveUptoRow.holds Try.pinned (OpenSpec.upto giftsGiveSpec)

/-- 'innkeeplaw11.GiftsNone', WHERE WHAT IT READS IS OF BULK AT MOST 1048576: true; the input reads as it did. -/
def giftsNoneUptoRow : OpenClaim := { program := "ytdbogcinhmfmpaa", sum := "113ec9eec94ef0b3ee318e8df5f5d2ca24fd12cff35f61471c15cb322b430c80", func := "innkeep/innkeeplaw11.GiftsNone", spec := "giftsNone", unfollowed := true, recurses := true, apart := false, narrowed := true }
def GiftsNoneUptoSaid : Prop := giftsNoneUptoRow.holds Try.pinned (OpenSpec.upto giftsNoneSpec)

end Rows
end Go.Proofs.Ytdbogcinhmfmpaa
