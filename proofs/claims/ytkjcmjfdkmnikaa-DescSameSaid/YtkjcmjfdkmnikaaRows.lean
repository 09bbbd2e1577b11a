/-
  No cell of these rows narrows 'for every input' (looked for: loops, veiled, ifaces, maps, wideKeys, modest, calm, conditions, laid).
  DERIVED. THE GIVEN ROWS OF THIS SEAT. 5 by the template 'for every input the law returns true; each argument reads behind the call as it read before'; 0 by the template 'total and deterministic' (their statements: YtkjcmjfdkmnikaaTotals.lean).
  GIVEN WITH THE SEED: the statements are not yours to turn. If you find one false, say at which input.
  Laid BY PROGRAM, IN A SANDBOX (cutbox-rows.mjs): the forced cells as the released guide's own fill.sh prints them over the translation 7fcb2d218947e95e… (all of the seat's roots in one cut). By AI agents, Wed Nov 11 2026. No macro, syntax, notation, axiom, sorry.
-/
import Derived.Test.YtkjcmjfdkmnikaaChecked
import GoSem.Claim
import GoSem.ClaimJoined
import GoSem.ClaimMapViews
import Derived.JoinedTies
import Derived.KernelRfl
namespace Go.Proofs.Ytkjcmjfdkmnikaa
/- THE CELL 'sum', in the pinned program and in every row, IS THE sha256 OF THE DUMP (.gsa) THAT YtkjcmjfdkmnikaaProg.lean LOADS. Nothing in Lean hashes anything: it is a label: what it is worth is what the hold of that sum in a sandbox is worth. -/
noncomputable def Try.pinned : Pinned := { name := "ytkjcmjfdkmnikaa", sum := "7fcb2d218947e95e66d63c672feb3186f44f6ccd20c3487999e0ab286367f1e8", checked := Try.checked }
namespace Rows
def none {H : Type} : Left H := { results := [], args := [] }

/-- 'innkeeplaw06.DescMakes': WHATEVER THE INPUT: true; the input reads as it did. -/
def descMakesSpec : ChangeSpec := { name := "descMakes", fn := fun _ => fun
  | [d1, d2, d3] => { results := [.lit (.bool true)], args := [d1, d2, d3] }
  | _ => none }
def descMakesRow : OpenClaim := { program := "ytkjcmjfdkmnikaa", sum := "7fcb2d218947e95e66d63c672feb3186f44f6ccd20c3487999e0ab286367f1e8", func := "innkeep/innkeeplaw06.DescMakes", spec := "descMakes", unfollowed := true, recurses := true, plainKeys := false, apart := false }
def DescMakesSaid : Prop := descMakesRow.holds Try.pinned (OpenSpec.ofChange descMakesSpec)

/-- ITS FALSE NEIGHBOUR: 'it returns false'. Refute it at one input. -/
def descMakesWrong : ChangeSpec := { name := "descMakes", fn := fun _ => fun
  | [d1, d2, d3] => { results := [.lit (.bool false)], args := [d1, d2, d3] }
  | _ => none }
def DescMakesWrongFalsely : Prop := descMakesRow.holds Try.pinned (OpenSpec.ofChange descMakesWrong)

/-- 'innkeeplaw06.DescRight': WHATEVER THE INPUT: true; the input reads as it did. -/
def descRightSpec : ChangeSpec := { name := "descRight", fn := fun _ => fun
  | [d1, d2] => { results := [.lit (.bool true)], args := [d1, d2] }
  | _ => none }
def descRightRow : OpenClaim := { program := "ytkjcmjfdkmnikaa", sum := "7fcb2d218947e95e66d63c672feb3186f44f6ccd20c3487999e0ab286367f1e8", func := "innkeep/innkeeplaw06.DescRight", spec := "descRight", unfollowed := true, recurses := true, plainKeys := false, apart := false }
def DescRightSaid : Prop := descRightRow.holds Try.pinned (OpenSpec.ofChange descRightSpec)

/-- ITS FALSE NEIGHBOUR: 'it returns false'. Refute it at one input. -/
def descRightWrong : ChangeSpec := { name := "descRight", fn := fun _ => fun
  | [d1, d2] => { results := [.lit (.bool false)], args := [d1, d2] }
  | _ => none }
def DescRightWrongFalsely : Prop := descRightRow.holds Try.pinned (OpenSpec.ofChange descRightWrong)

/-- 'innkeeplaw06.DescKeeps': WHATEVER THE INPUT: true; the input reads as it did. -/
def descKeepsSpec : ChangeSpec := { name := "descKeeps", fn := fun _ => fun
  | [d] => { results := [.lit (.bool true)], args := [d] }
  | _ => none }
def descKeepsRow : OpenClaim := { program := "ytkjcmjfdkmnikaa", sum := "7fcb2d218947e95e66d63c672feb3186f44f6ccd20c3487999e0ab286367f1e8", func := "innkeep/innkeeplaw06.DescKeeps", spec := "descKeeps", unfollowed := true, recurses := true, plainKeys := false, apart := false }
def DescKeepsSaid : Prop := descKeepsRow.holds Try.pinned (OpenSpec.ofChange descKeepsSpec)

/-- ITS FALSE NEIGHBOUR: 'it returns false'. Refute it at one input. -/
def descKeepsWrong : ChangeSpec := { name := "descKeeps", fn := fun _ => fun
  | [d] => { results := [.lit (.bool false)], args := [d] }
  | _ => none }
def DescKeepsWrongFalsely : Prop := descKeepsRow.holds Try.pinned (OpenSpec.ofChange descKeepsWrong)

/-- 'innkeeplaw06.DescCaps': WHATEVER THE INPUT: true; the input reads as it did. -/
def descCapsSpec : ChangeSpec := { name := "descCaps", fn := fun _ => fun
  | [d1, d2, d3, d4] => { results := [.lit (.bool true)], args := [d1, d2, d3, d4] }
  | _ => none }
def descCapsRow : OpenClaim := { program := "ytkjcmjfdkmnikaa", sum := "7fcb2d218947e95e66d63c672feb3186f44f6ccd20c3487999e0ab286367f1e8", func := "innkeep/innkeeplaw06.DescCaps", spec := "descCaps", unfollowed := true, recurses := true, plainKeys := false, apart := false }
def DescCapsSaid : Prop := descCapsRow.holds Try.pinned (OpenSpec.ofChange descCapsSpec)

/-- ITS FALSE NEIGHBOUR: 'it returns false'. Refute it at one input. -/
def descCapsWrong : ChangeSpec := { name := "descCaps", fn := fun _ => fun
  | [d1, d2, d3, d4] => { results := [.lit (.bool false)], args := [d1, d2, d3, d4] }
  | _ => none }
def DescCapsWrongFalsely : Prop := descCapsRow.holds Try.pinned (OpenSpec.ofChange descCapsWrong)

/-- 'innkeeplaw06.DescSame': WHATEVER THE INPUT: true; the input reads as it did. -/
def descSameSpec : ChangeSpec := { name := "descSame", fn := fun _ => fun
  | [d1, d2] => { results := [.lit (.bool true)], args := [d1, d2] }
  | _ => none }
def descSameRow : OpenClaim := { program := "ytkjcmjfdkmnikaa", sum := "7fcb2d218947e95e66d63c672feb3186f44f6ccd20c3487999e0ab286367f1e8", func := "innkeep/innkeeplaw06.DescSame", spec := "descSame", unfollowed := true, recurses := true, plainKeys := false, apart := false }
def DescSameSaid : Prop := descSameRow.holds Try.pinned (OpenSpec.ofChange descSameSpec)

/-- ITS FALSE NEIGHBOUR: 'it returns false'. Refute it at one input. -/
def descSameWrong : ChangeSpec := { name := "descSame", fn := fun _ => fun
  | [d1, d2] => { results := [.lit (.bool false)], args := [d1, d2] }
  | _ => none }
def DescSameWrongFalsely : Prop := descSameRow.holds Try.pinned (OpenSpec.ofChange descSameWrong)

/- THE SECOND FORM. 'bulk': how many values and letters a reading holds, each counted each time it is reached (what is shared counts as often as it is met; a slice's spare places count too). A statement '..UptoSaid' is the law's where the arguments, and the package variables that the reading takes, are together of bulk at most 1048576: NARROWER than '..Said'. Prove '..Said' where nothing that the law and all that it calls make is longer than what came in: it says more and counts as full. Else prove '..UptoSaid'. A law counts once. -/
mutual
def uptoBulk {H : Type} : DataW H → Nat
  | .lit (.string bytes) => bytes.length + 1
  | .lit _ => 1
  | .nil => 1
  | .ptr d => uptoBulk d + 1
  | .slice elems spare => uptoBulkAll elems + uptoBulkAll spare + 1
  | .agg parts => uptoBulkAll parts + 1
  | .iface _ d => uptoBulk d + 1
  | .map entries => uptoBulkEntries entries + 1
  | .held _ => 1
def uptoBulkAll {H : Type} : List (DataW H) → Nat
  | [] => 0
  | d :: r => uptoBulk d + uptoBulkAll r
def uptoBulkEntries {H : Type} : List (Lit × DataW H) → Nat
  | [] => 0
  | x :: r => uptoBulkEntry x + uptoBulkEntries r
def uptoBulkEntry {H : Type} : Lit × DataW H → Nat
  | (.string bytes, d) => bytes.length + uptoBulk d + 1
  | (_, d) => uptoBulk d + 1
 end
def uptoSmall : (H : Type) → List (DataW H) → Bool := fun _ ds => decide (uptoBulkAll ds ≤ 1048576)
def OpenSpec.upto (s : _root_.Go.ChangeSpec) : _root_.Go.OpenSpec := { _root_.Go.OpenSpec.ofChange s with cond := some uptoSmall }

/-- 'innkeeplaw06.DescMakes', WHERE WHAT IT READS IS OF BULK AT MOST 1048576: true; the input reads as it did. -/
def descMakesUptoRow : OpenClaim := { program := "ytkjcmjfdkmnikaa", sum := "7fcb2d218947e95e66d63c672feb3186f44f6ccd20c3487999e0ab286367f1e8", func := "innkeep/innkeeplaw06.DescMakes", spec := "descMakes", unfollowed := true, recurses := true, plainKeys := false, apart := false, narrowed := true }
def DescMakesUptoSaid : Prop := descMakesUptoRow.holds Try.pinned (OpenSpec.upto descMakesSpec)

/-- 'innkeeplaw06.DescRight', WHERE WHAT IT READS IS OF BULK AT MOST 1048576: true; the input reads as it did. -/
def descRightUptoRow : OpenClaim := { program := "ytkjcmjfdkmnikaa", sum := "7fcb2d218947e95e66d63c672feb3186f44f6ccd20c3487999e0ab286367f1e8", func := "innkeep/innkeeplaw06.DescRight", spec := "descRight", unfollowed := true, recurses := true, plainKeys := false, apart := false, narrowed := true }
def DescRightUptoSaid : Prop := descRightUptoRow.holds Try.pinned (OpenSpec.upto descRightSpec)

/-- 'innkeeplaw06.DescKeeps', WHERE WHAT IT READS IS OF BULK AT MOST 1048576: true; the input reads as it did. -/
def descKeepsUptoRow : OpenClaim := { program := "ytkjcmjfdkmnikaa", sum := "7fcb2d218947e95e66d63c672feb3186f44f6ccd20c3487999e0ab286367f1e8", func := "innkeep/innkeeplaw06.DescKeeps", spec := "descKeeps", unfollowed := true, recurses := true, plainKeys := false, apart := false, narrowed := true }
def DescKeepsUptoSaid : Prop := descKeepsUptoRow.holds Try.pinned (OpenSpec.upto descKeepsSpec)

/-- 'innkeeplaw06.DescCaps', WHERE WHAT IT READS IS OF BULK AT MOST 1048576: true; the input reads as it did. -/
def descCapsUptoRow : OpenClaim := { program := "ytkjcmjfdkmnikaa", sum := "7fcb2d218947e95e66d63c672feb3186f44f6ccd20c3487999e0ab286367f1e8", func := "innkeep/innkeeplaw06.DescCaps", spec := "descCaps", unfollowed := true, recurses := true, plainKeys := false, apart := false, narrowed := true }
def DescCapsUptoSaid : Prop := descCapsUptoRow.holds Try.pinned (OpenSpec.upto descCapsSpec)

/-- 'innkeeplaw06.DescSame', WHERE WHAT IT READS IS OF BULK AT MOST 1048576: true; the input reads as it did. -/
def descSameUptoRow : OpenClaim := { program := "ytkjcmjfdkmnikaa", sum := "7fcb2d218947e95e66d63c672feb3186f44f6ccd20c3487999e0ab286367f1e8", func := "innkeep/innkeeplaw06.DescSame", spec := "descSame", unfollowed := true, recurses := true, plainKeys := false, apart := false, narrowed := true }
def DescSameUptoSaid : Prop := descSameUptoRow.holds Try.pinned (OpenSpec.upto descSameSpec)

end Rows
end Go.Proofs.Ytkjcmjfdkmnikaa
