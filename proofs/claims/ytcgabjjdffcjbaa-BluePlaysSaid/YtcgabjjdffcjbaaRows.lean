/-
  No cell of these rows narrows 'for every input' (looked for: loops, veiled, ifaces, maps, wideKeys, modest, calm, conditions, laid).
  DERIVED. THE GIVEN ROWS OF THIS SEAT. 8 by the template 'for every input the law returns true; each argument reads behind the call as it read before'; 0 by the template 'total and deterministic' (their statements: YtcgabjjdffcjbaaTotals.lean).
  GIVEN WITH THE SEED: the statements are not yours to turn. If you find one false, say at which input.
  Laid BY PROGRAM, IN A SANDBOX (cutbox-rows.mjs): the forced cells as the released guide's own fill.sh prints them over the translation 647c2da1acdffc0a… (all of the seat's roots in one cut). By AI agents, Wed Nov 11 2026. No macro, syntax, notation, axiom, sorry.
-/
import Derived.Test.YtcgabjjdffcjbaaChecked
import GoSem.Claim
import GoSem.ClaimJoined
import GoSem.ClaimMapViews
import Derived.JoinedTies
import Derived.KernelRfl
namespace Go.Proofs.Ytcgabjjdffcjbaa
/- THE CELL 'sum', in the pinned program and in every row, IS THE sha256 OF THE DUMP (.gsa) THAT YtcgabjjdffcjbaaProg.lean LOADS. Nothing in Lean hashes anything: it is a label: what it is worth is what the hold of that sum in a sandbox is worth. -/
noncomputable def Try.pinned : Pinned := { name := "ytcgabjjdffcjbaa", sum := "647c2da1acdffc0a99010d99ea587f7e4300b3f96ec6b99817bb3dbb61fc6b8b", checked := Try.checked }
namespace Rows
def none {H : Type} : Left H := { results := [], args := [] }

/-- 'bailifflaw17.TokenPlays': WHATEVER THE INPUT: true; the input reads as it did. -/
def tokenPlaysSpec : ChangeSpec := { name := "tokenPlays", fn := fun _ => fun
  | [d1, d2, d3] => { results := [.lit (.bool true)], args := [d1, d2, d3] }
  | _ => none }
def tokenPlaysRow : OpenClaim := { program := "ytcgabjjdffcjbaa", sum := "647c2da1acdffc0a99010d99ea587f7e4300b3f96ec6b99817bb3dbb61fc6b8b", func := "bailiff/bailifflaw17.TokenPlays", spec := "tokenPlays", apart := false }
def TokenPlaysSaid : Prop := tokenPlaysRow.holds Try.pinned (OpenSpec.ofChange tokenPlaysSpec)

/-- ITS FALSE NEIGHBOUR: 'it returns false'. Refute it at one input. -/
def tokenPlaysWrong : ChangeSpec := { name := "tokenPlays", fn := fun _ => fun
  | [d1, d2, d3] => { results := [.lit (.bool false)], args := [d1, d2, d3] }
  | _ => none }
def TokenPlaysWrongFalsely : Prop := tokenPlaysRow.holds Try.pinned (OpenSpec.ofChange tokenPlaysWrong)

/-- 'bailifflaw17.TokenBounds': WHATEVER THE INPUT: true; the input reads as it did. -/
def tokenBoundsSpec : ChangeSpec := { name := "tokenBounds", fn := fun _ => fun
  | [d1, d2, d3, d4] => { results := [.lit (.bool true)], args := [d1, d2, d3, d4] }
  | _ => none }
def tokenBoundsRow : OpenClaim := { program := "ytcgabjjdffcjbaa", sum := "647c2da1acdffc0a99010d99ea587f7e4300b3f96ec6b99817bb3dbb61fc6b8b", func := "bailiff/bailifflaw17.TokenBounds", spec := "tokenBounds", apart := false }
def TokenBoundsSaid : Prop := tokenBoundsRow.holds Try.pinned (OpenSpec.ofChange tokenBoundsSpec)

/-- ITS FALSE NEIGHBOUR: 'it returns false'. Refute it at one input. -/
def tokenBoundsWrong : ChangeSpec := { name := "tokenBounds", fn := fun _ => fun
  | [d1, d2, d3, d4] => { results := [.lit (.bool false)], args := [d1, d2, d3, d4] }
  | _ => none }
def TokenBoundsWrongFalsely : Prop := tokenBoundsRow.holds Try.pinned (OpenSpec.ofChange tokenBoundsWrong)

/-- 'bailifflaw17.TokenFull': WHATEVER THE INPUT: true; the input reads as it did. -/
def tokenFullSpec : ChangeSpec := { name := "tokenFull", fn := fun _ => fun
  | [d1, d2, d3] => { results := [.lit (.bool true)], args := [d1, d2, d3] }
  | _ => none }
def tokenFullRow : OpenClaim := { program := "ytcgabjjdffcjbaa", sum := "647c2da1acdffc0a99010d99ea587f7e4300b3f96ec6b99817bb3dbb61fc6b8b", func := "bailiff/bailifflaw17.TokenFull", spec := "tokenFull", apart := false }
def TokenFullSaid : Prop := tokenFullRow.holds Try.pinned (OpenSpec.ofChange tokenFullSpec)

/-- ITS FALSE NEIGHBOUR: 'it returns false'. Refute it at one input. -/
def tokenFullWrong : ChangeSpec := { name := "tokenFull", fn := fun _ => fun
  | [d1, d2, d3] => { results := [.lit (.bool false)], args := [d1, d2, d3] }
  | _ => none }
def TokenFullWrongFalsely : Prop := tokenFullRow.holds Try.pinned (OpenSpec.ofChange tokenFullWrong)

/-- 'bailifflaw17.TokenNone': WHATEVER THE INPUT: true; the input reads as it did. -/
def tokenNoneSpec : ChangeSpec := { name := "tokenNone", fn := fun _ => fun
  | [d1, d2] => { results := [.lit (.bool true)], args := [d1, d2] }
  | _ => none }
def tokenNoneRow : OpenClaim := { program := "ytcgabjjdffcjbaa", sum := "647c2da1acdffc0a99010d99ea587f7e4300b3f96ec6b99817bb3dbb61fc6b8b", func := "bailiff/bailifflaw17.TokenNone", spec := "tokenNone", apart := false }
def TokenNoneSaid : Prop := tokenNoneRow.holds Try.pinned (OpenSpec.ofChange tokenNoneSpec)

/-- ITS FALSE NEIGHBOUR: 'it returns false'. Refute it at one input. -/
def tokenNoneWrong : ChangeSpec := { name := "tokenNone", fn := fun _ => fun
  | [d1, d2] => { results := [.lit (.bool false)], args := [d1, d2] }
  | _ => none }
def TokenNoneWrongFalsely : Prop := tokenNoneRow.holds Try.pinned (OpenSpec.ofChange tokenNoneWrong)

/-- 'bailifflaw20.BlueAlone': WHATEVER THE INPUT: true; the input reads as it did. -/
def blueAloneSpec : ChangeSpec := { name := "blueAlone", fn := fun _ => fun
  | [d1, d2] => { results := [.lit (.bool true)], args := [d1, d2] }
  | _ => none }
def blueAloneRow : OpenClaim := { program := "ytcgabjjdffcjbaa", sum := "647c2da1acdffc0a99010d99ea587f7e4300b3f96ec6b99817bb3dbb61fc6b8b", func := "bailiff/bailifflaw20.BlueAlone", spec := "blueAlone", unfollowed := true, recurses := true, apart := false }
def BlueAloneSaid : Prop := blueAloneRow.holds Try.pinned (OpenSpec.ofChange blueAloneSpec)

/-- ITS FALSE NEIGHBOUR: 'it returns false'. Refute it at one input. -/
def blueAloneWrong : ChangeSpec := { name := "blueAlone", fn := fun _ => fun
  | [d1, d2] => { results := [.lit (.bool false)], args := [d1, d2] }
  | _ => none }
def BlueAloneWrongFalsely : Prop := blueAloneRow.holds Try.pinned (OpenSpec.ofChange blueAloneWrong)

/-- 'bailifflaw20.BlueSteps': WHATEVER THE INPUT: true; the input reads as it did. -/
def blueStepsSpec : ChangeSpec := { name := "blueSteps", fn := fun _ => fun
  | [d1, d2, d3, d4, d5] => { results := [.lit (.bool true)], args := [d1, d2, d3, d4, d5] }
  | _ => none }
def blueStepsRow : OpenClaim := { program := "ytcgabjjdffcjbaa", sum := "647c2da1acdffc0a99010d99ea587f7e4300b3f96ec6b99817bb3dbb61fc6b8b", func := "bailiff/bailifflaw20.BlueSteps", spec := "blueSteps", unfollowed := true, recurses := true, apart := false }
def BlueStepsSaid : Prop := blueStepsRow.holds Try.pinned (OpenSpec.ofChange blueStepsSpec)

/-- ITS FALSE NEIGHBOUR: 'it returns false'. Refute it at one input. -/
def blueStepsWrong : ChangeSpec := { name := "blueSteps", fn := fun _ => fun
  | [d1, d2, d3, d4, d5] => { results := [.lit (.bool false)], args := [d1, d2, d3, d4, d5] }
  | _ => none }
def BlueStepsWrongFalsely : Prop := blueStepsRow.holds Try.pinned (OpenSpec.ofChange blueStepsWrong)

/-- 'bailifflaw20.BlueStill': WHATEVER THE INPUT: true; the input reads as it did. -/
def blueStillSpec : ChangeSpec := { name := "blueStill", fn := fun _ => fun
  | [d1, d2] => { results := [.lit (.bool true)], args := [d1, d2] }
  | _ => none }
def blueStillRow : OpenClaim := { program := "ytcgabjjdffcjbaa", sum := "647c2da1acdffc0a99010d99ea587f7e4300b3f96ec6b99817bb3dbb61fc6b8b", func := "bailiff/bailifflaw20.BlueStill", spec := "blueStill", unfollowed := true, recurses := true, apart := false }
def BlueStillSaid : Prop := blueStillRow.holds Try.pinned (OpenSpec.ofChange blueStillSpec)

/-- ITS FALSE NEIGHBOUR: 'it returns false'. Refute it at one input. -/
def blueStillWrong : ChangeSpec := { name := "blueStill", fn := fun _ => fun
  | [d1, d2] => { results := [.lit (.bool false)], args := [d1, d2] }
  | _ => none }
def BlueStillWrongFalsely : Prop := blueStillRow.holds Try.pinned (OpenSpec.ofChange blueStillWrong)

/-- 'bailifflaw20.BluePlays': WHATEVER THE INPUT: true; the input reads as it did. -/
def bluePlaysSpec : ChangeSpec := { name := "bluePlays", fn := fun _ => fun
  | [d1, d2] => { results := [.lit (.bool true)], args := [d1, d2] }
  | _ => none }
def bluePlaysRow : OpenClaim := { program := "ytcgabjjdffcjbaa", sum := "647c2da1acdffc0a99010d99ea587f7e4300b3f96ec6b99817bb3dbb61fc6b8b", func := "bailiff/bailifflaw20.BluePlays", spec := "bluePlays", unfollowed := true, recurses := true, apart := false }
def BluePlaysSaid : Prop := bluePlaysRow.holds Try.pinned (OpenSpec.ofChange bluePlaysSpec)

/-- ITS FALSE NEIGHBOUR: 'it returns false'. Refute it at one input. -/
def bluePlaysWrong : ChangeSpec := { name := "bluePlays", fn := fun _ => fun
  | [d1, d2] => { results := [.lit (.bool false)], args := [d1, d2] }
  | _ => none }
def BluePlaysWrongFalsely : Prop := bluePlaysRow.holds Try.pinned (OpenSpec.ofChange bluePlaysWrong)

/- THE SECOND FORM. 'bulk': how many values and letters a reading holds, each counted each time it is reached (what is shared counts as often as it is met; a slice's spare places count too). A statement '..UptoSaid' is the law's where the arguments, and the package variables that the reading takes, are together of bulk at most 1048576: NARROWER than '..Said'. Prove '..Said' where nothing that the law and all that it calls make is longer than what came in: it says more and counts as full. Else prove '..UptoSaid'. A law counts once. -/
mutual
def uptoBulk {H : Type} : DataW H → Nat
  | .lit (.string bytes) => bytes.length + 1
  | .lit _ => 1
  | .nil => 1
  | .ptr d => uptoBulk d + 1
  | .slice elems spare => uptoBulkAll elems + uptoBulkAll spare + 1
  | .agg parts => uptoBulkAll parts + 1
  | .iface _ d => uptoBulk d + 1
  | .map entries => uptoBulkEntries entries + 1
  | .held _ => 1
def uptoBulkAll {H : Type} : List (DataW H) → Nat
  | [] => 0
  | d :: r => uptoBulk d + uptoBulkAll r
def uptoBulkEntries {H : Type} : List (Lit × DataW H) → Nat
  | [] => 0
  | x :: r => uptoBulkEntry x + uptoBulkEntries r
def uptoBulkEntry {H : Type} : Lit × DataW H → Nat
  | (.string bytes, d) => bytes.length + uptoBulk d + 1
  | (_, d) => uptoBulk d + 1
 end
def uptoSmall : (H : Type) → List (DataW H) → Bool := fun _ ds => decide (uptoBulkAll ds ≤ 1048576)
def OpenSpec.upto (s : _root_.Go.ChangeSpec) : _root_.Go.OpenSpec := { _root_.Go.OpenSpec.ofChange s with cond := some uptoSmall }

/-- 'bailifflaw17.TokenPlays', WHERE WHAT IT READS IS OF BULK AT MOST 1048576: true; the input reads as it did. -/
def tokenPlaysUptoRow : OpenClaim := { program := "ytcgabjjdffcjbaa", sum := "647c2da1acdffc0a99010d99ea587f7e4300b3f96ec6b99817bb3dbb61fc6b8b", func := "bailiff/bailifflaw17.TokenPlays", spec := "tokenPlays", apart := false, narrowed := true }
def TokenPlaysUptoSaid : Prop := tokenPlaysUptoRow.holds Try.pinned (OpenSpec.upto tokenPlaysSpec)

/-- 'bailifflaw17.TokenBounds', WHERE WHAT IT READS IS OF BULK AT MOST 1048576: true; the input reads as it did. -/
def tokenBoundsUptoRow : OpenClaim := { program := "ytcgabjjdffcjbaa", sum := "647c2da1acdffc0a99010d99ea587f7e4300b3f96ec6b99817bb3dbb61fc6b8b", func := "bailiff/bailifflaw17.TokenBounds", spec := "tokenBounds", apart := false, narrowed := true }
def TokenBoundsUptoSaid : Prop := tokenBoundsUptoRow.holds Try.pinned (OpenSpec.upto tokenBoundsSpec)

/-- 'bailifflaw17.TokenFull', WHERE WHAT IT READS IS OF BULK AT MOST 1048576: true; the input reads as it did. -/
def tokenFullUptoRow : OpenClaim := { program := "ytcgabjjdffcjbaa", sum := "647c2da1acdffc0a99010d99ea587f7e4300b3f96ec6b99817bb3dbb61fc6b8b", func := "bailiff/bailifflaw17.TokenFull", spec := "tokenFull", apart := false, narrowed := true }
def TokenFullUptoSaid : Prop := tokenFullUptoRow.holds Try.pinned (OpenSpec.upto tokenFullSpec)

/-- 'bailifflaw17.TokenNone', WHERE WHAT IT READS IS OF BULK AT MOST 1048576: true; the input reads as it did. -/
def tokenNoneUptoRow : OpenClaim := { program := "ytcgabjjdffcjbaa", sum := "647c2da1acdffc0a99010d99ea587f7e4300b3f96ec6b99817bb3dbb61fc6b8b", func := "bailiff/bailifflaw17.TokenNone", spec := "tokenNone", apart := false, narrowed := true }
def TokenNoneUptoSaid : Prop := tokenNoneUptoRow.holds Try.pinned (OpenSpec.upto tokenNoneSpec)

/-- 'bailifflaw20.BlueAlone', WHERE WHAT IT READS IS OF BULK AT MOST 1048576: true; the input reads as it did. -/
def blueAloneUptoRow : OpenClaim := { program := "ytcgabjjdffcjbaa", sum := "647c2da1acdffc0a99010d99ea587f7e4300b3f96ec6b99817bb3dbb61fc6b8b", func := "bailiff/bailifflaw20.BlueAlone", spec := "blueAlone", unfollowed := true, recurses := true, apart := false, narrowed := true }
def BlueAloneUptoSaid : Prop := blueAloneUptoRow.holds Try.pinned (OpenSpec.upto blueAloneSpec)

/-- 'bailifflaw20.BlueSteps', WHERE WHAT IT READS IS OF BULK AT MOST 1048576: true; the input reads as it did. -/
def blueStepsUptoRow : OpenClaim := { program := "ytcgabjjdffcjbaa", sum := "647c2da1acdffc0a99010d99ea587f7e4300b3f96ec6b99817bb3dbb61fc6b8b", func := "bailiff/bailifflaw20.BlueSteps", spec := "blueSteps", unfollowed := true, recurses := true, apart := false, narrowed := true }
def BlueStepsUptoSaid : Prop := blueStepsUptoRow.holds Try.pinned (OpenSpec.upto blueStepsSpec)

/-- 'bailifflaw20.BlueStill', WHERE WHAT IT READS IS OF BULK AT MOST 1048576: true; the input reads as it did. -/
def blueStillUptoRow : OpenClaim := { program := "ytcgabjjdffcjbaa", sum := "647c2da1acdffc0a99010d99ea587f7e4300b3f96ec6b99817bb3dbb61fc6b8b", func := "bailiff/bailifflaw20.BlueStill", spec := "blueStill", unfollowed := true, recurses := true, apart := false, narrowed := true }
def BlueStillUptoSaid : Prop := blueStillUptoRow.holds Try.pinned (OpenSpec.upto blueStillSpec)

/-- 'bailifflaw20.BluePlays', WHERE WHAT IT READS IS OF BULK AT MOST 1048576: true; the input reads as it did. -/
def bluePlaysUptoRow : OpenClaim := { program := "ytcgabjjdffcjbaa", sum := "647c2da1acdffc0a99010d99ea587f7e4300b3f96ec6b99817bb3dbb61fc6b8b", func := "bailiff/bailifflaw20.BluePlays", spec := "bluePlays", unfollowed := true, recurses := true, apart := false, narrowed := true }
def BluePlaysUptoSaid : Prop := bluePlaysUptoRow.holds Try.pinned (OpenSpec.upto bluePlaysSpec)

end Rows
end Go.Proofs.Ytcgabjjdffcjbaa
