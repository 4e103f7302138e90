/-
  No cell of these rows narrows 'for every input' (looked for: loops, veiled, ifaces, maps, wideKeys, modest, calm, conditions, laid).
  DERIVED. THE GIVEN ROWS OF THIS SEAT. 9 by the template 'for every input the law returns true; each argument reads behind the call as it read before'; 0 by the template 'total and deterministic' (their statements: YtdmfmanmhlnleaaTotals.lean).
  GIVEN WITH THE SEED: the statements are not yours to turn. If you find one false, say at which input.
  Laid BY PROGRAM, IN A SANDBOX (cutbox-rows.mjs): the forced cells as the released guide's own fill.sh prints them over the translation bee639191e74a069… (all of the seat's roots in one cut). By AI agents, Wed Nov 11 2026. No macro, syntax, notation, axiom, sorry.
-/
import Derived.Test.YtdmfmanmhlnleaaChecked
import GoSem.Claim
import GoSem.ClaimJoined
import GoSem.ClaimMapViews
import Derived.JoinedTies
import Derived.KernelRfl
namespace Go.Proofs.Ytdmfmanmhlnleaa
/- THE CELL 'sum', in the pinned program and in every row, IS THE sha256 OF THE DUMP (.gsa) THAT YtdmfmanmhlnleaaProg.lean LOADS. Nothing in Lean hashes anything: it is a label: what it is worth is what the hold of that sum in a sandbox is worth. -/
noncomputable def Try.pinned : Pinned := { name := "ytdmfmanmhlnleaa", sum := "bee639191e74a069a43f2d12803b14fd71de6d42ee10e0774c2c182e6cc2b6f5", checked := Try.checked }
namespace Rows
def none {H : Type} : Left H := { results := [], args := [] }

/-- 'bailifflaw18.SketchExact': WHATEVER THE INPUT: true; the input reads as it did. -/
def sketchExactSpec : ChangeSpec := { name := "sketchExact", fn := fun _ => fun
  | [d] => { results := [.lit (.bool true)], args := [d] }
  | _ => none }
def sketchExactRow : OpenClaim := { program := "ytdmfmanmhlnleaa", sum := "bee639191e74a069a43f2d12803b14fd71de6d42ee10e0774c2c182e6cc2b6f5", func := "bailiff/bailifflaw18.SketchExact", spec := "sketchExact", unfollowed := true, recurses := true, apart := false }
def SketchExactSaid : Prop := sketchExactRow.holds Try.pinned (OpenSpec.ofChange sketchExactSpec)

/-- ITS FALSE NEIGHBOUR: 'it returns false'. Refute it at one input. -/
def sketchExactWrong : ChangeSpec := { name := "sketchExact", fn := fun _ => fun
  | [d] => { results := [.lit (.bool false)], args := [d] }
  | _ => none }
def SketchExactWrongFalsely : Prop := sketchExactRow.holds Try.pinned (OpenSpec.ofChange sketchExactWrong)

/-- 'bailifflaw18.SketchSums': WHATEVER THE INPUT: true; the input reads as it did. -/
def sketchSumsSpec : ChangeSpec := { name := "sketchSums", fn := fun _ => fun
  | [d1, d2] => { results := [.lit (.bool true)], args := [d1, d2] }
  | _ => none }
def sketchSumsRow : OpenClaim := { program := "ytdmfmanmhlnleaa", sum := "bee639191e74a069a43f2d12803b14fd71de6d42ee10e0774c2c182e6cc2b6f5", func := "bailiff/bailifflaw18.SketchSums", spec := "sketchSums", unfollowed := true, recurses := true, apart := false }
def SketchSumsSaid : Prop := sketchSumsRow.holds Try.pinned (OpenSpec.ofChange sketchSumsSpec)

/-- ITS FALSE NEIGHBOUR: 'it returns false'. Refute it at one input. -/
def sketchSumsWrong : ChangeSpec := { name := "sketchSums", fn := fun _ => fun
  | [d1, d2] => { results := [.lit (.bool false)], args := [d1, d2] }
  | _ => none }
def SketchSumsWrongFalsely : Prop := sketchSumsRow.holds Try.pinned (OpenSpec.ofChange sketchSumsWrong)

/-- 'bailifflaw18.SketchOwn': WHATEVER THE INPUT: true; the input reads as it did. -/
def sketchOwnSpec : ChangeSpec := { name := "sketchOwn", fn := fun _ => fun
  | [d] => { results := [.lit (.bool true)], args := [d] }
  | _ => none }
def sketchOwnRow : OpenClaim := { program := "ytdmfmanmhlnleaa", sum := "bee639191e74a069a43f2d12803b14fd71de6d42ee10e0774c2c182e6cc2b6f5", func := "bailiff/bailifflaw18.SketchOwn", spec := "sketchOwn", unfollowed := true, recurses := true, apart := false }
def SketchOwnSaid : Prop := sketchOwnRow.holds Try.pinned (OpenSpec.ofChange sketchOwnSpec)

/-- ITS FALSE NEIGHBOUR: 'it returns false'. Refute it at one input. -/
def sketchOwnWrong : ChangeSpec := { name := "sketchOwn", fn := fun _ => fun
  | [d] => { results := [.lit (.bool false)], args := [d] }
  | _ => none }
def SketchOwnWrongFalsely : Prop := sketchOwnRow.holds Try.pinned (OpenSpec.ofChange sketchOwnWrong)

/-- 'bailifflaw18.SketchBounds': WHATEVER THE INPUT: true; the input reads as it did. -/
def sketchBoundsSpec : ChangeSpec := { name := "sketchBounds", fn := fun _ => fun
  | [d1, d2, d3] => { results := [.lit (.bool true)], args := [d1, d2, d3] }
  | _ => none }
def sketchBoundsRow : OpenClaim := { program := "ytdmfmanmhlnleaa", sum := "bee639191e74a069a43f2d12803b14fd71de6d42ee10e0774c2c182e6cc2b6f5", func := "bailiff/bailifflaw18.SketchBounds", spec := "sketchBounds", unfollowed := true, recurses := true, apart := false }
def SketchBoundsSaid : Prop := sketchBoundsRow.holds Try.pinned (OpenSpec.ofChange sketchBoundsSpec)

/-- ITS FALSE NEIGHBOUR: 'it returns false'. Refute it at one input. -/
def sketchBoundsWrong : ChangeSpec := { name := "sketchBounds", fn := fun _ => fun
  | [d1, d2, d3] => { results := [.lit (.bool false)], args := [d1, d2, d3] }
  | _ => none }
def SketchBoundsWrongFalsely : Prop := sketchBoundsRow.holds Try.pinned (OpenSpec.ofChange sketchBoundsWrong)

/-- 'bailifflaw18.SketchPlays': WHATEVER THE INPUT: true; the input reads as it did. -/
def sketchPlaysSpec : ChangeSpec := { name := "sketchPlays", fn := fun _ => fun
  | [d1, d2, d3] => { results := [.lit (.bool true)], args := [d1, d2, d3] }
  | _ => none }
def sketchPlaysRow : OpenClaim := { program := "ytdmfmanmhlnleaa", sum := "bee639191e74a069a43f2d12803b14fd71de6d42ee10e0774c2c182e6cc2b6f5", func := "bailiff/bailifflaw18.SketchPlays", spec := "sketchPlays", unfollowed := true, recurses := true, apart := false }
def SketchPlaysSaid : Prop := sketchPlaysRow.holds Try.pinned (OpenSpec.ofChange sketchPlaysSpec)

/-- ITS FALSE NEIGHBOUR: 'it returns false'. Refute it at one input. -/
def sketchPlaysWrong : ChangeSpec := { name := "sketchPlays", fn := fun _ => fun
  | [d1, d2, d3] => { results := [.lit (.bool false)], args := [d1, d2, d3] }
  | _ => none }
def SketchPlaysWrongFalsely : Prop := sketchPlaysRow.holds Try.pinned (OpenSpec.ofChange sketchPlaysWrong)

/-- 'bailifflaw19.WindowHeavy': WHATEVER THE INPUT: true; the input reads as it did. -/
def windowHeavySpec : ChangeSpec := { name := "windowHeavy", fn := fun _ => fun
  | [d1, d2, d3] => { results := [.lit (.bool true)], args := [d1, d2, d3] }
  | _ => none }
def windowHeavyRow : OpenClaim := { program := "ytdmfmanmhlnleaa", sum := "bee639191e74a069a43f2d12803b14fd71de6d42ee10e0774c2c182e6cc2b6f5", func := "bailiff/bailifflaw19.WindowHeavy", spec := "windowHeavy", unfollowed := true, recurses := true, apart := false }
def WindowHeavySaid : Prop := windowHeavyRow.holds Try.pinned (OpenSpec.ofChange windowHeavySpec)

/-- ITS FALSE NEIGHBOUR: 'it returns false'. Refute it at one input. -/
def windowHeavyWrong : ChangeSpec := { name := "windowHeavy", fn := fun _ => fun
  | [d1, d2, d3] => { results := [.lit (.bool false)], args := [d1, d2, d3] }
  | _ => none }
def WindowHeavyWrongFalsely : Prop := windowHeavyRow.holds Try.pinned (OpenSpec.ofChange windowHeavyWrong)

/-- 'bailifflaw19.WindowBegins': WHATEVER THE INPUT: true; the input reads as it did. -/
def windowBeginsSpec : ChangeSpec := { name := "windowBegins", fn := fun _ => fun
  | [d1, d2, d3, d4, d5] => { results := [.lit (.bool true)], args := [d1, d2, d3, d4, d5] }
  | _ => none }
def windowBeginsRow : OpenClaim := { program := "ytdmfmanmhlnleaa", sum := "bee639191e74a069a43f2d12803b14fd71de6d42ee10e0774c2c182e6cc2b6f5", func := "bailiff/bailifflaw19.WindowBegins", spec := "windowBegins", unfollowed := true, recurses := true, apart := false }
def WindowBeginsSaid : Prop := windowBeginsRow.holds Try.pinned (OpenSpec.ofChange windowBeginsSpec)

/-- ITS FALSE NEIGHBOUR: 'it returns false'. Refute it at one input. -/
def windowBeginsWrong : ChangeSpec := { name := "windowBegins", fn := fun _ => fun
  | [d1, d2, d3, d4, d5] => { results := [.lit (.bool false)], args := [d1, d2, d3, d4, d5] }
  | _ => none }
def WindowBeginsWrongFalsely : Prop := windowBeginsRow.holds Try.pinned (OpenSpec.ofChange windowBeginsWrong)

/-- 'bailifflaw19.WindowBack': WHATEVER THE INPUT: true; the input reads as it did. -/
def windowBackSpec : ChangeSpec := { name := "windowBack", fn := fun _ => fun
  | [d1, d2, d3, d4, d5, d6] => { results := [.lit (.bool true)], args := [d1, d2, d3, d4, d5, d6] }
  | _ => none }
def windowBackRow : OpenClaim := { program := "ytdmfmanmhlnleaa", sum := "bee639191e74a069a43f2d12803b14fd71de6d42ee10e0774c2c182e6cc2b6f5", func := "bailiff/bailifflaw19.WindowBack", spec := "windowBack", unfollowed := true, recurses := true, apart := false }
def WindowBackSaid : Prop := windowBackRow.holds Try.pinned (OpenSpec.ofChange windowBackSpec)

/-- ITS FALSE NEIGHBOUR: 'it returns false'. Refute it at one input. -/
def windowBackWrong : ChangeSpec := { name := "windowBack", fn := fun _ => fun
  | [d1, d2, d3, d4, d5, d6] => { results := [.lit (.bool false)], args := [d1, d2, d3, d4, d5, d6] }
  | _ => none }
def WindowBackWrongFalsely : Prop := windowBackRow.holds Try.pinned (OpenSpec.ofChange windowBackWrong)

/-- 'bailifflaw19.WindowPlays': WHATEVER THE INPUT: true; the input reads as it did. -/
def windowPlaysSpec : ChangeSpec := { name := "windowPlays", fn := fun _ => fun
  | [d1, d2, d3, d4, d5] => { results := [.lit (.bool true)], args := [d1, d2, d3, d4, d5] }
  | _ => none }
def windowPlaysRow : OpenClaim := { program := "ytdmfmanmhlnleaa", sum := "bee639191e74a069a43f2d12803b14fd71de6d42ee10e0774c2c182e6cc2b6f5", func := "bailiff/bailifflaw19.WindowPlays", spec := "windowPlays", unfollowed := true, recurses := true, apart := false }
def WindowPlaysSaid : Prop := windowPlaysRow.holds Try.pinned (OpenSpec.ofChange windowPlaysSpec)

/-- ITS FALSE NEIGHBOUR: 'it returns false'. Refute it at one input. -/
def windowPlaysWrong : ChangeSpec := { name := "windowPlays", fn := fun _ => fun
  | [d1, d2, d3, d4, d5] => { results := [.lit (.bool false)], args := [d1, d2, d3, d4, d5] }
  | _ => none }
def WindowPlaysWrongFalsely : Prop := windowPlaysRow.holds Try.pinned (OpenSpec.ofChange windowPlaysWrong)

/- THE SECOND FORM. 'bulk': how many values and letters a reading holds, each counted each time it is reached (what is shared counts as often as it is met; a slice's spare places count too). A statement '..UptoSaid' is the law's where the arguments, and the package variables that the reading takes, are together of bulk at most 1048576: NARROWER than '..Said'. Prove '..Said' where nothing that the law and all that it calls make is longer than what came in: it says more and counts as full. Else prove '..UptoSaid'. A law counts once. -/
mutual
def uptoBulk {H : Type} : DataW H → Nat
  | .lit (.string bytes) => bytes.length + 1
  | .lit _ => 1
  | .nil => 1
  | .ptr d => uptoBulk d + 1
  | .slice elems spare => uptoBulkAll elems + uptoBulkAll spare + 1
  | .agg parts => uptoBulkAll parts + 1
  | .iface _ d => uptoBulk d + 1
  | .map entries => uptoBulkEntries entries + 1
  | .held _ => 1
def uptoBulkAll {H : Type} : List (DataW H) → Nat
  | [] => 0
  | d :: r => uptoBulk d + uptoBulkAll r
def uptoBulkEntries {H : Type} : List (Lit × DataW H) → Nat
  | [] => 0
  | x :: r => uptoBulkEntry x + uptoBulkEntries r
def uptoBulkEntry {H : Type} : Lit × DataW H → Nat
  | (.string bytes, d) => bytes.length + uptoBulk d + 1
  | (_, d) => uptoBulk d + 1
 end
def uptoSmall : (H : Type) → List (DataW H) → Bool := fun _ ds => decide (uptoBulkAll ds ≤ 1048576)
def OpenSpec.upto (s : _root_.Go.ChangeSpec) : _root_.Go.OpenSpec := { _root_.Go.OpenSpec.ofChange s with cond := some uptoSmall }

/-- 'bailifflaw18.SketchExact', WHERE WHAT IT READS IS OF BULK AT MOST 1048576: true; the input reads as it did. -/
def sketchExactUptoRow : OpenClaim := { program := "ytdmfmanmhlnleaa", sum := "bee639191e74a069a43f2d12803b14fd71de6d42ee10e0774c2c182e6cc2b6f5", func := "bailiff/bailifflaw18.SketchExact", spec := "sketchExact", unfollowed := true, recurses := true, apart := false, narrowed := true }
def SketchExactUptoSaid : Prop := sketchExactUptoRow.holds Try.pinned (OpenSpec.upto sketchExactSpec)

/-- 'bailifflaw18.SketchSums', WHERE WHAT IT READS IS OF BULK AT MOST 1048576: true; the input reads as it did. -/
def sketchSumsUptoRow : OpenClaim := { program := "ytdmfmanmhlnleaa", sum := "bee639191e74a069a43f2d12803b14fd71de6d42ee10e0774c2c182e6cc2b6f5", func := "bailiff/bailifflaw18.SketchSums", spec := "sketchSums", unfollowed := true, recurses := true, apart := false, narrowed := true }
def SketchSumsUptoSaid : Prop := sketchSumsUptoRow.holds Try.pinned (OpenSpec.upto sketchSumsSpec)

/-- 'bailifflaw18.SketchOwn', WHERE WHAT IT READS IS OF BULK AT MOST 1048576: true; the input reads as it did. -/
def sketchOwnUptoRow : OpenClaim := { program := "ytdmfmanmhlnleaa", sum := "bee639191e74a069a43f2d12803b14fd71de6d42ee10e0774c2c182e6cc2b6f5", func := "bailiff/bailifflaw18.SketchOwn", spec := "sketchOwn", unfollowed := true, recurses := true, apart := false, narrowed := true }
def SketchOwnUptoSaid : Prop := sketchOwnUptoRow.holds Try.pinned (OpenSpec.upto sketchOwnSpec)

/-- 'bailifflaw18.SketchBounds', WHERE WHAT IT READS IS OF BULK AT MOST 1048576: true; the input reads as it did. -/
def sketchBoundsUptoRow : OpenClaim := { program := "ytdmfmanmhlnleaa", sum := "bee639191e74a069a43f2d12803b14fd71de6d42ee10e0774c2c182e6cc2b6f5", func := "bailiff/bailifflaw18.SketchBounds", spec := "sketchBounds", unfollowed := true, recurses := true, apart := false, narrowed := true }
def SketchBoundsUptoSaid : Prop := sketchBoundsUptoRow.holds Try.pinned (OpenSpec.upto sketchBoundsSpec)

/-- 'bailifflaw18.SketchPlays', WHERE WHAT IT READS IS OF BULK AT MOST 1048576: true; the input reads as it did. -/
def sketchPlaysUptoRow : OpenClaim := { program := "ytdmfmanmhlnleaa", sum := "bee639191e74a069a43f2d12803b14fd71de6d42ee10e0774c2c182e6cc2b6f5", func := "bailiff/bailifflaw18.SketchPlays", spec := "sketchPlays", unfollowed := true, recurses := true, apart := false, narrowed := true }
def SketchPlaysUptoSaid : Prop := sketchPlaysUptoRow.holds Try.pinned (OpenSpec.upto sketchPlaysSpec)

/-- 'bailifflaw19.WindowHeavy', WHERE WHAT IT READS IS OF BULK AT MOST 1048576: true; the input reads as it did. -/
def windowHeavyUptoRow : OpenClaim := { program := "ytdmfmanmhlnleaa", sum := "bee639191e74a069a43f2d12803b14fd71de6d42ee10e0774c2c182e6cc2b6f5", func := "bailiff/bailifflaw19.WindowHeavy", spec := "windowHeavy", unfollowed := true, recurses := true, apart := false, narrowed := true }
def WindowHeavyUptoSaid : Prop := windowHeavyUptoRow.holds Try.pinned (OpenSpec.upto windowHeavySpec)

/-- 'bailifflaw19.WindowBegins', WHERE WHAT IT READS IS OF BULK AT MOST 1048576: true; the input reads as it did. -/
def windowBeginsUptoRow : OpenClaim := { program := "ytdmfmanmhlnleaa", sum := "bee639191e74a069a43f2d12803b14fd71de6d42ee10e0774c2c182e6cc2b6f5", func := "bailiff/bailifflaw19.WindowBegins", spec := "windowBegins", unfollowed := true, recurses := true, apart := false, narrowed := true }
def WindowBeginsUptoSaid : Prop := windowBeginsUptoRow.holds Try.pinned (OpenSpec.upto windowBeginsSpec)

/-- 'bailifflaw19.WindowBack', WHERE WHAT IT READS IS OF BULK AT MOST 1048576: true; the input reads as it did. -/
def windowBackUptoRow : OpenClaim := { program := "ytdmfmanmhlnleaa", sum := "bee639191e74a069a43f2d12803b14fd71de6d42ee10e0774c2c182e6cc2b6f5", func := "bailiff/bailifflaw19.WindowBack", spec := "windowBack", unfollowed := true, recurses := true, apart := false, narrowed := true }
def WindowBackUptoSaid : Prop := windowBackUptoRow.holds Try.pinned (OpenSpec.upto windowBackSpec)

/-- 'bailifflaw19.WindowPlays', WHERE WHAT IT READS IS OF BULK AT MOST 1048576: true; the input reads as it did. -/
def windowPlaysUptoRow : OpenClaim := { program := "ytdmfmanmhlnleaa", sum := "bee639191e74a069a43f2d12803b14fd71de6d42ee10e0774c2c182e6cc2b6f5", func := "bailiff/bailifflaw19.WindowPlays", spec := "windowPlays", unfollowed := true, recurses := true, apart := false, narrowed := true }
def WindowPlaysUptoSaid : Prop := windowPlaysUptoRow.holds Try.pinned (OpenSpec.upto windowPlaysSpec)

end Rows
end Go.Proofs.Ytdmfmanmhlnleaa
