/-
  No cell of these rows narrows 'for every input' (looked for: loops, veiled, ifaces, maps, wideKeys, modest, calm, conditions, laid).
  DERIVED. THE GIVEN ROWS OF THIS SEAT. 9 by the template 'for every input the law returns true; each argument reads behind the call as it read before'; 0 by the template 'total and deterministic' (their statements: YtlbbflmdcaakkaaTotals.lean).
  GIVEN WITH THE SEED: the statements are not yours to turn. If you find one false, say at which input.
  Laid BY PROGRAM, IN A SANDBOX (cutbox-rows.mjs): the forced cells as the released guide's own fill.sh prints them over the translation b28403d8679e7281… (all of the seat's roots in one cut). By AI agents, Wed Nov 11 2026. No macro, syntax, notation, axiom, sorry.
-/
import Derived.Test.YtlbbflmdcaakkaaChecked
import GoSem.Claim
import GoSem.ClaimJoined
import GoSem.ClaimMapViews
import Derived.JoinedTies
import Derived.KernelRfl
namespace Go.Proofs.Ytlbbflmdcaakkaa
/- THE CELL 'sum', in the pinned program and in every row, IS THE sha256 OF THE DUMP (.gsa) THAT YtlbbflmdcaakkaaProg.lean LOADS. Nothing in Lean hashes anything: it is a label: what it is worth is what the hold of that sum in a sandbox is worth. -/
noncomputable def Try.pinned : Pinned := { name := "ytlbbflmdcaakkaa", sum := "b28403d8679e7281d255add16a3e68a930bc911164a70acbc6b1ab0b9fee22ba", checked := Try.checked }
namespace Rows
def none {H : Type} : Left H := { results := [], args := [] }

/-- 'bailifflaw01.NumSums': WHATEVER THE INPUT: true; the input reads as it did. -/
def numSumsSpec : ChangeSpec := { name := "numSums", fn := fun _ => fun
  | [d1, d2] => { results := [.lit (.bool true)], args := [d1, d2] }
  | _ => none }
def numSumsRow : OpenClaim := { program := "ytlbbflmdcaakkaa", sum := "b28403d8679e7281d255add16a3e68a930bc911164a70acbc6b1ab0b9fee22ba", func := "bailiff/bailifflaw01.NumSums", spec := "numSums", apart := false }
def NumSumsSaid : Prop := numSumsRow.holds Try.pinned (OpenSpec.ofChange numSumsSpec)

/-- ITS FALSE NEIGHBOUR: 'it returns false'. Refute it at one input. -/
def numSumsWrong : ChangeSpec := { name := "numSums", fn := fun _ => fun
  | [d1, d2] => { results := [.lit (.bool false)], args := [d1, d2] }
  | _ => none }
def NumSumsWrongFalsely : Prop := numSumsRow.holds Try.pinned (OpenSpec.ofChange numSumsWrong)

/-- 'bailifflaw01.NumUps': WHATEVER THE INPUT: true; the input reads as it did. -/
def numUpsSpec : ChangeSpec := { name := "numUps", fn := fun _ => fun
  | [d1, d2] => { results := [.lit (.bool true)], args := [d1, d2] }
  | _ => none }
def numUpsRow : OpenClaim := { program := "ytlbbflmdcaakkaa", sum := "b28403d8679e7281d255add16a3e68a930bc911164a70acbc6b1ab0b9fee22ba", func := "bailiff/bailifflaw01.NumUps", spec := "numUps", apart := false }
def NumUpsSaid : Prop := numUpsRow.holds Try.pinned (OpenSpec.ofChange numUpsSpec)

/-- ITS FALSE NEIGHBOUR: 'it returns false'. Refute it at one input. -/
def numUpsWrong : ChangeSpec := { name := "numUps", fn := fun _ => fun
  | [d1, d2] => { results := [.lit (.bool false)], args := [d1, d2] }
  | _ => none }
def NumUpsWrongFalsely : Prop := numUpsRow.holds Try.pinned (OpenSpec.ofChange numUpsWrong)

/-- 'bailifflaw01.NumTimes': WHATEVER THE INPUT: true; the input reads as it did. -/
def numTimesSpec : ChangeSpec := { name := "numTimes", fn := fun _ => fun
  | [d1, d2] => { results := [.lit (.bool true)], args := [d1, d2] }
  | _ => none }
def numTimesRow : OpenClaim := { program := "ytlbbflmdcaakkaa", sum := "b28403d8679e7281d255add16a3e68a930bc911164a70acbc6b1ab0b9fee22ba", func := "bailiff/bailifflaw01.NumTimes", spec := "numTimes", apart := false }
def NumTimesSaid : Prop := numTimesRow.holds Try.pinned (OpenSpec.ofChange numTimesSpec)

/-- ITS FALSE NEIGHBOUR: 'it returns false'. Refute it at one input. -/
def numTimesWrong : ChangeSpec := { name := "numTimes", fn := fun _ => fun
  | [d1, d2] => { results := [.lit (.bool false)], args := [d1, d2] }
  | _ => none }
def NumTimesWrongFalsely : Prop := numTimesRow.holds Try.pinned (OpenSpec.ofChange numTimesWrong)

/-- 'bailifflaw01.NumReckons': WHATEVER THE INPUT: true; the input reads as it did. -/
def numReckonsSpec : ChangeSpec := { name := "numReckons", fn := fun _ => fun
  | [d1, d2] => { results := [.lit (.bool true)], args := [d1, d2] }
  | _ => none }
def numReckonsRow : OpenClaim := { program := "ytlbbflmdcaakkaa", sum := "b28403d8679e7281d255add16a3e68a930bc911164a70acbc6b1ab0b9fee22ba", func := "bailiff/bailifflaw01.NumReckons", spec := "numReckons", apart := false }
def NumReckonsSaid : Prop := numReckonsRow.holds Try.pinned (OpenSpec.ofChange numReckonsSpec)

/-- ITS FALSE NEIGHBOUR: 'it returns false'. Refute it at one input. -/
def numReckonsWrong : ChangeSpec := { name := "numReckons", fn := fun _ => fun
  | [d1, d2] => { results := [.lit (.bool false)], args := [d1, d2] }
  | _ => none }
def NumReckonsWrongFalsely : Prop := numReckonsRow.holds Try.pinned (OpenSpec.ofChange numReckonsWrong)

/-- 'bailifflaw01.NumLaws': WHATEVER THE INPUT: true; the input reads as it did. -/
def numLawsSpec : ChangeSpec := { name := "numLaws", fn := fun _ => fun
  | [d1, d2, d3] => { results := [.lit (.bool true)], args := [d1, d2, d3] }
  | _ => none }
def numLawsRow : OpenClaim := { program := "ytlbbflmdcaakkaa", sum := "b28403d8679e7281d255add16a3e68a930bc911164a70acbc6b1ab0b9fee22ba", func := "bailiff/bailifflaw01.NumLaws", spec := "numLaws", apart := false }
def NumLawsSaid : Prop := numLawsRow.holds Try.pinned (OpenSpec.ofChange numLawsSpec)

/-- ITS FALSE NEIGHBOUR: 'it returns false'. Refute it at one input. -/
def numLawsWrong : ChangeSpec := { name := "numLaws", fn := fun _ => fun
  | [d1, d2, d3] => { results := [.lit (.bool false)], args := [d1, d2, d3] }
  | _ => none }
def NumLawsWrongFalsely : Prop := numLawsRow.holds Try.pinned (OpenSpec.ofChange numLawsWrong)

/-- 'bailifflaw16.PacePlays': WHATEVER THE INPUT: true; the input reads as it did. -/
def pacePlaysSpec : ChangeSpec := { name := "pacePlays", fn := fun _ => fun
  | [d1, d2] => { results := [.lit (.bool true)], args := [d1, d2] }
  | _ => none }
def pacePlaysRow : OpenClaim := { program := "ytlbbflmdcaakkaa", sum := "b28403d8679e7281d255add16a3e68a930bc911164a70acbc6b1ab0b9fee22ba", func := "bailiff/bailifflaw16.PacePlays", spec := "pacePlays", apart := false }
def PacePlaysSaid : Prop := pacePlaysRow.holds Try.pinned (OpenSpec.ofChange pacePlaysSpec)

/-- ITS FALSE NEIGHBOUR: 'it returns false'. Refute it at one input. -/
def pacePlaysWrong : ChangeSpec := { name := "pacePlays", fn := fun _ => fun
  | [d1, d2] => { results := [.lit (.bool false)], args := [d1, d2] }
  | _ => none }
def PacePlaysWrongFalsely : Prop := pacePlaysRow.holds Try.pinned (OpenSpec.ofChange pacePlaysWrong)

/-- 'bailifflaw16.PaceApart': WHATEVER THE INPUT: true; the input reads as it did. -/
def paceApartSpec : ChangeSpec := { name := "paceApart", fn := fun _ => fun
  | [d1, d2, d3] => { results := [.lit (.bool true)], args := [d1, d2, d3] }
  | _ => none }
def paceApartRow : OpenClaim := { program := "ytlbbflmdcaakkaa", sum := "b28403d8679e7281d255add16a3e68a930bc911164a70acbc6b1ab0b9fee22ba", func := "bailiff/bailifflaw16.PaceApart", spec := "paceApart", apart := false }
def PaceApartSaid : Prop := paceApartRow.holds Try.pinned (OpenSpec.ofChange paceApartSpec)

/-- ITS FALSE NEIGHBOUR: 'it returns false'. Refute it at one input. -/
def paceApartWrong : ChangeSpec := { name := "paceApart", fn := fun _ => fun
  | [d1, d2, d3] => { results := [.lit (.bool false)], args := [d1, d2, d3] }
  | _ => none }
def PaceApartWrongFalsely : Prop := paceApartRow.holds Try.pinned (OpenSpec.ofChange paceApartWrong)

/-- 'bailifflaw16.PaceRefuses': WHATEVER THE INPUT: true; the input reads as it did. -/
def paceRefusesSpec : ChangeSpec := { name := "paceRefuses", fn := fun _ => fun
  | [d1, d2, d3] => { results := [.lit (.bool true)], args := [d1, d2, d3] }
  | _ => none }
def paceRefusesRow : OpenClaim := { program := "ytlbbflmdcaakkaa", sum := "b28403d8679e7281d255add16a3e68a930bc911164a70acbc6b1ab0b9fee22ba", func := "bailiff/bailifflaw16.PaceRefuses", spec := "paceRefuses", apart := false }
def PaceRefusesSaid : Prop := paceRefusesRow.holds Try.pinned (OpenSpec.ofChange paceRefusesSpec)

/-- ITS FALSE NEIGHBOUR: 'it returns false'. Refute it at one input. -/
def paceRefusesWrong : ChangeSpec := { name := "paceRefuses", fn := fun _ => fun
  | [d1, d2, d3] => { results := [.lit (.bool false)], args := [d1, d2, d3] }
  | _ => none }
def PaceRefusesWrongFalsely : Prop := paceRefusesRow.holds Try.pinned (OpenSpec.ofChange paceRefusesWrong)

/-- 'bailifflaw16.PaceNil': WHATEVER THE INPUT: true; the input reads as it did. -/
def paceNilSpec : ChangeSpec := { name := "paceNil", fn := fun _ => fun
  | [d1, d2] => { results := [.lit (.bool true)], args := [d1, d2] }
  | _ => none }
def paceNilRow : OpenClaim := { program := "ytlbbflmdcaakkaa", sum := "b28403d8679e7281d255add16a3e68a930bc911164a70acbc6b1ab0b9fee22ba", func := "bailiff/bailifflaw16.PaceNil", spec := "paceNil", apart := false }
def PaceNilSaid : Prop := paceNilRow.holds Try.pinned (OpenSpec.ofChange paceNilSpec)

/-- ITS FALSE NEIGHBOUR: 'it returns false'. Refute it at one input. -/
def paceNilWrong : ChangeSpec := { name := "paceNil", fn := fun _ => fun
  | [d1, d2] => { results := [.lit (.bool false)], args := [d1, d2] }
  | _ => none }
def PaceNilWrongFalsely : Prop := paceNilRow.holds Try.pinned (OpenSpec.ofChange paceNilWrong)

/- THE SECOND FORM. 'bulk': how many values and letters a reading holds, each counted each time it is reached (what is shared counts as often as it is met; a slice's spare places count too). A statement '..UptoSaid' is the law's where the arguments, and the package variables that the reading takes, are together of bulk at most 1048576: NARROWER than '..Said'. Prove '..Said' where nothing that the law and all that it calls make is longer than what came in: it says more and counts as full. Else prove '..UptoSaid'. A law counts once. -/
mutual
def uptoBulk {H : Type} : DataW H → Nat
  | .lit (.string bytes) => bytes.length + 1
  | .lit _ => 1
  | .nil => 1
  | .ptr d => uptoBulk d + 1
  | .slice elems spare => uptoBulkAll elems + uptoBulkAll spare + 1
  | .agg parts => uptoBulkAll parts + 1
  | .iface _ d => uptoBulk d + 1
  | .map entries => uptoBulkEntries entries + 1
  | .held _ => 1
def uptoBulkAll {H : Type} : List (DataW H) → Nat
  | [] => 0
  | d :: r => uptoBulk d + uptoBulkAll r
def uptoBulkEntries {H : Type} : List (Lit × DataW H) → Nat
  | [] => 0
  | x :: r => uptoBulkEntry x + uptoBulkEntries r
def uptoBulkEntry {H : Type} : Lit × DataW H → Nat
  | (.string bytes, d) => bytes.length + uptoBulk d + 1
  | (_, d) => uptoBulk d + 1
 end
def uptoSmall : (H : Type) → List (DataW H) → Bool := fun _ ds => decide (uptoBulkAll ds ≤ 1048576)
def OpenSpec.upto (s : _root_.Go.ChangeSpec) : _root_.Go.OpenSpec := { _root_.Go.OpenSpec.ofChange s with cond := some uptoSmall }

/-- 'bailifflaw01.NumSums', WHERE WHAT IT READS IS OF BULK AT MOST 1048576: true; the input reads as it did. -/
def numSumsUptoRow : OpenClaim := { program := "ytlbbflmdcaakkaa", sum := "b28403d8679e7281d255add16a3e68a930bc911164a70acbc6b1ab0b9fee22ba", func := "bailiff/bailifflaw01.NumSums", spec := "numSums", apart := false, narrowed := true }
def NumSumsUptoSaid : Prop := numSumsUptoRow.holds Try.pinned (OpenSpec.upto numSumsSpec)

/-- 'bailifflaw01.NumUps', WHERE WHAT IT READS IS OF BULK AT MOST 1048576: true; the input reads as it did. -/
def numUpsUptoRow : OpenClaim := { program := "ytlbbflmdcaakkaa", sum := "b28403d8679e7281d255add16a3e68a930bc911164a70acbc6b1ab0b9fee22ba", func := "bailiff/bailifflaw01.NumUps", spec := "numUps", apart := false, narrowed := true }
def NumUpsUptoSaid : Prop := numUpsUptoRow.holds Try.pinned (OpenSpec.upto numUpsSpec)

/-- 'bailifflaw01.NumTimes', WHERE WHAT IT READS IS OF BULK AT MOST 1048576: true; the input reads as it did. -/
def numTimesUptoRow : OpenClaim := { program := "ytlbbflmdcaakkaa", sum := "b28403d8679e7281d255add16a3e68a930bc911164a70acbc6b1ab0b9fee22ba", func := "bailiff/bailifflaw01.NumTimes", spec := "numTimes", apart := false, narrowed := true }
def NumTimesUptoSaid : Prop := numTimesUptoRow.holds Try.pinned (OpenSpec.upto numTimesSpec)

/-- 'bailifflaw01.NumReckons', WHERE WHAT IT READS IS OF BULK AT MOST 1048576: true; the input reads as it did. -/
def numReckonsUptoRow : OpenClaim := { program := "ytlbbflmdcaakkaa", sum := "b28403d8679e7281d255add16a3e68a930bc911164a70acbc6b1ab0b9fee22ba", func := "bailiff/bailifflaw01.NumReckons", spec := "numReckons", apart := false, narrowed := true }
def NumReckonsUptoSaid : Prop := numReckonsUptoRow.holds Try.pinned (OpenSpec.upto numReckonsSpec)

/-- 'bailifflaw01.NumLaws', WHERE WHAT IT READS IS OF BULK AT MOST 1048576: true; the input reads as it did. -/
def numLawsUptoRow : OpenClaim := { program := "ytlbbflmdcaakkaa", sum := "b28403d8679e7281d255add16a3e68a930bc911164a70acbc6b1ab0b9fee22ba", func := "bailiff/bailifflaw01.NumLaws", spec := "numLaws", apart := false, narrowed := true }
def NumLawsUptoSaid : Prop := numLawsUptoRow.holds Try.pinned (OpenSpec.upto numLawsSpec)

/-- 'bailifflaw16.PacePlays', WHERE WHAT IT READS IS OF BULK AT MOST 1048576: true; the input reads as it did. -/
def pacePlaysUptoRow : OpenClaim := { program := "ytlbbflmdcaakkaa", sum := "b28403d8679e7281d255add16a3e68a930bc911164a70acbc6b1ab0b9fee22ba", func := "bailiff/bailifflaw16.PacePlays", spec := "pacePlays", apart := false, narrowed := true }
def PacePlaysUptoSaid : Prop := pacePlaysUptoRow.holds Try.pinned (OpenSpec.upto pacePlaysSpec)

/-- 'bailifflaw16.PaceApart', WHERE WHAT IT READS IS OF BULK AT MOST 1048576: true; the input reads as it did. -/
def paceApartUptoRow : OpenClaim := { program := "ytlbbflmdcaakkaa", sum := "b28403d8679e7281d255add16a3e68a930bc911164a70acbc6b1ab0b9fee22ba", func := "bailiff/bailifflaw16.PaceApart", spec := "paceApart", apart := false, narrowed := true }
def PaceApartUptoSaid : Prop := paceApartUptoRow.holds Try.pinned (OpenSpec.upto paceApartSpec)

/-- 'bailifflaw16.PaceRefuses', WHERE WHAT IT READS IS OF BULK AT MOST 1048576: true; the input reads as it did. -/
def paceRefusesUptoRow : OpenClaim := { program := "ytlbbflmdcaakkaa", sum := "b28403d8679e7281d255add16a3e68a930bc911164a70acbc6b1ab0b9fee22ba", func := "bailiff/bailifflaw16.PaceRefuses", spec := "paceRefuses", apart := false, narrowed := true }
def PaceRefusesUptoSaid : Prop := paceRefusesUptoRow.holds Try.pinned (OpenSpec.upto paceRefusesSpec)

/-- 'bailifflaw16.PaceNil', WHERE WHAT IT READS IS OF BULK AT MOST 1048576: true; the input reads as it did. -/
def paceNilUptoRow : OpenClaim := { program := "ytlbbflmdcaakkaa", sum := "b28403d8679e7281d255add16a3e68a930bc911164a70acbc6b1ab0b9fee22ba", func := "bailiff/bailifflaw16.PaceNil", spec := "paceNil", apart := false, narrowed := true }
def PaceNilUptoSaid : Prop := paceNilUptoRow.holds Try.pinned (OpenSpec.upto paceNilSpec)

end Rows
end Go.Proofs.Ytlbbflmdcaakkaa
