/-
  No cell of these rows narrows 'for every input' (looked for: loops, veiled, ifaces, maps, wideKeys, modest, calm, conditions, laid).
  DERIVED. THE GIVEN ROWS OF THIS SEAT. 10 by the template 'for every input the law returns true; each argument reads behind the call as it read before'; 0 by the template 'total and deterministic' (their statements: YtgbdkleckmilkaaTotals.lean).
  GIVEN WITH THE SEED: the statements are not yours to turn. If you find one false, say at which input.
  Laid BY PROGRAM, IN A SANDBOX (cutbox-rows.mjs): the forced cells as the released guide's own fill.sh prints them over the translation 1e54d23f856aca32… (all of the seat's roots in one cut). By AI agents, Wed Nov 11 2026. No macro, syntax, notation, axiom, sorry.
-/
import Derived.Test.YtgbdkleckmilkaaChecked
import GoSem.Claim
import GoSem.ClaimJoined
import GoSem.ClaimMapViews
import Derived.JoinedTies
import Derived.KernelRfl
namespace Go.Proofs.Ytgbdkleckmilkaa
/- THE CELL 'sum', in the pinned program and in every row, IS THE sha256 OF THE DUMP (.gsa) THAT YtgbdkleckmilkaaProg.lean LOADS. Nothing in Lean hashes anything: it is a label: what it is worth is what the hold of that sum in a sandbox is worth. -/
noncomputable def Try.pinned : Pinned := { name := "ytgbdkleckmilkaa", sum := "1e54d23f856aca32b5572bc92ba27dd67f823f83c5e54b8b3670914350b59a46", checked := Try.checked }
namespace Rows
def none {H : Type} : Left H := { results := [], args := [] }

/-- 'bailifflaw07.SipSums': WHATEVER THE INPUT: true; the input reads as it did. -/
def sipSumsSpec : ChangeSpec := { name := "sipSums", fn := fun _ => fun
  | [d1, d2, d3] => { results := [.lit (.bool true)], args := [d1, d2, d3] }
  | _ => none }
def sipSumsRow : OpenClaim := { program := "ytgbdkleckmilkaa", sum := "1e54d23f856aca32b5572bc92ba27dd67f823f83c5e54b8b3670914350b59a46", func := "bailiff/bailifflaw07.SipSums", spec := "sipSums", apart := false }
def SipSumsSaid : Prop := sipSumsRow.holds Try.pinned (OpenSpec.ofChange sipSumsSpec)

/-- ITS FALSE NEIGHBOUR: 'it returns false'. Refute it at one input. -/
def sipSumsWrong : ChangeSpec := { name := "sipSums", fn := fun _ => fun
  | [d1, d2, d3] => { results := [.lit (.bool false)], args := [d1, d2, d3] }
  | _ => none }
def SipSumsWrongFalsely : Prop := sipSumsRow.holds Try.pinned (OpenSpec.ofChange sipSumsWrong)

/-- 'bailifflaw07.SipOwn': WHATEVER THE INPUT: true; the input reads as it did. -/
def sipOwnSpec : ChangeSpec := { name := "sipOwn", fn := fun _ => fun
  | [d1, d2, d3] => { results := [.lit (.bool true)], args := [d1, d2, d3] }
  | _ => none }
def sipOwnRow : OpenClaim := { program := "ytgbdkleckmilkaa", sum := "1e54d23f856aca32b5572bc92ba27dd67f823f83c5e54b8b3670914350b59a46", func := "bailiff/bailifflaw07.SipOwn", spec := "sipOwn", apart := false }
def SipOwnSaid : Prop := sipOwnRow.holds Try.pinned (OpenSpec.ofChange sipOwnSpec)

/-- ITS FALSE NEIGHBOUR: 'it returns false'. Refute it at one input. -/
def sipOwnWrong : ChangeSpec := { name := "sipOwn", fn := fun _ => fun
  | [d1, d2, d3] => { results := [.lit (.bool false)], args := [d1, d2, d3] }
  | _ => none }
def SipOwnWrongFalsely : Prop := sipOwnRow.holds Try.pinned (OpenSpec.ofChange sipOwnWrong)

/-- 'bailifflaw07.SipParts': WHATEVER THE INPUT: true; the input reads as it did. -/
def sipPartsSpec : ChangeSpec := { name := "sipParts", fn := fun _ => fun
  | [d1, d2] => { results := [.lit (.bool true)], args := [d1, d2] }
  | _ => none }
def sipPartsRow : OpenClaim := { program := "ytgbdkleckmilkaa", sum := "1e54d23f856aca32b5572bc92ba27dd67f823f83c5e54b8b3670914350b59a46", func := "bailiff/bailifflaw07.SipParts", spec := "sipParts", apart := false }
def SipPartsSaid : Prop := sipPartsRow.holds Try.pinned (OpenSpec.ofChange sipPartsSpec)

/-- ITS FALSE NEIGHBOUR: 'it returns false'. Refute it at one input. -/
def sipPartsWrong : ChangeSpec := { name := "sipParts", fn := fun _ => fun
  | [d1, d2] => { results := [.lit (.bool false)], args := [d1, d2] }
  | _ => none }
def SipPartsWrongFalsely : Prop := sipPartsRow.holds Try.pinned (OpenSpec.ofChange sipPartsWrong)

/-- 'bailifflaw13.KeyedFalls': WHATEVER THE INPUT: true; the input reads as it did. -/
def keyedFallsSpec : ChangeSpec := { name := "keyedFalls", fn := fun _ => fun
  | [d1, d2, d3, d4] => { results := [.lit (.bool true)], args := [d1, d2, d3, d4] }
  | _ => none }
def keyedFallsRow : OpenClaim := { program := "ytgbdkleckmilkaa", sum := "1e54d23f856aca32b5572bc92ba27dd67f823f83c5e54b8b3670914350b59a46", func := "bailiff/bailifflaw13.KeyedFalls", spec := "keyedFalls", apart := false }
def KeyedFallsSaid : Prop := keyedFallsRow.holds Try.pinned (OpenSpec.ofChange keyedFallsSpec)

/-- ITS FALSE NEIGHBOUR: 'it returns false'. Refute it at one input. -/
def keyedFallsWrong : ChangeSpec := { name := "keyedFalls", fn := fun _ => fun
  | [d1, d2, d3, d4] => { results := [.lit (.bool false)], args := [d1, d2, d3, d4] }
  | _ => none }
def KeyedFallsWrongFalsely : Prop := keyedFallsRow.holds Try.pinned (OpenSpec.ofChange keyedFallsWrong)

/-- 'bailifflaw13.KeyedWithin': WHATEVER THE INPUT: true; the input reads as it did. -/
def keyedWithinSpec : ChangeSpec := { name := "keyedWithin", fn := fun _ => fun
  | [d1, d2, d3, d4] => { results := [.lit (.bool true)], args := [d1, d2, d3, d4] }
  | _ => none }
def keyedWithinRow : OpenClaim := { program := "ytgbdkleckmilkaa", sum := "1e54d23f856aca32b5572bc92ba27dd67f823f83c5e54b8b3670914350b59a46", func := "bailiff/bailifflaw13.KeyedWithin", spec := "keyedWithin", apart := false }
def KeyedWithinSaid : Prop := keyedWithinRow.holds Try.pinned (OpenSpec.ofChange keyedWithinSpec)

/-- ITS FALSE NEIGHBOUR: 'it returns false'. Refute it at one input. -/
def keyedWithinWrong : ChangeSpec := { name := "keyedWithin", fn := fun _ => fun
  | [d1, d2, d3, d4] => { results := [.lit (.bool false)], args := [d1, d2, d3, d4] }
  | _ => none }
def KeyedWithinWrongFalsely : Prop := keyedWithinRow.holds Try.pinned (OpenSpec.ofChange keyedWithinWrong)

/-- 'bailifflaw13.KeyedAlone': WHATEVER THE INPUT: true; the input reads as it did. -/
def keyedAloneSpec : ChangeSpec := { name := "keyedAlone", fn := fun _ => fun
  | [d1, d2] => { results := [.lit (.bool true)], args := [d1, d2] }
  | _ => none }
def keyedAloneRow : OpenClaim := { program := "ytgbdkleckmilkaa", sum := "1e54d23f856aca32b5572bc92ba27dd67f823f83c5e54b8b3670914350b59a46", func := "bailiff/bailifflaw13.KeyedAlone", spec := "keyedAlone", apart := false }
def KeyedAloneSaid : Prop := keyedAloneRow.holds Try.pinned (OpenSpec.ofChange keyedAloneSpec)

/-- ITS FALSE NEIGHBOUR: 'it returns false'. Refute it at one input. -/
def keyedAloneWrong : ChangeSpec := { name := "keyedAlone", fn := fun _ => fun
  | [d1, d2] => { results := [.lit (.bool false)], args := [d1, d2] }
  | _ => none }
def KeyedAloneWrongFalsely : Prop := keyedAloneRow.holds Try.pinned (OpenSpec.ofChange keyedAloneWrong)

/-- 'bailifflaw13.KeyedFour': WHATEVER THE INPUT: true; the input reads as it did. -/
def keyedFourSpec : ChangeSpec := { name := "keyedFour", fn := fun _ => fun
  | [d1, d2, d3, d4, d5] => { results := [.lit (.bool true)], args := [d1, d2, d3, d4, d5] }
  | _ => none }
def keyedFourRow : OpenClaim := { program := "ytgbdkleckmilkaa", sum := "1e54d23f856aca32b5572bc92ba27dd67f823f83c5e54b8b3670914350b59a46", func := "bailiff/bailifflaw13.KeyedFour", spec := "keyedFour", apart := false }
def KeyedFourSaid : Prop := keyedFourRow.holds Try.pinned (OpenSpec.ofChange keyedFourSpec)

/-- ITS FALSE NEIGHBOUR: 'it returns false'. Refute it at one input. -/
def keyedFourWrong : ChangeSpec := { name := "keyedFour", fn := fun _ => fun
  | [d1, d2, d3, d4, d5] => { results := [.lit (.bool false)], args := [d1, d2, d3, d4, d5] }
  | _ => none }
def KeyedFourWrongFalsely : Prop := keyedFourRow.holds Try.pinned (OpenSpec.ofChange keyedFourWrong)

/-- 'bailifflaw24.GensMove': WHATEVER THE INPUT: true; the input reads as it did. -/
def gensMoveSpec : ChangeSpec := { name := "gensMove", fn := fun _ => fun
  | [d1, d2, d3, d4] => { results := [.lit (.bool true)], args := [d1, d2, d3, d4] }
  | _ => none }
def gensMoveRow : OpenClaim := { program := "ytgbdkleckmilkaa", sum := "1e54d23f856aca32b5572bc92ba27dd67f823f83c5e54b8b3670914350b59a46", func := "bailiff/bailifflaw24.GensMove", spec := "gensMove", apart := false }
def GensMoveSaid : Prop := gensMoveRow.holds Try.pinned (OpenSpec.ofChange gensMoveSpec)

/-- ITS FALSE NEIGHBOUR: 'it returns false'. Refute it at one input. -/
def gensMoveWrong : ChangeSpec := { name := "gensMove", fn := fun _ => fun
  | [d1, d2, d3, d4] => { results := [.lit (.bool false)], args := [d1, d2, d3, d4] }
  | _ => none }
def GensMoveWrongFalsely : Prop := gensMoveRow.holds Try.pinned (OpenSpec.ofChange gensMoveWrong)

/-- 'bailifflaw24.GensEpochs': WHATEVER THE INPUT: true; the input reads as it did. -/
def gensEpochsSpec : ChangeSpec := { name := "gensEpochs", fn := fun _ => fun
  | [d1, d2, d3, d4] => { results := [.lit (.bool true)], args := [d1, d2, d3, d4] }
  | _ => none }
def gensEpochsRow : OpenClaim := { program := "ytgbdkleckmilkaa", sum := "1e54d23f856aca32b5572bc92ba27dd67f823f83c5e54b8b3670914350b59a46", func := "bailiff/bailifflaw24.GensEpochs", spec := "gensEpochs", apart := false }
def GensEpochsSaid : Prop := gensEpochsRow.holds Try.pinned (OpenSpec.ofChange gensEpochsSpec)

/-- ITS FALSE NEIGHBOUR: 'it returns false'. Refute it at one input. -/
def gensEpochsWrong : ChangeSpec := { name := "gensEpochs", fn := fun _ => fun
  | [d1, d2, d3, d4] => { results := [.lit (.bool false)], args := [d1, d2, d3, d4] }
  | _ => none }
def GensEpochsWrongFalsely : Prop := gensEpochsRow.holds Try.pinned (OpenSpec.ofChange gensEpochsWrong)

/-- 'bailifflaw24.GensWithin': WHATEVER THE INPUT: true; the input reads as it did. -/
def gensWithinSpec : ChangeSpec := { name := "gensWithin", fn := fun _ => fun
  | [d1, d2, d3, d4, d5] => { results := [.lit (.bool true)], args := [d1, d2, d3, d4, d5] }
  | _ => none }
def gensWithinRow : OpenClaim := { program := "ytgbdkleckmilkaa", sum := "1e54d23f856aca32b5572bc92ba27dd67f823f83c5e54b8b3670914350b59a46", func := "bailiff/bailifflaw24.GensWithin", spec := "gensWithin", apart := false }
def GensWithinSaid : Prop := gensWithinRow.holds Try.pinned (OpenSpec.ofChange gensWithinSpec)

/-- ITS FALSE NEIGHBOUR: 'it returns false'. Refute it at one input. -/
def gensWithinWrong : ChangeSpec := { name := "gensWithin", fn := fun _ => fun
  | [d1, d2, d3, d4, d5] => { results := [.lit (.bool false)], args := [d1, d2, d3, d4, d5] }
  | _ => none }
def GensWithinWrongFalsely : Prop := gensWithinRow.holds Try.pinned (OpenSpec.ofChange gensWithinWrong)

/- THE SECOND FORM. 'bulk': how many values and letters a reading holds, each counted each time it is reached (what is shared counts as often as it is met; a slice's spare places count too). A statement '..UptoSaid' is the law's where the arguments, and the package variables that the reading takes, are together of bulk at most 1048576: NARROWER than '..Said'. Prove '..Said' where nothing that the law and all that it calls make is longer than what came in: it says more and counts as full. Else prove '..UptoSaid'. A law counts once. -/
mutual
def uptoBulk {H : Type} : DataW H → Nat
  | .lit (.string bytes) => bytes.length + 1
  | .lit _ => 1
  | .nil => 1
  | .ptr d => uptoBulk d + 1
  | .slice elems spare => uptoBulkAll elems + uptoBulkAll spare + 1
  | .agg parts => uptoBulkAll parts + 1
  | .iface _ d => uptoBulk d + 1
  | .map entries => uptoBulkEntries entries + 1
  | .held _ => 1
def uptoBulkAll {H : Type} : List (DataW H) → Nat
  | [] => 0
  | d :: r => uptoBulk d + uptoBulkAll r
def uptoBulkEntries {H : Type} : List (Lit × DataW H) → Nat
  | [] => 0
  | x :: r => uptoBulkEntry x + uptoBulkEntries r
def uptoBulkEntry {H : Type} : Lit × DataW H → Nat
  | (.string bytes, d) => bytes.length + uptoBulk d + 1
  | (_, d) => uptoBulk d + 1
 end
def uptoSmall : (H : Type) → List (DataW H) → Bool := fun _ ds => decide (uptoBulkAll ds ≤ 1048576)
def OpenSpec.upto (s : _root_.Go.ChangeSpec) : _root_.Go.OpenSpec := { _root_.Go.OpenSpec.ofChange s with cond := some uptoSmall }

/-- 'bailifflaw07.SipSums', WHERE WHAT IT READS IS OF BULK AT MOST 1048576: true; the input reads as it did. -/
def sipSumsUptoRow : OpenClaim := { program := "ytgbdkleckmilkaa", sum := "1e54d23f856aca32b5572bc92ba27dd67f823f83c5e54b8b3670914350b59a46", func := "bailiff/bailifflaw07.SipSums", spec := "sipSums", apart := false, narrowed := true }
def SipSumsUptoSaid : Prop := sipSumsUptoRow.holds Try.pinned (OpenSpec.upto sipSumsSpec)

/-- 'bailifflaw07.SipOwn', WHERE WHAT IT READS IS OF BULK AT MOST 1048576: true; the input reads as it did. -/
def sipOwnUptoRow : OpenClaim := { program := "ytgbdkleckmilkaa", sum := "1e54d23f856aca32b5572bc92ba27dd67f823f83c5e54b8b3670914350b59a46", func := "bailiff/bailifflaw07.SipOwn", spec := "sipOwn", apart := false, narrowed := true }
def SipOwnUptoSaid : Prop := sipOwnUptoRow.holds Try.pinned (OpenSpec.upto sipOwnSpec)

/-- 'bailifflaw07.SipParts', WHERE WHAT IT READS IS OF BULK AT MOST 1048576: true; the input reads as it did. -/
def sipPartsUptoRow : OpenClaim := { program := "ytgbdkleckmilkaa", sum := "1e54d23f856aca32b5572bc92ba27dd67f823f83c5e54b8b3670914350b59a46", func := "bailiff/bailifflaw07.SipParts", spec := "sipParts", apart := false, narrowed := true }
def SipPartsUptoSaid : Prop := sipPartsUptoRow.holds Try.pinned (OpenSpec.upto sipPartsSpec)

/-- 'bailifflaw13.KeyedFalls', WHERE WHAT IT READS IS OF BULK AT MOST 1048576: true; the input reads as it did. -/
def keyedFallsUptoRow : OpenClaim := { program := "ytgbdkleckmilkaa", sum := "1e54d23f856aca32b5572bc92ba27dd67f823f83c5e54b8b3670914350b59a46", func := "bailiff/bailifflaw13.KeyedFalls", spec := "keyedFalls", apart := false, narrowed := true }
def KeyedFallsUptoSaid : Prop := keyedFallsUptoRow.holds Try.pinned (OpenSpec.upto keyedFallsSpec)

/-- 'bailifflaw13.KeyedWithin', WHERE WHAT IT READS IS OF BULK AT MOST 1048576: true; the input reads as it did. -/
def keyedWithinUptoRow : OpenClaim := { program := "ytgbdkleckmilkaa", sum := "1e54d23f856aca32b5572bc92ba27dd67f823f83c5e54b8b3670914350b59a46", func := "bailiff/bailifflaw13.KeyedWithin", spec := "keyedWithin", apart := false, narrowed := true }
def KeyedWithinUptoSaid : Prop := keyedWithinUptoRow.holds Try.pinned (OpenSpec.upto keyedWithinSpec)

/-- 'bailifflaw13.KeyedAlone', WHERE WHAT IT READS IS OF BULK AT MOST 1048576: true; the input reads as it did. -/
def keyedAloneUptoRow : OpenClaim := { program := "ytgbdkleckmilkaa", sum := "1e54d23f856aca32b5572bc92ba27dd67f823f83c5e54b8b3670914350b59a46", func := "bailiff/bailifflaw13.KeyedAlone", spec := "keyedAlone", apart := false, narrowed := true }
def KeyedAloneUptoSaid : Prop := keyedAloneUptoRow.holds Try.pinned (OpenSpec.upto keyedAloneSpec)

/-- 'bailifflaw13.KeyedFour', WHERE WHAT IT READS IS OF BULK AT MOST 1048576: true; the input reads as it did. -/
def keyedFourUptoRow : OpenClaim := { program := "ytgbdkleckmilkaa", sum := "1e54d23f856aca32b5572bc92ba27dd67f823f83c5e54b8b3670914350b59a46", func := "bailiff/bailifflaw13.KeyedFour", spec := "keyedFour", apart := false, narrowed := true }
def KeyedFourUptoSaid : Prop := keyedFourUptoRow.holds Try.pinned (OpenSpec.upto keyedFourSpec)

/-- 'bailifflaw24.GensMove', WHERE WHAT IT READS IS OF BULK AT MOST 1048576: true; the input reads as it did. -/
def gensMoveUptoRow : OpenClaim := { program := "ytgbdkleckmilkaa", sum := "1e54d23f856aca32b5572bc92ba27dd67f823f83c5e54b8b3670914350b59a46", func := "bailiff/bailifflaw24.GensMove", spec := "gensMove", apart := false, narrowed := true }
def GensMoveUptoSaid : Prop := gensMoveUptoRow.holds Try.pinned (OpenSpec.upto gensMoveSpec)

/-- 'bailifflaw24.GensEpochs', WHERE WHAT IT READS IS OF BULK AT MOST 1048576: true; the input reads as it did. -/
def gensEpochsUptoRow : OpenClaim := { program := "ytgbdkleckmilkaa", sum := "1e54d23f856aca32b5572bc92ba27dd67f823f83c5e54b8b3670914350b59a46", func := "bailiff/bailifflaw24.GensEpochs", spec := "gensEpochs", apart := false, narrowed := true }
def GensEpochsUptoSaid : Prop := gensEpochsUptoRow.holds Try.pinned (OpenSpec.upto gensEpochsSpec)

/-- 'bailifflaw24.GensWithin', WHERE WHAT IT READS IS OF BULK AT MOST 1048576: true; the input reads as it did. -/
def gensWithinUptoRow : OpenClaim := { program := "ytgbdkleckmilkaa", sum := "1e54d23f856aca32b5572bc92ba27dd67f823f83c5e54b8b3670914350b59a46", func := "bailiff/bailifflaw24.GensWithin", spec := "gensWithin", apart := false, narrowed := true }
def GensWithinUptoSaid : Prop := gensWithinUptoRow.holds Try.pinned (OpenSpec.upto gensWithinSpec)

end Rows
end Go.Proofs.Ytgbdkleckmilkaa
