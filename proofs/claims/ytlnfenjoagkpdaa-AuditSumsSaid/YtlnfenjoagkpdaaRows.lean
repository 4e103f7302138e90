/-
  No cell of these rows narrows 'for every input' (looked for: loops, veiled, ifaces, maps, wideKeys, modest, calm, conditions, laid).
  DERIVED. THE GIVEN ROWS OF THIS SEAT. 8 by the template 'for every input the law returns true; each argument reads behind the call as it read before'; 0 by the template 'total and deterministic' (their statements: YtlnfenjoagkpdaaTotals.lean).
  GIVEN WITH THE SEED: the statements are not yours to turn. If you find one false, say at which input.
  Laid BY PROGRAM, IN A SANDBOX (cutbox-rows.mjs): the forced cells as the released guide's own fill.sh prints them over the translation 6a387604b839a8fe… (all of the seat's roots in one cut). By AI agents, Wed Nov 11 2026. No macro, syntax, notation, axiom, sorry.
-/
import Derived.Test.YtlnfenjoagkpdaaChecked
import GoSem.Claim
import GoSem.ClaimJoined
import GoSem.ClaimMapViews
import Derived.JoinedTies
import Derived.KernelRfl
namespace Go.Proofs.Ytlnfenjoagkpdaa
/- THE CELL 'sum', in the pinned program and in every row, IS THE sha256 OF THE DUMP (.gsa) THAT YtlnfenjoagkpdaaProg.lean LOADS. Nothing in Lean hashes anything: it is a label: what it is worth is what the hold of that sum in a sandbox is worth. -/
noncomputable def Try.pinned : Pinned := { name := "ytlnfenjoagkpdaa", sum := "6a387604b839a8fe8338f3535242827b27bad27b3c03b7fd2dc61e8f068f1a39", checked := Try.checked }
namespace Rows
def none {H : Type} : Left H := { results := [], args := [] }

/-- 'bailifflaw15.TurnsFair': WHATEVER THE INPUT: true; the input reads as it did. -/
def turnsFairSpec : ChangeSpec := { name := "turnsFair", fn := fun _ => fun
  | [d1, d2, d3, d4] => { results := [.lit (.bool true)], args := [d1, d2, d3, d4] }
  | _ => none }
def turnsFairRow : OpenClaim := { program := "ytlnfenjoagkpdaa", sum := "6a387604b839a8fe8338f3535242827b27bad27b3c03b7fd2dc61e8f068f1a39", func := "bailiff/bailifflaw15.TurnsFair", spec := "turnsFair", unfollowed := true, recurses := true, apart := false }
def TurnsFairSaid : Prop := turnsFairRow.holds Try.pinned (OpenSpec.ofChange turnsFairSpec)

/-- ITS FALSE NEIGHBOUR: 'it returns false'. Refute it at one input. -/
def turnsFairWrong : ChangeSpec := { name := "turnsFair", fn := fun _ => fun
  | [d1, d2, d3, d4] => { results := [.lit (.bool false)], args := [d1, d2, d3, d4] }
  | _ => none }
def TurnsFairWrongFalsely : Prop := turnsFairRow.holds Try.pinned (OpenSpec.ofChange turnsFairWrong)

/-- 'bailifflaw15.TurnsPlay': WHATEVER THE INPUT: true; the input reads as it did. -/
def turnsPlaySpec : ChangeSpec := { name := "turnsPlay", fn := fun _ => fun
  | [d1, d2, d3] => { results := [.lit (.bool true)], args := [d1, d2, d3] }
  | _ => none }
def turnsPlayRow : OpenClaim := { program := "ytlnfenjoagkpdaa", sum := "6a387604b839a8fe8338f3535242827b27bad27b3c03b7fd2dc61e8f068f1a39", func := "bailiff/bailifflaw15.TurnsPlay", spec := "turnsPlay", unfollowed := true, recurses := true, apart := false }
def TurnsPlaySaid : Prop := turnsPlayRow.holds Try.pinned (OpenSpec.ofChange turnsPlaySpec)

/-- ITS FALSE NEIGHBOUR: 'it returns false'. Refute it at one input. -/
def turnsPlayWrong : ChangeSpec := { name := "turnsPlay", fn := fun _ => fun
  | [d1, d2, d3] => { results := [.lit (.bool false)], args := [d1, d2, d3] }
  | _ => none }
def TurnsPlayWrongFalsely : Prop := turnsPlayRow.holds Try.pinned (OpenSpec.ofChange turnsPlayWrong)

/-- 'bailifflaw15.TurnsNobody': WHATEVER THE INPUT: true; the input reads as it did. -/
def turnsNobodySpec : ChangeSpec := { name := "turnsNobody", fn := fun _ => fun
  | [d] => { results := [.lit (.bool true)], args := [d] }
  | _ => none }
def turnsNobodyRow : OpenClaim := { program := "ytlnfenjoagkpdaa", sum := "6a387604b839a8fe8338f3535242827b27bad27b3c03b7fd2dc61e8f068f1a39", func := "bailiff/bailifflaw15.TurnsNobody", spec := "turnsNobody", unfollowed := true, recurses := true, apart := false }
def TurnsNobodySaid : Prop := turnsNobodyRow.holds Try.pinned (OpenSpec.ofChange turnsNobodySpec)

/-- ITS FALSE NEIGHBOUR: 'it returns false'. Refute it at one input. -/
def turnsNobodyWrong : ChangeSpec := { name := "turnsNobody", fn := fun _ => fun
  | [d] => { results := [.lit (.bool false)], args := [d] }
  | _ => none }
def TurnsNobodyWrongFalsely : Prop := turnsNobodyRow.holds Try.pinned (OpenSpec.ofChange turnsNobodyWrong)

/-- 'bailifflaw15.TurnsRound': WHATEVER THE INPUT: true; the input reads as it did. -/
def turnsRoundSpec : ChangeSpec := { name := "turnsRound", fn := fun _ => fun
  | [d1, d2, d3] => { results := [.lit (.bool true)], args := [d1, d2, d3] }
  | _ => none }
def turnsRoundRow : OpenClaim := { program := "ytlnfenjoagkpdaa", sum := "6a387604b839a8fe8338f3535242827b27bad27b3c03b7fd2dc61e8f068f1a39", func := "bailiff/bailifflaw15.TurnsRound", spec := "turnsRound", unfollowed := true, recurses := true, apart := false }
def TurnsRoundSaid : Prop := turnsRoundRow.holds Try.pinned (OpenSpec.ofChange turnsRoundSpec)

/-- ITS FALSE NEIGHBOUR: 'it returns false'. Refute it at one input. -/
def turnsRoundWrong : ChangeSpec := { name := "turnsRound", fn := fun _ => fun
  | [d1, d2, d3] => { results := [.lit (.bool false)], args := [d1, d2, d3] }
  | _ => none }
def TurnsRoundWrongFalsely : Prop := turnsRoundRow.holds Try.pinned (OpenSpec.ofChange turnsRoundWrong)

/-- 'bailifflaw15.TurnsSleep': WHATEVER THE INPUT: true; the input reads as it did. -/
def turnsSleepSpec : ChangeSpec := { name := "turnsSleep", fn := fun _ => fun
  | [d1, d2] => { results := [.lit (.bool true)], args := [d1, d2] }
  | _ => none }
def turnsSleepRow : OpenClaim := { program := "ytlnfenjoagkpdaa", sum := "6a387604b839a8fe8338f3535242827b27bad27b3c03b7fd2dc61e8f068f1a39", func := "bailiff/bailifflaw15.TurnsSleep", spec := "turnsSleep", unfollowed := true, recurses := true, apart := false }
def TurnsSleepSaid : Prop := turnsSleepRow.holds Try.pinned (OpenSpec.ofChange turnsSleepSpec)

/-- ITS FALSE NEIGHBOUR: 'it returns false'. Refute it at one input. -/
def turnsSleepWrong : ChangeSpec := { name := "turnsSleep", fn := fun _ => fun
  | [d1, d2] => { results := [.lit (.bool false)], args := [d1, d2] }
  | _ => none }
def TurnsSleepWrongFalsely : Prop := turnsSleepRow.holds Try.pinned (OpenSpec.ofChange turnsSleepWrong)

/-- 'bailifflaw32.AuditLooks': WHATEVER THE INPUT: true; the input reads as it did. -/
def auditLooksSpec : ChangeSpec := { name := "auditLooks", fn := fun _ => fun
  | [d1, d2, d3] => { results := [.lit (.bool true)], args := [d1, d2, d3] }
  | _ => none }
def auditLooksRow : OpenClaim := { program := "ytlnfenjoagkpdaa", sum := "6a387604b839a8fe8338f3535242827b27bad27b3c03b7fd2dc61e8f068f1a39", func := "bailiff/bailifflaw32.AuditLooks", spec := "auditLooks", recurses := true, apart := false }
def AuditLooksSaid : Prop := auditLooksRow.holds Try.pinned (OpenSpec.ofChange auditLooksSpec)

/-- ITS FALSE NEIGHBOUR: 'it returns false'. Refute it at one input. -/
def auditLooksWrong : ChangeSpec := { name := "auditLooks", fn := fun _ => fun
  | [d1, d2, d3] => { results := [.lit (.bool false)], args := [d1, d2, d3] }
  | _ => none }
def AuditLooksWrongFalsely : Prop := auditLooksRow.holds Try.pinned (OpenSpec.ofChange auditLooksWrong)

/-- 'bailifflaw32.AuditParts': WHATEVER THE INPUT: true; the input reads as it did. -/
def auditPartsSpec : ChangeSpec := { name := "auditParts", fn := fun _ => fun
  | [d1, d2, d3] => { results := [.lit (.bool true)], args := [d1, d2, d3] }
  | _ => none }
def auditPartsRow : OpenClaim := { program := "ytlnfenjoagkpdaa", sum := "6a387604b839a8fe8338f3535242827b27bad27b3c03b7fd2dc61e8f068f1a39", func := "bailiff/bailifflaw32.AuditParts", spec := "auditParts", recurses := true, apart := false }
def AuditPartsSaid : Prop := auditPartsRow.holds Try.pinned (OpenSpec.ofChange auditPartsSpec)

/-- ITS FALSE NEIGHBOUR: 'it returns false'. Refute it at one input. -/
def auditPartsWrong : ChangeSpec := { name := "auditParts", fn := fun _ => fun
  | [d1, d2, d3] => { results := [.lit (.bool false)], args := [d1, d2, d3] }
  | _ => none }
def AuditPartsWrongFalsely : Prop := auditPartsRow.holds Try.pinned (OpenSpec.ofChange auditPartsWrong)

/-- 'bailifflaw32.AuditSums': WHATEVER THE INPUT: true; the input reads as it did. -/
def auditSumsSpec : ChangeSpec := { name := "auditSums", fn := fun _ => fun
  | [d1, d2] => { results := [.lit (.bool true)], args := [d1, d2] }
  | _ => none }
def auditSumsRow : OpenClaim := { program := "ytlnfenjoagkpdaa", sum := "6a387604b839a8fe8338f3535242827b27bad27b3c03b7fd2dc61e8f068f1a39", func := "bailiff/bailifflaw32.AuditSums", spec := "auditSums", recurses := true, apart := false }
def AuditSumsSaid : Prop := auditSumsRow.holds Try.pinned (OpenSpec.ofChange auditSumsSpec)

/-- ITS FALSE NEIGHBOUR: 'it returns false'. Refute it at one input. -/
def auditSumsWrong : ChangeSpec := { name := "auditSums", fn := fun _ => fun
  | [d1, d2] => { results := [.lit (.bool false)], args := [d1, d2] }
  | _ => none }
def AuditSumsWrongFalsely : Prop := auditSumsRow.holds Try.pinned (OpenSpec.ofChange auditSumsWrong)

/- THE SECOND FORM. 'bulk': how many values and letters a reading holds, each counted each time it is reached (what is shared counts as often as it is met; a slice's spare places count too). A statement '..UptoSaid' is the law's where the arguments, and the package variables that the reading takes, are together of bulk at most 1048576: NARROWER than '..Said'. Prove '..Said' where nothing that the law and all that it calls make is longer than what came in: it says more and counts as full. Else prove '..UptoSaid'. A law counts once. -/
mutual
def uptoBulk {H : Type} : DataW H → Nat
  | .lit (.string bytes) => bytes.length + 1
  | .lit _ => 1
  | .nil => 1
  | .ptr d => uptoBulk d + 1
  | .slice elems spare => uptoBulkAll elems + uptoBulkAll spare + 1
  | .agg parts => uptoBulkAll parts + 1
  | .iface _ d => uptoBulk d + 1
  | .map entries => uptoBulkEntries entries + 1
  | .held _ => 1
def uptoBulkAll {H : Type} : List (DataW H) → Nat
  | [] => 0
  | d :: r => uptoBulk d + uptoBulkAll r
def uptoBulkEntries {H : Type} : List (Lit × DataW H) → Nat
  | [] => 0
  | x :: r => uptoBulkEntry x + uptoBulkEntries r
def uptoBulkEntry {H : Type} : Lit × DataW H → Nat
  | (.string bytes, d) => bytes.length + uptoBulk d + 1
  | (_, d) => uptoBulk d + 1
 end
def uptoSmall : (H : Type) → List (DataW H) → Bool := fun _ ds => decide (uptoBulkAll ds ≤ 1048576)
def OpenSpec.upto (s : _root_.Go.ChangeSpec) : _root_.Go.OpenSpec := { _root_.Go.OpenSpec.ofChange s with cond := some uptoSmall }

/-- 'bailifflaw15.TurnsFair', WHERE WHAT IT READS IS OF BULK AT MOST 1048576: true; the input reads as it did. -/
def turnsFairUptoRow : OpenClaim := { program := "ytlnfenjoagkpdaa", sum := "6a387604b839a8fe8338f3535242827b27bad27b3c03b7fd2dc61e8f068f1a39", func := "bailiff/bailifflaw15.TurnsFair", spec := "turnsFair", unfollowed := true, recurses := true, apart := false, narrowed := true }
def TurnsFairUptoSaid : Prop := turnsFairUptoRow.holds Try.pinned (OpenSpec.upto turnsFairSpec)

/-- 'bailifflaw15.TurnsPlay', WHERE WHAT IT READS IS OF BULK AT MOST 1048576: true; the input reads as it did. -/
def turnsPlayUptoRow : OpenClaim := { program := "ytlnfenjoagkpdaa", sum := "6a387604b839a8fe8338f3535242827b27bad27b3c03b7fd2dc61e8f068f1a39", func := "bailiff/bailifflaw15.TurnsPlay", spec := "turnsPlay", unfollowed := true, recurses := true, apart := false, narrowed := true }
def TurnsPlayUptoSaid : Prop := turnsPlayUptoRow.holds Try.pinned (OpenSpec.upto turnsPlaySpec)

/-- 'bailifflaw15.TurnsNobody', WHERE WHAT IT READS IS OF BULK AT MOST 1048576: true; the input reads as it did. -/
def turnsNobodyUptoRow : OpenClaim := { program := "ytlnfenjoagkpdaa", sum := "6a387604b839a8fe8338f3535242827b27bad27b3c03b7fd2dc61e8f068f1a39", func := "bailiff/bailifflaw15.TurnsNobody", spec := "turnsNobody", unfollowed := true, recurses := true, apart := false, narrowed := true }
def TurnsNobodyUptoSaid : Prop := turnsNobodyUptoRow.holds Try.pinned (OpenSpec.upto turnsNobodySpec)

/-- 'bailifflaw15.TurnsRound', WHERE WHAT IT READS IS OF BULK AT MOST 1048576: true; the input reads as it did. -/
def turnsRoundUptoRow : OpenClaim := { program := "ytlnfenjoagkpdaa", sum := "6a387604b839a8fe8338f3535242827b27bad27b3c03b7fd2dc61e8f068f1a39", func := "bailiff/bailifflaw15.TurnsRound", spec := "turnsRound", unfollowed := true, recurses := true, apart := false, narrowed := true }
def TurnsRoundUptoSaid : Prop := turnsRoundUptoRow.holds Try.pinned (OpenSpec.upto turnsRoundSpec)

/-- 'bailifflaw15.TurnsSleep', WHERE WHAT IT READS IS OF BULK AT MOST 1048576: true; the input reads as it did. -/
def turnsSleepUptoRow : OpenClaim := { program := "ytlnfenjoagkpdaa", sum := "6a387604b839a8fe8338f3535242827b27bad27b3c03b7fd2dc61e8f068f1a39", func := "bailiff/bailifflaw15.TurnsSleep", spec := "turnsSleep", unfollowed := true, recurses := true, apart := false, narrowed := true }
def TurnsSleepUptoSaid : Prop := turnsSleepUptoRow.holds Try.pinned (OpenSpec.upto turnsSleepSpec)

/-- 'bailifflaw32.AuditLooks', WHERE WHAT IT READS IS OF BULK AT MOST 1048576: true; the input reads as it did. -/
def auditLooksUptoRow : OpenClaim := { program := "ytlnfenjoagkpdaa", sum := "6a387604b839a8fe8338f3535242827b27bad27b3c03b7fd2dc61e8f068f1a39", func := "bailiff/bailifflaw32.AuditLooks", spec := "auditLooks", recurses := true, apart := false, narrowed := true }
def AuditLooksUptoSaid : Prop := auditLooksUptoRow.holds Try.pinned (OpenSpec.upto auditLooksSpec)

/-- 'bailifflaw32.AuditParts', WHERE WHAT IT READS IS OF BULK AT MOST 1048576: true; the input reads as it did. -/
def auditPartsUptoRow : OpenClaim := { program := "ytlnfenjoagkpdaa", sum := "6a387604b839a8fe8338f3535242827b27bad27b3c03b7fd2dc61e8f068f1a39", func := "bailiff/bailifflaw32.AuditParts", spec := "auditParts", recurses := true, apart := false, narrowed := true }
def AuditPartsUptoSaid : Prop := auditPartsUptoRow.holds Try.pinned (OpenSpec.upto auditPartsSpec)

/-- 'bailifflaw32.AuditSums', WHERE WHAT IT READS IS OF BULK AT MOST 1048576: true; the input reads as it did. -/
def auditSumsUptoRow : OpenClaim := { program := "ytlnfenjoagkpdaa", sum := "6a387604b839a8fe8338f3535242827b27bad27b3c03b7fd2dc61e8f068f1a39", func := "bailiff/bailifflaw32.AuditSums", spec := "auditSums", recurses := true, apart := false, narrowed := true }
def AuditSumsUptoSaid : Prop := auditSumsUptoRow.holds Try.pinned (OpenSpec.upto auditSumsSpec)

end Rows
end Go.Proofs.Ytlnfenjoagkpdaa
