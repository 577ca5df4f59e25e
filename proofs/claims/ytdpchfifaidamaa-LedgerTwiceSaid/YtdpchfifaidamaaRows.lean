/-
  No cell of these rows narrows 'for every input' (looked for: loops, veiled, ifaces, maps, wideKeys, modest, calm, conditions, laid).
  DERIVED. THE GIVEN ROWS OF THIS SEAT. 11 by the template 'for every input the law returns true; each argument reads behind the call as it read before'; 0 by the template 'total and deterministic' (their statements: YtdpchfifaidamaaTotals.lean).
  GIVEN WITH THE SEED: the statements are not yours to turn. If you find one false, say at which input.
  Laid BY PROGRAM, IN A SANDBOX (cutbox-rows.mjs): the forced cells as the released guide's own fill.sh prints them over the translation 6acd522630915b5a… (all of the seat's roots in one cut). By AI agents, Wed Nov 11 2026. No macro, syntax, notation, axiom, sorry.
-/
import Derived.Test.YtdpchfifaidamaaChecked
import GoSem.Claim
import GoSem.ClaimJoined
import GoSem.ClaimMapViews
import Derived.JoinedTies
import Derived.KernelRfl
namespace Go.Proofs.Ytdpchfifaidamaa
/- THE CELL 'sum', in the pinned program and in every row, IS THE sha256 OF THE DUMP (.gsa) THAT YtdpchfifaidamaaProg.lean LOADS. Nothing in Lean hashes anything: it is a label: what it is worth is what the hold of that sum in a sandbox is worth. -/
noncomputable def Try.pinned : Pinned := { name := "ytdpchfifaidamaa", sum := "6acd522630915b5a443e76380d962c07dbdb6d3d937ceb410d04e3762802c7d2", checked := Try.checked }
namespace Rows
def none {H : Type} : Left H := { results := [], args := [] }

/-- 'triremelaw27.TimerKeeps': WHATEVER THE INPUT: true; the input reads as it did. -/
def timerKeepsSpec : ChangeSpec := { name := "timerKeeps", fn := fun _ => fun
  | [d1, d2] => { results := [.lit (.bool true)], args := [d1, d2] }
  | _ => none }
def timerKeepsRow : OpenClaim := { program := "ytdpchfifaidamaa", sum := "6acd522630915b5a443e76380d962c07dbdb6d3d937ceb410d04e3762802c7d2", func := "trireme/triremelaw27.TimerKeeps", spec := "timerKeeps", apart := false }
def TimerKeepsSaid : Prop := timerKeepsRow.holds Try.pinned (OpenSpec.ofChange timerKeepsSpec)

/-- ITS FALSE NEIGHBOUR: 'it returns false'. Refute it at one input. -/
def timerKeepsWrong : ChangeSpec := { name := "timerKeeps", fn := fun _ => fun
  | [d1, d2] => { results := [.lit (.bool false)], args := [d1, d2] }
  | _ => none }
def TimerKeepsWrongFalsely : Prop := timerKeepsRow.holds Try.pinned (OpenSpec.ofChange timerKeepsWrong)

/-- 'triremelaw27.TimerMore': WHATEVER THE INPUT: true; the input reads as it did. -/
def timerMoreSpec : ChangeSpec := { name := "timerMore", fn := fun _ => fun
  | [d1, d2, d3] => { results := [.lit (.bool true)], args := [d1, d2, d3] }
  | _ => none }
def timerMoreRow : OpenClaim := { program := "ytdpchfifaidamaa", sum := "6acd522630915b5a443e76380d962c07dbdb6d3d937ceb410d04e3762802c7d2", func := "trireme/triremelaw27.TimerMore", spec := "timerMore", apart := false }
def TimerMoreSaid : Prop := timerMoreRow.holds Try.pinned (OpenSpec.ofChange timerMoreSpec)

/-- ITS FALSE NEIGHBOUR: 'it returns false'. Refute it at one input. -/
def timerMoreWrong : ChangeSpec := { name := "timerMore", fn := fun _ => fun
  | [d1, d2, d3] => { results := [.lit (.bool false)], args := [d1, d2, d3] }
  | _ => none }
def TimerMoreWrongFalsely : Prop := timerMoreRow.holds Try.pinned (OpenSpec.ofChange timerMoreWrong)

/-- 'triremelaw24.BackoffPlays': WHATEVER THE INPUT: true; the input reads as it did. -/
def backoffPlaysSpec : ChangeSpec := { name := "backoffPlays", fn := fun _ => fun
  | [d1, d2] => { results := [.lit (.bool true)], args := [d1, d2] }
  | _ => none }
def backoffPlaysRow : OpenClaim := { program := "ytdpchfifaidamaa", sum := "6acd522630915b5a443e76380d962c07dbdb6d3d937ceb410d04e3762802c7d2", func := "trireme/triremelaw24.BackoffPlays", spec := "backoffPlays", apart := false }
def BackoffPlaysSaid : Prop := backoffPlaysRow.holds Try.pinned (OpenSpec.ofChange backoffPlaysSpec)

/-- ITS FALSE NEIGHBOUR: 'it returns false'. Refute it at one input. -/
def backoffPlaysWrong : ChangeSpec := { name := "backoffPlays", fn := fun _ => fun
  | [d1, d2] => { results := [.lit (.bool false)], args := [d1, d2] }
  | _ => none }
def BackoffPlaysWrongFalsely : Prop := backoffPlaysRow.holds Try.pinned (OpenSpec.ofChange backoffPlaysWrong)

/-- 'triremelaw27.TimerPlays': WHATEVER THE INPUT: true; the input reads as it did. -/
def timerPlaysSpec : ChangeSpec := { name := "timerPlays", fn := fun _ => fun
  | [d] => { results := [.lit (.bool true)], args := [d] }
  | _ => none }
def timerPlaysRow : OpenClaim := { program := "ytdpchfifaidamaa", sum := "6acd522630915b5a443e76380d962c07dbdb6d3d937ceb410d04e3762802c7d2", func := "trireme/triremelaw27.TimerPlays", spec := "timerPlays", apart := false }
def TimerPlaysSaid : Prop := timerPlaysRow.holds Try.pinned (OpenSpec.ofChange timerPlaysSpec)

/-- ITS FALSE NEIGHBOUR: 'it returns false'. Refute it at one input. -/
def timerPlaysWrong : ChangeSpec := { name := "timerPlays", fn := fun _ => fun
  | [d] => { results := [.lit (.bool false)], args := [d] }
  | _ => none }
def TimerPlaysWrongFalsely : Prop := timerPlaysRow.holds Try.pinned (OpenSpec.ofChange timerPlaysWrong)

/-- 'triremelaw27.TimerNil': WHATEVER THE INPUT: true; the input reads as it did. -/
def timerNilSpec : ChangeSpec := { name := "timerNil", fn := fun _ => fun
  | [d1, d2] => { results := [.lit (.bool true)], args := [d1, d2] }
  | _ => none }
def timerNilRow : OpenClaim := { program := "ytdpchfifaidamaa", sum := "6acd522630915b5a443e76380d962c07dbdb6d3d937ceb410d04e3762802c7d2", func := "trireme/triremelaw27.TimerNil", spec := "timerNil", apart := false }
def TimerNilSaid : Prop := timerNilRow.holds Try.pinned (OpenSpec.ofChange timerNilSpec)

/-- ITS FALSE NEIGHBOUR: 'it returns false'. Refute it at one input. -/
def timerNilWrong : ChangeSpec := { name := "timerNil", fn := fun _ => fun
  | [d1, d2] => { results := [.lit (.bool false)], args := [d1, d2] }
  | _ => none }
def TimerNilWrongFalsely : Prop := timerNilRow.holds Try.pinned (OpenSpec.ofChange timerNilWrong)

/-- 'triremelaw16.GroupMachines': WHATEVER THE INPUT: true; the input reads as it did. -/
def groupMachinesSpec : ChangeSpec := { name := "groupMachines", fn := fun _ => fun
  | [d1, d2, d3] => { results := [.lit (.bool true)], args := [d1, d2, d3] }
  | _ => none }
def groupMachinesRow : OpenClaim := { program := "ytdpchfifaidamaa", sum := "6acd522630915b5a443e76380d962c07dbdb6d3d937ceb410d04e3762802c7d2", func := "trireme/triremelaw16.GroupMachines", spec := "groupMachines", unfollowed := true, recurses := true, apart := false }
def GroupMachinesSaid : Prop := groupMachinesRow.holds Try.pinned (OpenSpec.ofChange groupMachinesSpec)

/-- ITS FALSE NEIGHBOUR: 'it returns false'. Refute it at one input. -/
def groupMachinesWrong : ChangeSpec := { name := "groupMachines", fn := fun _ => fun
  | [d1, d2, d3] => { results := [.lit (.bool false)], args := [d1, d2, d3] }
  | _ => none }
def GroupMachinesWrongFalsely : Prop := groupMachinesRow.holds Try.pinned (OpenSpec.ofChange groupMachinesWrong)

/-- 'triremelaw35.LedgerTells': WHATEVER THE INPUT: true; the input reads as it did. -/
def ledgerTellsSpec : ChangeSpec := { name := "ledgerTells", fn := fun _ => fun
  | [d1, d2, d3] => { results := [.lit (.bool true)], args := [d1, d2, d3] }
  | _ => none }
def ledgerTellsRow : OpenClaim := { program := "ytdpchfifaidamaa", sum := "6acd522630915b5a443e76380d962c07dbdb6d3d937ceb410d04e3762802c7d2", func := "trireme/triremelaw35.LedgerTells", spec := "ledgerTells", unfollowed := true, recurses := true, apart := false }
def LedgerTellsSaid : Prop := ledgerTellsRow.holds Try.pinned (OpenSpec.ofChange ledgerTellsSpec)

/-- ITS FALSE NEIGHBOUR: 'it returns false'. Refute it at one input. -/
def ledgerTellsWrong : ChangeSpec := { name := "ledgerTells", fn := fun _ => fun
  | [d1, d2, d3] => { results := [.lit (.bool false)], args := [d1, d2, d3] }
  | _ => none }
def LedgerTellsWrongFalsely : Prop := ledgerTellsRow.holds Try.pinned (OpenSpec.ofChange ledgerTellsWrong)

/-- 'triremelaw35.LedgerGrows': WHATEVER THE INPUT: true; the input reads as it did. -/
def ledgerGrowsSpec : ChangeSpec := { name := "ledgerGrows", fn := fun _ => fun
  | [d1, d2] => { results := [.lit (.bool true)], args := [d1, d2] }
  | _ => none }
def ledgerGrowsRow : OpenClaim := { program := "ytdpchfifaidamaa", sum := "6acd522630915b5a443e76380d962c07dbdb6d3d937ceb410d04e3762802c7d2", func := "trireme/triremelaw35.LedgerGrows", spec := "ledgerGrows", unfollowed := true, recurses := true, apart := false }
def LedgerGrowsSaid : Prop := ledgerGrowsRow.holds Try.pinned (OpenSpec.ofChange ledgerGrowsSpec)

/-- ITS FALSE NEIGHBOUR: 'it returns false'. Refute it at one input. -/
def ledgerGrowsWrong : ChangeSpec := { name := "ledgerGrows", fn := fun _ => fun
  | [d1, d2] => { results := [.lit (.bool false)], args := [d1, d2] }
  | _ => none }
def LedgerGrowsWrongFalsely : Prop := ledgerGrowsRow.holds Try.pinned (OpenSpec.ofChange ledgerGrowsWrong)

/-- 'triremelaw35.LedgerNil': WHATEVER THE INPUT: true; the input reads as it did. -/
def ledgerNilSpec : ChangeSpec := { name := "ledgerNil", fn := fun _ => fun
  | [d] => { results := [.lit (.bool true)], args := [d] }
  | _ => none }
def ledgerNilRow : OpenClaim := { program := "ytdpchfifaidamaa", sum := "6acd522630915b5a443e76380d962c07dbdb6d3d937ceb410d04e3762802c7d2", func := "trireme/triremelaw35.LedgerNil", spec := "ledgerNil", unfollowed := true, recurses := true, apart := false }
def LedgerNilSaid : Prop := ledgerNilRow.holds Try.pinned (OpenSpec.ofChange ledgerNilSpec)

/-- ITS FALSE NEIGHBOUR: 'it returns false'. Refute it at one input. -/
def ledgerNilWrong : ChangeSpec := { name := "ledgerNil", fn := fun _ => fun
  | [d] => { results := [.lit (.bool false)], args := [d] }
  | _ => none }
def LedgerNilWrongFalsely : Prop := ledgerNilRow.holds Try.pinned (OpenSpec.ofChange ledgerNilWrong)

/-- 'triremelaw35.LedgerTwice': WHATEVER THE INPUT: true; the input reads as it did. -/
def ledgerTwiceSpec : ChangeSpec := { name := "ledgerTwice", fn := fun _ => fun
  | [d1, d2, d3] => { results := [.lit (.bool true)], args := [d1, d2, d3] }
  | _ => none }
def ledgerTwiceRow : OpenClaim := { program := "ytdpchfifaidamaa", sum := "6acd522630915b5a443e76380d962c07dbdb6d3d937ceb410d04e3762802c7d2", func := "trireme/triremelaw35.LedgerTwice", spec := "ledgerTwice", unfollowed := true, recurses := true, apart := false }
def LedgerTwiceSaid : Prop := ledgerTwiceRow.holds Try.pinned (OpenSpec.ofChange ledgerTwiceSpec)

/-- ITS FALSE NEIGHBOUR: 'it returns false'. Refute it at one input. -/
def ledgerTwiceWrong : ChangeSpec := { name := "ledgerTwice", fn := fun _ => fun
  | [d1, d2, d3] => { results := [.lit (.bool false)], args := [d1, d2, d3] }
  | _ => none }
def LedgerTwiceWrongFalsely : Prop := ledgerTwiceRow.holds Try.pinned (OpenSpec.ofChange ledgerTwiceWrong)

/-- 'triremelaw05.LabelsRight': WHATEVER THE INPUT: true; the input reads as it did. -/
def labelsRightSpec : ChangeSpec := { name := "labelsRight", fn := fun _ => fun
  | [d1, d2] => { results := [.lit (.bool true)], args := [d1, d2] }
  | _ => none }
def labelsRightRow : OpenClaim := { program := "ytdpchfifaidamaa", sum := "6acd522630915b5a443e76380d962c07dbdb6d3d937ceb410d04e3762802c7d2", func := "trireme/triremelaw05.LabelsRight", spec := "labelsRight", unfollowed := true, recurses := true, apart := false }
def LabelsRightSaid : Prop := labelsRightRow.holds Try.pinned (OpenSpec.ofChange labelsRightSpec)

/-- ITS FALSE NEIGHBOUR: 'it returns false'. Refute it at one input. -/
def labelsRightWrong : ChangeSpec := { name := "labelsRight", fn := fun _ => fun
  | [d1, d2] => { results := [.lit (.bool false)], args := [d1, d2] }
  | _ => none }
def LabelsRightWrongFalsely : Prop := labelsRightRow.holds Try.pinned (OpenSpec.ofChange labelsRightWrong)

/- THE SECOND FORM. 'bulk': how many values and letters a reading holds, each counted each time it is reached (what is shared counts as often as it is met; a slice's spare places count too). A statement '..UptoSaid' is the law's where the arguments, and the package variables that the reading takes, are together of bulk at most 1048576: NARROWER than '..Said'. Prove '..Said' where nothing that the law and all that it calls make is longer than what came in: it says more and counts as full. Else prove '..UptoSaid'. A law counts once. -/
mutual
def uptoBulk {H : Type} : DataW H → Nat
  | .lit (.string bytes) => bytes.length + 1
  | .lit _ => 1
  | .nil => 1
  | .ptr d => uptoBulk d + 1
  | .slice elems spare => uptoBulkAll elems + uptoBulkAll spare + 1
  | .agg parts => uptoBulkAll parts + 1
  | .iface _ d => uptoBulk d + 1
  | .map entries => uptoBulkEntries entries + 1
  | .held _ => 1
def uptoBulkAll {H : Type} : List (DataW H) → Nat
  | [] => 0
  | d :: r => uptoBulk d + uptoBulkAll r
def uptoBulkEntries {H : Type} : List (Lit × DataW H) → Nat
  | [] => 0
  | x :: r => uptoBulkEntry x + uptoBulkEntries r
def uptoBulkEntry {H : Type} : Lit × DataW H → Nat
  | (.string bytes, d) => bytes.length + uptoBulk d + 1
  | (_, d) => uptoBulk d + 1
 end
def uptoSmall : (H : Type) → List (DataW H) → Bool := fun _ ds => decide (uptoBulkAll ds ≤ 1048576)
def OpenSpec.upto (s : _root_.Go.ChangeSpec) : _root_.Go.OpenSpec := { _root_.Go.OpenSpec.ofChange s with cond := some uptoSmall }

/-- 'triremelaw27.TimerKeeps', WHERE WHAT IT READS IS OF BULK AT MOST 1048576: true; the input reads as it did. -/
def timerKeepsUptoRow : OpenClaim := { program := "ytdpchfifaidamaa", sum := "6acd522630915b5a443e76380d962c07dbdb6d3d937ceb410d04e3762802c7d2", func := "trireme/triremelaw27.TimerKeeps", spec := "timerKeeps", apart := false, narrowed := true }
def TimerKeepsUptoSaid : Prop := timerKeepsUptoRow.holds Try.pinned (OpenSpec.upto timerKeepsSpec)

/-- 'triremelaw27.TimerMore', WHERE WHAT IT READS IS OF BULK AT MOST 1048576: true; the input reads as it did. -/
def timerMoreUptoRow : OpenClaim := { program := "ytdpchfifaidamaa", sum := "6acd522630915b5a443e76380d962c07dbdb6d3d937ceb410d04e3762802c7d2", func := "trireme/triremelaw27.TimerMore", spec := "timerMore", apart := false, narrowed := true }
def TimerMoreUptoSaid : Prop := timerMoreUptoRow.holds Try.pinned (OpenSpec.upto timerMoreSpec)

/-- 'triremelaw24.BackoffPlays', WHERE WHAT IT READS IS OF BULK AT MOST 1048576: true; the input reads as it did. -/
def backoffPlaysUptoRow : OpenClaim := { program := "ytdpchfifaidamaa", sum := "6acd522630915b5a443e76380d962c07dbdb6d3d937ceb410d04e3762802c7d2", func := "trireme/triremelaw24.BackoffPlays", spec := "backoffPlays", apart := false, narrowed := true }
def BackoffPlaysUptoSaid : Prop := backoffPlaysUptoRow.holds Try.pinned (OpenSpec.upto backoffPlaysSpec)

/-- 'triremelaw27.TimerPlays', WHERE WHAT IT READS IS OF BULK AT MOST 1048576: true; the input reads as it did. -/
def timerPlaysUptoRow : OpenClaim := { program := "ytdpchfifaidamaa", sum := "6acd522630915b5a443e76380d962c07dbdb6d3d937ceb410d04e3762802c7d2", func := "trireme/triremelaw27.TimerPlays", spec := "timerPlays", apart := false, narrowed := true }
def TimerPlaysUptoSaid : Prop := timerPlaysUptoRow.holds Try.pinned (OpenSpec.upto timerPlaysSpec)

/-- 'triremelaw27.TimerNil', WHERE WHAT IT READS IS OF BULK AT MOST 1048576: true; the input reads as it did. -/
def timerNilUptoRow : OpenClaim := { program := "ytdpchfifaidamaa", sum := "6acd522630915b5a443e76380d962c07dbdb6d3d937ceb410d04e3762802c7d2", func := "trireme/triremelaw27.TimerNil", spec := "timerNil", apart := false, narrowed := true }
def TimerNilUptoSaid : Prop := timerNilUptoRow.holds Try.pinned (OpenSpec.upto timerNilSpec)

/-- 'triremelaw16.GroupMachines', WHERE WHAT IT READS IS OF BULK AT MOST 1048576: true; the input reads as it did. -/
def groupMachinesUptoRow : OpenClaim := { program := "ytdpchfifaidamaa", sum := "6acd522630915b5a443e76380d962c07dbdb6d3d937ceb410d04e3762802c7d2", func := "trireme/triremelaw16.GroupMachines", spec := "groupMachines", unfollowed := true, recurses := true, apart := false, narrowed := true }
def GroupMachinesUptoSaid : Prop := groupMachinesUptoRow.holds Try.pinned (OpenSpec.upto groupMachinesSpec)

/-- 'triremelaw35.LedgerTells', WHERE WHAT IT READS IS OF BULK AT MOST 1048576: true; the input reads as it did. -/
def ledgerTellsUptoRow : OpenClaim := { program := "ytdpchfifaidamaa", sum := "6acd522630915b5a443e76380d962c07dbdb6d3d937ceb410d04e3762802c7d2", func := "trireme/triremelaw35.LedgerTells", spec := "ledgerTells", unfollowed := true, recurses := true, apart := false, narrowed := true }
def LedgerTellsUptoSaid : Prop := ledgerTellsUptoRow.holds Try.pinned (OpenSpec.upto ledgerTellsSpec)

/-- 'triremelaw35.LedgerGrows', WHERE WHAT IT READS IS OF BULK AT MOST 1048576: true; the input reads as it did. -/
def ledgerGrowsUptoRow : OpenClaim := { program := "ytdpchfifaidamaa", sum := "6acd522630915b5a443e76380d962c07dbdb6d3d937ceb410d04e3762802c7d2", func := "trireme/triremelaw35.LedgerGrows", spec := "ledgerGrows", unfollowed := true, recurses := true, apart := false, narrowed := true }
def LedgerGrowsUptoSaid : Prop := ledgerGrowsUptoRow.holds Try.pinned (OpenSpec.upto ledgerGrowsSpec)

/-- 'triremelaw35.LedgerNil', WHERE WHAT IT READS IS OF BULK AT MOST 1048576: true; the input reads as it did. -/
def ledgerNilUptoRow : OpenClaim := { program := "ytdpchfifaidamaa", sum := "6acd522630915b5a443e76380d962c07dbdb6d3d937ceb410d04e3762802c7d2", func := "trireme/triremelaw35.LedgerNil", spec := "ledgerNil", unfollowed := true, recurses := true, apart := false, narrowed := true }
def LedgerNilUptoSaid : Prop := ledgerNilUptoRow.holds Try.pinned (OpenSpec.upto ledgerNilSpec)

/-- 'triremelaw35.LedgerTwice', WHERE WHAT IT READS IS OF BULK AT MOST 1048576: true; the input reads as it did. -/
def ledgerTwiceUptoRow : OpenClaim := { program := "ytdpchfifaidamaa", sum := "6acd522630915b5a443e76380d962c07dbdb6d3d937ceb410d04e3762802c7d2", func := "trireme/triremelaw35.LedgerTwice", spec := "ledgerTwice", unfollowed := true, recurses := true, apart := false, narrowed := true }
def LedgerTwiceUptoSaid : Prop := ledgerTwiceUptoRow.holds Try.pinned (OpenSpec.upto ledgerTwiceSpec)

/-- 'triremelaw05.LabelsRight', WHERE WHAT IT READS IS OF BULK AT MOST 1048576: true; the input reads as it did. -/
def labelsRightUptoRow : OpenClaim := { program := "ytdpchfifaidamaa", sum := "6acd522630915b5a443e76380d962c07dbdb6d3d937ceb410d04e3762802c7d2", func := "trireme/triremelaw05.LabelsRight", spec := "labelsRight", unfollowed := true, recurses := true, apart := false, narrowed := true }
def LabelsRightUptoSaid : Prop := labelsRightUptoRow.holds Try.pinned (OpenSpec.upto labelsRightSpec)

end Rows
end Go.Proofs.Ytdpchfifaidamaa
