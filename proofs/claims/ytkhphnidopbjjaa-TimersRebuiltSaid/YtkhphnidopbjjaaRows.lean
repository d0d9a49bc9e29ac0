/-
  NARROWER THAN 'FOR EVERY INPUT', by the rows' own cells (each row's printed sentence says how): TimersPlays: loops · TimersLater: loops · TimersFire: loops · TimersRebuilt: loops.
  DERIVED. THE GIVEN ROWS OF THIS SEAT. 9 by the template 'for every input the law returns true; each argument reads behind the call as it read before'; 0 by the template 'total and deterministic' (their statements: YtkhphnidopbjjaaTotals.lean).
  GIVEN WITH THE SEED: the statements are not yours to turn. If you find one false, say at which input.
  Laid BY PROGRAM, IN A SANDBOX (cutbox-rows.mjs): the forced cells as the released guide's own fill.sh prints them over the translation c585684851dc9d9a… (all of the seat's roots in one cut). By AI agents, Wed Nov 11 2026. No macro, syntax, notation, axiom, sorry.
-/
import Derived.Test.YtkhphnidopbjjaaChecked
import GoSem.Claim
import GoSem.ClaimJoined
import GoSem.ClaimMapViews
import Derived.JoinedTies
import Derived.KernelRfl
namespace Go.Proofs.Ytkhphnidopbjjaa
/- THE CELL 'sum', in the pinned program and in every row, IS THE sha256 OF THE DUMP (.gsa) THAT YtkhphnidopbjjaaProg.lean LOADS. Nothing in Lean hashes anything: it is a label: what it is worth is what the hold of that sum in a sandbox is worth. -/
noncomputable def Try.pinned : Pinned := { name := "ytkhphnidopbjjaa", sum := "c585684851dc9d9a3178c27e86ef1dd34289bb5a7d78ac0a7f54953b5d6e9805", checked := Try.checked }
namespace Rows
def none {H : Type} : Left H := { results := [], args := [] }

/-- 'foliotlaw16.HeapSorts': WHATEVER THE INPUT: true; the input reads as it did. -/
def heapSortsSpec : ChangeSpec := { name := "heapSorts", fn := fun _ => fun
  | [d] => { results := [.lit (.bool true)], args := [d] }
  | _ => none }
def heapSortsRow : OpenClaim := { program := "ytkhphnidopbjjaa", sum := "c585684851dc9d9a3178c27e86ef1dd34289bb5a7d78ac0a7f54953b5d6e9805", func := "foliot/foliotlaw16.HeapSorts", spec := "heapSorts", unfollowed := true, recurses := true, plainKeys := false, apart := false }
def HeapSortsSaid : Prop := heapSortsRow.holds Try.pinned (OpenSpec.ofChange heapSortsSpec)

/-- ITS FALSE NEIGHBOUR: 'it returns false'. Refute it at one input. -/
def heapSortsWrong : ChangeSpec := { name := "heapSorts", fn := fun _ => fun
  | [d] => { results := [.lit (.bool false)], args := [d] }
  | _ => none }
def HeapSortsWrongFalsely : Prop := heapSortsRow.holds Try.pinned (OpenSpec.ofChange heapSortsWrong)

/-- 'foliotlaw16.HeapFull': WHATEVER THE INPUT: true; the input reads as it did. -/
def heapFullSpec : ChangeSpec := { name := "heapFull", fn := fun _ => fun
  | [d] => { results := [.lit (.bool true)], args := [d] }
  | _ => none }
def heapFullRow : OpenClaim := { program := "ytkhphnidopbjjaa", sum := "c585684851dc9d9a3178c27e86ef1dd34289bb5a7d78ac0a7f54953b5d6e9805", func := "foliot/foliotlaw16.HeapFull", spec := "heapFull", unfollowed := true, recurses := true, plainKeys := false, apart := false }
def HeapFullSaid : Prop := heapFullRow.holds Try.pinned (OpenSpec.ofChange heapFullSpec)

/-- ITS FALSE NEIGHBOUR: 'it returns false'. Refute it at one input. -/
def heapFullWrong : ChangeSpec := { name := "heapFull", fn := fun _ => fun
  | [d] => { results := [.lit (.bool false)], args := [d] }
  | _ => none }
def HeapFullWrongFalsely : Prop := heapFullRow.holds Try.pinned (OpenSpec.ofChange heapFullWrong)

/-- 'foliotlaw16.HeapCancels': WHATEVER THE INPUT: true; the input reads as it did. -/
def heapCancelsSpec : ChangeSpec := { name := "heapCancels", fn := fun _ => fun
  | [d1, d2] => { results := [.lit (.bool true)], args := [d1, d2] }
  | _ => none }
def heapCancelsRow : OpenClaim := { program := "ytkhphnidopbjjaa", sum := "c585684851dc9d9a3178c27e86ef1dd34289bb5a7d78ac0a7f54953b5d6e9805", func := "foliot/foliotlaw16.HeapCancels", spec := "heapCancels", unfollowed := true, recurses := true, plainKeys := false, apart := false }
def HeapCancelsSaid : Prop := heapCancelsRow.holds Try.pinned (OpenSpec.ofChange heapCancelsSpec)

/-- ITS FALSE NEIGHBOUR: 'it returns false'. Refute it at one input. -/
def heapCancelsWrong : ChangeSpec := { name := "heapCancels", fn := fun _ => fun
  | [d1, d2] => { results := [.lit (.bool false)], args := [d1, d2] }
  | _ => none }
def HeapCancelsWrongFalsely : Prop := heapCancelsRow.holds Try.pinned (OpenSpec.ofChange heapCancelsWrong)

/-- 'foliotlaw16.HeapApart': WHATEVER THE INPUT: true; the input reads as it did. -/
def heapApartSpec : ChangeSpec := { name := "heapApart", fn := fun _ => fun
  | [d1, d2] => { results := [.lit (.bool true)], args := [d1, d2] }
  | _ => none }
def heapApartRow : OpenClaim := { program := "ytkhphnidopbjjaa", sum := "c585684851dc9d9a3178c27e86ef1dd34289bb5a7d78ac0a7f54953b5d6e9805", func := "foliot/foliotlaw16.HeapApart", spec := "heapApart", unfollowed := true, recurses := true, plainKeys := false, apart := false }
def HeapApartSaid : Prop := heapApartRow.holds Try.pinned (OpenSpec.ofChange heapApartSpec)

/-- ITS FALSE NEIGHBOUR: 'it returns false'. Refute it at one input. -/
def heapApartWrong : ChangeSpec := { name := "heapApart", fn := fun _ => fun
  | [d1, d2] => { results := [.lit (.bool false)], args := [d1, d2] }
  | _ => none }
def HeapApartWrongFalsely : Prop := heapApartRow.holds Try.pinned (OpenSpec.ofChange heapApartWrong)

/-- 'foliotlaw16.HeapPlays': WHATEVER THE INPUT: true; the input reads as it did. -/
def heapPlaysSpec : ChangeSpec := { name := "heapPlays", fn := fun _ => fun
  | [d] => { results := [.lit (.bool true)], args := [d] }
  | _ => none }
def heapPlaysRow : OpenClaim := { program := "ytkhphnidopbjjaa", sum := "c585684851dc9d9a3178c27e86ef1dd34289bb5a7d78ac0a7f54953b5d6e9805", func := "foliot/foliotlaw16.HeapPlays", spec := "heapPlays", unfollowed := true, recurses := true, plainKeys := false, apart := false }
def HeapPlaysSaid : Prop := heapPlaysRow.holds Try.pinned (OpenSpec.ofChange heapPlaysSpec)

/-- ITS FALSE NEIGHBOUR: 'it returns false'. Refute it at one input. -/
def heapPlaysWrong : ChangeSpec := { name := "heapPlays", fn := fun _ => fun
  | [d] => { results := [.lit (.bool false)], args := [d] }
  | _ => none }
def HeapPlaysWrongFalsely : Prop := heapPlaysRow.holds Try.pinned (OpenSpec.ofChange heapPlaysWrong)

/-- 'foliotlaw17.TimersPlays': WHATEVER THE INPUT: true; the input reads as it did. -/
def timersPlaysSpec : ChangeSpec := { name := "timersPlays", fn := fun _ => fun
  | [d1, d2] => { results := [.lit (.bool true)], args := [d1, d2] }
  | _ => none }
def timersPlaysRow : OpenClaim := { program := "ytkhphnidopbjjaa", sum := "c585684851dc9d9a3178c27e86ef1dd34289bb5a7d78ac0a7f54953b5d6e9805", func := "foliot/foliotlaw17.TimersPlays", spec := "timersPlays", unfollowed := true, recurses := true, loops := true, plainKeys := false, apart := false }
def TimersPlaysSaid : Prop := timersPlaysRow.holds Try.pinned (OpenSpec.ofChange timersPlaysSpec)

/-- ITS FALSE NEIGHBOUR: 'it returns false'. Refute it at one input. -/
def timersPlaysWrong : ChangeSpec := { name := "timersPlays", fn := fun _ => fun
  | [d1, d2] => { results := [.lit (.bool false)], args := [d1, d2] }
  | _ => none }
def TimersPlaysWrongFalsely : Prop := timersPlaysRow.holds Try.pinned (OpenSpec.ofChange timersPlaysWrong)

/-- 'foliotlaw17.TimersLater': WHATEVER THE INPUT: true; the input reads as it did. -/
def timersLaterSpec : ChangeSpec := { name := "timersLater", fn := fun _ => fun
  | [d1, d2, d3] => { results := [.lit (.bool true)], args := [d1, d2, d3] }
  | _ => none }
def timersLaterRow : OpenClaim := { program := "ytkhphnidopbjjaa", sum := "c585684851dc9d9a3178c27e86ef1dd34289bb5a7d78ac0a7f54953b5d6e9805", func := "foliot/foliotlaw17.TimersLater", spec := "timersLater", unfollowed := true, recurses := true, loops := true, plainKeys := false, apart := false }
def TimersLaterSaid : Prop := timersLaterRow.holds Try.pinned (OpenSpec.ofChange timersLaterSpec)

/-- ITS FALSE NEIGHBOUR: 'it returns false'. Refute it at one input. -/
def timersLaterWrong : ChangeSpec := { name := "timersLater", fn := fun _ => fun
  | [d1, d2, d3] => { results := [.lit (.bool false)], args := [d1, d2, d3] }
  | _ => none }
def TimersLaterWrongFalsely : Prop := timersLaterRow.holds Try.pinned (OpenSpec.ofChange timersLaterWrong)

/-- 'foliotlaw17.TimersFire': WHATEVER THE INPUT: true; the input reads as it did. -/
def timersFireSpec : ChangeSpec := { name := "timersFire", fn := fun _ => fun
  | [d1, d2] => { results := [.lit (.bool true)], args := [d1, d2] }
  | _ => none }
def timersFireRow : OpenClaim := { program := "ytkhphnidopbjjaa", sum := "c585684851dc9d9a3178c27e86ef1dd34289bb5a7d78ac0a7f54953b5d6e9805", func := "foliot/foliotlaw17.TimersFire", spec := "timersFire", unfollowed := true, recurses := true, loops := true, plainKeys := false, apart := false }
def TimersFireSaid : Prop := timersFireRow.holds Try.pinned (OpenSpec.ofChange timersFireSpec)

/-- ITS FALSE NEIGHBOUR: 'it returns false'. Refute it at one input. -/
def timersFireWrong : ChangeSpec := { name := "timersFire", fn := fun _ => fun
  | [d1, d2] => { results := [.lit (.bool false)], args := [d1, d2] }
  | _ => none }
def TimersFireWrongFalsely : Prop := timersFireRow.holds Try.pinned (OpenSpec.ofChange timersFireWrong)

/-- 'foliotlaw17.TimersRebuilt': WHATEVER THE INPUT: true; the input reads as it did. -/
def timersRebuiltSpec : ChangeSpec := { name := "timersRebuilt", fn := fun _ => fun
  | [d1, d2] => { results := [.lit (.bool true)], args := [d1, d2] }
  | _ => none }
def timersRebuiltRow : OpenClaim := { program := "ytkhphnidopbjjaa", sum := "c585684851dc9d9a3178c27e86ef1dd34289bb5a7d78ac0a7f54953b5d6e9805", func := "foliot/foliotlaw17.TimersRebuilt", spec := "timersRebuilt", unfollowed := true, recurses := true, loops := true, plainKeys := false, apart := false }
def TimersRebuiltSaid : Prop := timersRebuiltRow.holds Try.pinned (OpenSpec.ofChange timersRebuiltSpec)

/-- ITS FALSE NEIGHBOUR: 'it returns false'. Refute it at one input. -/
def timersRebuiltWrong : ChangeSpec := { name := "timersRebuilt", fn := fun _ => fun
  | [d1, d2] => { results := [.lit (.bool false)], args := [d1, d2] }
  | _ => none }
def TimersRebuiltWrongFalsely : Prop := timersRebuiltRow.holds Try.pinned (OpenSpec.ofChange timersRebuiltWrong)

/- THE SECOND FORM. 'bulk': how many values and letters a reading holds, each counted each time it is reached (what is shared counts as often as it is met; a slice's spare places count too). A statement '..UptoSaid' is the law's where the arguments, and the package variables that the reading takes, are together of bulk at most 1048576: NARROWER than '..Said'. Prove '..Said' where nothing that the law and all that it calls make is longer than what came in: it says more and counts as full. Else prove '..UptoSaid'. A law counts once. -/
mutual
def uptoBulk {H : Type} : DataW H → Nat
  | .lit (.string bytes) => bytes.length + 1
  | .lit _ => 1
  | .nil => 1
  | .ptr d => uptoBulk d + 1
  | .slice elems spare => uptoBulkAll elems + uptoBulkAll spare + 1
  | .agg parts => uptoBulkAll parts + 1
  | .iface _ d => uptoBulk d + 1
  | .map entries => uptoBulkEntries entries + 1
  | .held _ => 1
def uptoBulkAll {H : Type} : List (DataW H) → Nat
  | [] => 0
  | d :: r => uptoBulk d + uptoBulkAll r
def uptoBulkEntries {H : Type} : List (Lit × DataW H) → Nat
  | [] => 0
  | x :: r => uptoBulkEntry x + uptoBulkEntries r
def uptoBulkEntry {H : Type} : Lit × DataW H → Nat
  | (.string bytes, d) => bytes.length + uptoBulk d + 1
  | (_, d) => uptoBulk d + 1
 end
def uptoSmall : (H : Type) → List (DataW H) → Bool := fun _ ds => decide (uptoBulkAll ds ≤ 1048576)
def OpenSpec.upto (s : _root_.Go.ChangeSpec) : _root_.Go.OpenSpec := { _root_.Go.OpenSpec.ofChange s with cond := some uptoSmall }

/-- 'foliotlaw16.HeapSorts', WHERE WHAT IT READS IS OF BULK AT MOST 1048576: true; the input reads as it did. -/
def heapSortsUptoRow : OpenClaim := { program := "ytkhphnidopbjjaa", sum := "c585684851dc9d9a3178c27e86ef1dd34289bb5a7d78ac0a7f54953b5d6e9805", func := "foliot/foliotlaw16.HeapSorts", spec := "heapSorts", unfollowed := true, recurses := true, plainKeys := false, apart := false, narrowed := true }
def HeapSortsUptoSaid : Prop := heapSortsUptoRow.holds Try.pinned (OpenSpec.upto heapSortsSpec)

/-- 'foliotlaw16.HeapFull', WHERE WHAT IT READS IS OF BULK AT MOST 1048576: true; the input reads as it did. -/
def heapFullUptoRow : OpenClaim := { program := "ytkhphnidopbjjaa", sum := "c585684851dc9d9a3178c27e86ef1dd34289bb5a7d78ac0a7f54953b5d6e9805", func := "foliot/foliotlaw16.HeapFull", spec := "heapFull", unfollowed := true, recurses := true, plainKeys := false, apart := false, narrowed := true }
def HeapFullUptoSaid : Prop := heapFullUptoRow.holds Try.pinned (OpenSpec.upto heapFullSpec)

/-- 'foliotlaw16.HeapCancels', WHERE WHAT IT READS IS OF BULK AT MOST 1048576: true; the input reads as it did. -/
def heapCancelsUptoRow : OpenClaim := { program := "ytkhphnidopbjjaa", sum := "c585684851dc9d9a3178c27e86ef1dd34289bb5a7d78ac0a7f54953b5d6e9805", func := "foliot/foliotlaw16.HeapCancels", spec := "heapCancels", unfollowed := true, recurses := true, plainKeys := false, apart := false, narrowed := true }
def HeapCancelsUptoSaid : Prop := heapCancelsUptoRow.holds Try.pinned (OpenSpec.upto heapCancelsSpec)

/-- 'foliotlaw16.HeapApart', WHERE WHAT IT READS IS OF BULK AT MOST 1048576: true; the input reads as it did. -/
def heapApartUptoRow : OpenClaim := { program := "ytkhphnidopbjjaa", sum := "c585684851dc9d9a3178c27e86ef1dd34289bb5a7d78ac0a7f54953b5d6e9805", func := "foliot/foliotlaw16.HeapApart", spec := "heapApart", unfollowed := true, recurses := true, plainKeys := false, apart := false, narrowed := true }
def HeapApartUptoSaid : Prop := heapApartUptoRow.holds Try.pinned (OpenSpec.upto heapApartSpec)

/-- 'foliotlaw16.HeapPlays', WHERE WHAT IT READS IS OF BULK AT MOST 1048576: true; the input reads as it did. -/
def heapPlaysUptoRow : OpenClaim := { program := "ytkhphnidopbjjaa", sum := "c585684851dc9d9a3178c27e86ef1dd34289bb5a7d78ac0a7f54953b5d6e9805", func := "foliot/foliotlaw16.HeapPlays", spec := "heapPlays", unfollowed := true, recurses := true, plainKeys := false, apart := false, narrowed := true }
def HeapPlaysUptoSaid : Prop := heapPlaysUptoRow.holds Try.pinned (OpenSpec.upto heapPlaysSpec)

/-- 'foliotlaw17.TimersPlays', WHERE WHAT IT READS IS OF BULK AT MOST 1048576: true; the input reads as it did. -/
def timersPlaysUptoRow : OpenClaim := { program := "ytkhphnidopbjjaa", sum := "c585684851dc9d9a3178c27e86ef1dd34289bb5a7d78ac0a7f54953b5d6e9805", func := "foliot/foliotlaw17.TimersPlays", spec := "timersPlays", unfollowed := true, recurses := true, loops := true, plainKeys := false, apart := false, narrowed := true }
def TimersPlaysUptoSaid : Prop := timersPlaysUptoRow.holds Try.pinned (OpenSpec.upto timersPlaysSpec)

/-- 'foliotlaw17.TimersLater', WHERE WHAT IT READS IS OF BULK AT MOST 1048576: true; the input reads as it did. -/
def timersLaterUptoRow : OpenClaim := { program := "ytkhphnidopbjjaa", sum := "c585684851dc9d9a3178c27e86ef1dd34289bb5a7d78ac0a7f54953b5d6e9805", func := "foliot/foliotlaw17.TimersLater", spec := "timersLater", unfollowed := true, recurses := true, loops := true, plainKeys := false, apart := false, narrowed := true }
def TimersLaterUptoSaid : Prop := timersLaterUptoRow.holds Try.pinned (OpenSpec.upto timersLaterSpec)

/-- 'foliotlaw17.TimersFire', WHERE WHAT IT READS IS OF BULK AT MOST 1048576: true; the input reads as it did. -/
def timersFireUptoRow : OpenClaim := { program := "ytkhphnidopbjjaa", sum := "c585684851dc9d9a3178c27e86ef1dd34289bb5a7d78ac0a7f54953b5d6e9805", func := "foliot/foliotlaw17.TimersFire", spec := "timersFire", unfollowed := true, recurses := true, loops := true, plainKeys := false, apart := false, narrowed := true }
def TimersFireUptoSaid : Prop := timersFireUptoRow.holds Try.pinned (OpenSpec.upto timersFireSpec)

/-- 'foliotlaw17.TimersRebuilt', WHERE WHAT IT READS IS OF BULK AT MOST 1048576: true; the input reads as it did. -/
def timersRebuiltUptoRow : OpenClaim := { program := "ytkhphnidopbjjaa", sum := "c585684851dc9d9a3178c27e86ef1dd34289bb5a7d78ac0a7f54953b5d6e9805", func := "foliot/foliotlaw17.TimersRebuilt", spec := "timersRebuilt", unfollowed := true, recurses := true, loops := true, plainKeys := false, apart := false, narrowed := true }
def TimersRebuiltUptoSaid : Prop := timersRebuiltUptoRow.holds Try.pinned (OpenSpec.upto timersRebuiltSpec)

end Rows
end Go.Proofs.Ytkhphnidopbjjaa
