/-
  No cell of these rows narrows 'for every input' (looked for: loops, veiled, ifaces, maps, wideKeys, modest, calm, conditions, laid).
  DERIVED. THE GIVEN ROWS OF THIS SEAT. 6 by the template 'for every input the law returns true; each argument reads behind the call as it read before'; 0 by the template 'total and deterministic' (their statements: YtkabbahfaeeihaaTotals.lean).
  GIVEN WITH THE SEED: the statements are not yours to turn. If you find one false, say at which input.
  Laid BY PROGRAM, IN A SANDBOX (cutbox-rows.mjs): the forced cells as the released guide's own fill.sh prints them over the translation 2661bddcab711149… (all of the seat's roots in one cut). By AI agents, Wed Nov 11 2026. No macro, syntax, notation, axiom, sorry.
-/
import Derived.Test.YtkabbahfaeeihaaChecked
import GoSem.Claim
import GoSem.ClaimJoined
import GoSem.ClaimMapViews
import Derived.JoinedTies
import Derived.KernelRfl
namespace Go.Proofs.Ytkabbahfaeeihaa
/- THE CELL 'sum', in the pinned program and in every row, IS THE sha256 OF THE DUMP (.gsa) THAT YtkabbahfaeeihaaProg.lean LOADS. Nothing in Lean hashes anything: it is a label: what it is worth is what the hold of that sum in a sandbox is worth. -/
noncomputable def Try.pinned : Pinned := { name := "ytkabbahfaeeihaa", sum := "2661bddcab7111497885c30b4e69aa0c4c35cbb8f66cf2c7bbc36ed57e6144ba", checked := Try.checked }
namespace Rows
def none {H : Type} : Left H := { results := [], args := [] }

/-- 'cordwoodlaw21.SnapsRoom': WHATEVER THE INPUT: true; the input reads as it did. -/
def snapsRoomSpec : ChangeSpec := { name := "snapsRoom", fn := fun _ => fun
  | [d1, d2, d3] => { results := [.lit (.bool true)], args := [d1, d2, d3] }
  | _ => none }
def snapsRoomRow : OpenClaim := { program := "ytkabbahfaeeihaa", sum := "2661bddcab7111497885c30b4e69aa0c4c35cbb8f66cf2c7bbc36ed57e6144ba", func := "cordwood/cordwoodlaw21.SnapsRoom", spec := "snapsRoom", apart := false }
def SnapsRoomSaid : Prop := snapsRoomRow.holds Try.pinned (OpenSpec.ofChange snapsRoomSpec)

/-- ITS FALSE NEIGHBOUR: 'it returns false'. Refute it at one input. -/
def snapsRoomWrong : ChangeSpec := { name := "snapsRoom", fn := fun _ => fun
  | [d1, d2, d3] => { results := [.lit (.bool false)], args := [d1, d2, d3] }
  | _ => none }
def SnapsRoomWrongFalsely : Prop := snapsRoomRow.holds Try.pinned (OpenSpec.ofChange snapsRoomWrong)

/-- 'cordwoodlaw21.SnapsIs': WHATEVER THE INPUT: true; the input reads as it did. -/
def snapsIsSpec : ChangeSpec := { name := "snapsIs", fn := fun _ => fun
  | [d1, d2, d3] => { results := [.lit (.bool true)], args := [d1, d2, d3] }
  | _ => none }
def snapsIsRow : OpenClaim := { program := "ytkabbahfaeeihaa", sum := "2661bddcab7111497885c30b4e69aa0c4c35cbb8f66cf2c7bbc36ed57e6144ba", func := "cordwood/cordwoodlaw21.SnapsIs", spec := "snapsIs", apart := false }
def SnapsIsSaid : Prop := snapsIsRow.holds Try.pinned (OpenSpec.ofChange snapsIsSpec)

/-- ITS FALSE NEIGHBOUR: 'it returns false'. Refute it at one input. -/
def snapsIsWrong : ChangeSpec := { name := "snapsIs", fn := fun _ => fun
  | [d1, d2, d3] => { results := [.lit (.bool false)], args := [d1, d2, d3] }
  | _ => none }
def SnapsIsWrongFalsely : Prop := snapsIsRow.holds Try.pinned (OpenSpec.ofChange snapsIsWrong)

/-- 'cordwoodlaw21.SnapsKeeps': WHATEVER THE INPUT: true; the input reads as it did. -/
def snapsKeepsSpec : ChangeSpec := { name := "snapsKeeps", fn := fun _ => fun
  | [d1, d2, d3, d4] => { results := [.lit (.bool true)], args := [d1, d2, d3, d4] }
  | _ => none }
def snapsKeepsRow : OpenClaim := { program := "ytkabbahfaeeihaa", sum := "2661bddcab7111497885c30b4e69aa0c4c35cbb8f66cf2c7bbc36ed57e6144ba", func := "cordwood/cordwoodlaw21.SnapsKeeps", spec := "snapsKeeps", apart := false }
def SnapsKeepsSaid : Prop := snapsKeepsRow.holds Try.pinned (OpenSpec.ofChange snapsKeepsSpec)

/-- ITS FALSE NEIGHBOUR: 'it returns false'. Refute it at one input. -/
def snapsKeepsWrong : ChangeSpec := { name := "snapsKeeps", fn := fun _ => fun
  | [d1, d2, d3, d4] => { results := [.lit (.bool false)], args := [d1, d2, d3, d4] }
  | _ => none }
def SnapsKeepsWrongFalsely : Prop := snapsKeepsRow.holds Try.pinned (OpenSpec.ofChange snapsKeepsWrong)

/-- 'cordwoodlaw21.SnapsOnce': WHATEVER THE INPUT: true; the input reads as it did. -/
def snapsOnceSpec : ChangeSpec := { name := "snapsOnce", fn := fun _ => fun
  | [d1, d2] => { results := [.lit (.bool true)], args := [d1, d2] }
  | _ => none }
def snapsOnceRow : OpenClaim := { program := "ytkabbahfaeeihaa", sum := "2661bddcab7111497885c30b4e69aa0c4c35cbb8f66cf2c7bbc36ed57e6144ba", func := "cordwood/cordwoodlaw21.SnapsOnce", spec := "snapsOnce", apart := false }
def SnapsOnceSaid : Prop := snapsOnceRow.holds Try.pinned (OpenSpec.ofChange snapsOnceSpec)

/-- ITS FALSE NEIGHBOUR: 'it returns false'. Refute it at one input. -/
def snapsOnceWrong : ChangeSpec := { name := "snapsOnce", fn := fun _ => fun
  | [d1, d2] => { results := [.lit (.bool false)], args := [d1, d2] }
  | _ => none }
def SnapsOnceWrongFalsely : Prop := snapsOnceRow.holds Try.pinned (OpenSpec.ofChange snapsOnceWrong)

/-- 'cordwoodlaw21.SnapsStays': WHATEVER THE INPUT: true; the input reads as it did. -/
def snapsStaysSpec : ChangeSpec := { name := "snapsStays", fn := fun _ => fun
  | [d1, d2] => { results := [.lit (.bool true)], args := [d1, d2] }
  | _ => none }
def snapsStaysRow : OpenClaim := { program := "ytkabbahfaeeihaa", sum := "2661bddcab7111497885c30b4e69aa0c4c35cbb8f66cf2c7bbc36ed57e6144ba", func := "cordwood/cordwoodlaw21.SnapsStays", spec := "snapsStays", apart := false }
def SnapsStaysSaid : Prop := snapsStaysRow.holds Try.pinned (OpenSpec.ofChange snapsStaysSpec)

/-- ITS FALSE NEIGHBOUR: 'it returns false'. Refute it at one input. -/
def snapsStaysWrong : ChangeSpec := { name := "snapsStays", fn := fun _ => fun
  | [d1, d2] => { results := [.lit (.bool false)], args := [d1, d2] }
  | _ => none }
def SnapsStaysWrongFalsely : Prop := snapsStaysRow.holds Try.pinned (OpenSpec.ofChange snapsStaysWrong)

/-- 'cordwoodlaw21.SnapsOldest': WHATEVER THE INPUT: true; the input reads as it did. -/
def snapsOldestSpec : ChangeSpec := { name := "snapsOldest", fn := fun _ => fun
  | [d1, d2] => { results := [.lit (.bool true)], args := [d1, d2] }
  | _ => none }
def snapsOldestRow : OpenClaim := { program := "ytkabbahfaeeihaa", sum := "2661bddcab7111497885c30b4e69aa0c4c35cbb8f66cf2c7bbc36ed57e6144ba", func := "cordwood/cordwoodlaw21.SnapsOldest", spec := "snapsOldest", apart := false }
def SnapsOldestSaid : Prop := snapsOldestRow.holds Try.pinned (OpenSpec.ofChange snapsOldestSpec)

/-- ITS FALSE NEIGHBOUR: 'it returns false'. Refute it at one input. -/
def snapsOldestWrong : ChangeSpec := { name := "snapsOldest", fn := fun _ => fun
  | [d1, d2] => { results := [.lit (.bool false)], args := [d1, d2] }
  | _ => none }
def SnapsOldestWrongFalsely : Prop := snapsOldestRow.holds Try.pinned (OpenSpec.ofChange snapsOldestWrong)

/- THE SECOND FORM. 'bulk': how many values and letters a reading holds, each counted each time it is reached (what is shared counts as often as it is met; a slice's spare places count too). A statement '..UptoSaid' is the law's where the arguments, and the package variables that the reading takes, are together of bulk at most 1048576: NARROWER than '..Said'. Prove '..Said' where nothing that the law and all that it calls make is longer than what came in: it says more and counts as full. Else prove '..UptoSaid'. A law counts once. -/
mutual
def uptoBulk {H : Type} : DataW H → Nat
  | .lit (.string bytes) => bytes.length + 1
  | .lit _ => 1
  | .nil => 1
  | .ptr d => uptoBulk d + 1
  | .slice elems spare => uptoBulkAll elems + uptoBulkAll spare + 1
  | .agg parts => uptoBulkAll parts + 1
  | .iface _ d => uptoBulk d + 1
  | .map entries => uptoBulkEntries entries + 1
  | .held _ => 1
def uptoBulkAll {H : Type} : List (DataW H) → Nat
  | [] => 0
  | d :: r => uptoBulk d + uptoBulkAll r
def uptoBulkEntries {H : Type} : List (Lit × DataW H) → Nat
  | [] => 0
  | x :: r => uptoBulkEntry x + uptoBulkEntries r
def uptoBulkEntry {H : Type} : Lit × DataW H → Nat
  | (.string bytes, d) => bytes.length + uptoBulk d + 1
  | (_, d) => uptoBulk d + 1
 end
def uptoSmall : (H : Type) → List (DataW H) → Bool := fun _ ds => decide (uptoBulkAll ds ≤ 1048576)
def OpenSpec.upto (s : _root_.Go.ChangeSpec) : _root_.Go.OpenSpec := { _root_.Go.OpenSpec.ofChange s with cond := some uptoSmall }

/-- 'cordwoodlaw21.SnapsRoom', WHERE WHAT IT READS IS OF BULK AT MOST 1048576: true; the input reads as it did. -/
def snapsRoomUptoRow : OpenClaim := { program := "ytkabbahfaeeihaa", sum := "2661bddcab7111497885c30b4e69aa0c4c35cbb8f66cf2c7bbc36ed57e6144ba", func := "cordwood/cordwoodlaw21.SnapsRoom", spec := "snapsRoom", apart := false, narrowed := true }
def SnapsRoomUptoSaid : Prop := snapsRoomUptoRow.holds Try.pinned (OpenSpec.upto snapsRoomSpec)

/-- 'cordwoodlaw21.SnapsIs', WHERE WHAT IT READS IS OF BULK AT MOST 1048576: true; the input reads as it did. -/
def snapsIsUptoRow : OpenClaim := { program := "ytkabbahfaeeihaa", sum := "2661bddcab7111497885c30b4e69aa0c4c35cbb8f66cf2c7bbc36ed57e6144ba", func := "cordwood/cordwoodlaw21.SnapsIs", spec := "snapsIs", apart := false, narrowed := true }
def SnapsIsUptoSaid : Prop := snapsIsUptoRow.holds Try.pinned (OpenSpec.upto snapsIsSpec)

/-- 'cordwoodlaw21.SnapsKeeps', WHERE WHAT IT READS IS OF BULK AT MOST 1048576: true; the input reads as it did. -/
def snapsKeepsUptoRow : OpenClaim := { program := "ytkabbahfaeeihaa", sum := "2661bddcab7111497885c30b4e69aa0c4c35cbb8f66cf2c7bbc36ed57e6144ba", func := "cordwood/cordwoodlaw21.SnapsKeeps", spec := "snapsKeeps", apart := false, narrowed := true }
def SnapsKeepsUptoSaid : Prop := snapsKeepsUptoRow.holds Try.pinned (OpenSpec.upto snapsKeepsSpec)

/-- 'cordwoodlaw21.SnapsOnce', WHERE WHAT IT READS IS OF BULK AT MOST 1048576: true; the input reads as it did. -/
def snapsOnceUptoRow : OpenClaim := { program := "ytkabbahfaeeihaa", sum := "2661bddcab7111497885c30b4e69aa0c4c35cbb8f66cf2c7bbc36ed57e6144ba", func := "cordwood/cordwoodlaw21.SnapsOnce", spec := "snapsOnce", apart := false, narrowed := true }
def SnapsOnceUptoSaid : Prop := snapsOnceUptoRow.holds Try.pinned (OpenSpec.upto snapsOnceSpec)

/-- 'cordwoodlaw21.SnapsStays', WHERE WHAT IT READS IS OF BULK AT MOST 1048576: true; the input reads as it did. -/
def snapsStaysUptoRow : OpenClaim := { program := "ytkabbahfaeeihaa", sum := "2661bddcab7111497885c30b4e69aa0c4c35cbb8f66cf2c7bbc36ed57e6144ba", func := "cordwood/cordwoodlaw21.SnapsStays", spec := "snapsStays", apart := false, narrowed := true }
def SnapsStaysUptoSaid : Prop := snapsStaysUptoRow.holds Try.pinned (OpenSpec.upto snapsStaysSpec)

/-- 'cordwoodlaw21.SnapsOldest', WHERE WHAT IT READS IS OF BULK AT MOST 1048576: true; the input reads as it did. -/
def snapsOldestUptoRow : OpenClaim := { program := "ytkabbahfaeeihaa", sum := "2661bddcab7111497885c30b4e69aa0c4c35cbb8f66cf2c7bbc36ed57e6144ba", func := "cordwood/cordwoodlaw21.SnapsOldest", spec := "snapsOldest", apart := false, narrowed := true }
def SnapsOldestUptoSaid : Prop := snapsOldestUptoRow.holds Try.pinned (OpenSpec.upto snapsOldestSpec)

end Rows
end Go.Proofs.Ytkabbahfaeeihaa
