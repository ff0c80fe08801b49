/-
  No cell of these rows narrows 'for every input' (looked for: loops, veiled, ifaces, maps, wideKeys, modest, calm, conditions, laid).
  DERIVED. THE GIVEN ROWS OF THIS SEAT. 3 by the template 'for every input the law returns true; each argument reads behind the call as it read before'; 0 by the template 'total and deterministic' (their statements: YtcdebohjjkffkaaGreatTotals.lean).
  GIVEN WITH THE SEED: the statements are not yours to turn. If you find one false, say at which input.
  Laid BY PROGRAM, IN A SANDBOX (cutbox-rows.mjs): the forced cells as the released guide's own fill.sh prints them over the translation 4b95da2e7e5a7644… (all of the seat's roots in one cut). By AI agents, Wed Nov 11 2026. No macro, syntax, notation, axiom, sorry.
-/
import Derived.Test.YtcdebohjjkffkaaGreatChecked
import GoSem.Claim
import GoSem.ClaimJoined
import GoSem.ClaimMapViews
import Derived.JoinedTies
import Derived.KernelRfl
namespace Go.Proofs.YtcdebohjjkffkaaGreat
/- THE CELL 'sum', in the pinned program and in every row, IS THE sha256 OF THE DUMP (.gsa) THAT YtcdebohjjkffkaaGreatProg.lean LOADS. Nothing in Lean hashes anything: it is a label: what it is worth is what the hold of that sum in a sandbox is worth. -/
noncomputable def Tryz.pinned : Pinned := { name := "ytcdebohjjkffkaagreat", sum := "4b95da2e7e5a7644eef8b1bfe6ca3f507e69bcb0c55445d35d6b8b22ef3acac6", checked := Tryz.checked }
namespace Rows
def none {H : Type} : Left H := { results := [], args := [] }

/-- 'memoirlaw15.BaseNil': WHATEVER THE INPUT: true; the input reads as it did. -/
def baseNilSpec : ChangeSpec := { name := "baseNil", fn := fun _ => fun
  | [d1, d2] => { results := [.lit (.bool true)], args := [d1, d2] }
  | _ => none }
def baseNilRow : OpenClaim := { program := "ytcdebohjjkffkaagreat", sum := "4b95da2e7e5a7644eef8b1bfe6ca3f507e69bcb0c55445d35d6b8b22ef3acac6", func := "memoir/memoirlaw15.BaseNil", spec := "baseNil", inPlace := ["math.Float64frombits", "math.Float64bits"], unfollowed := true, recurses := true, plainKeys := false, apart := false }
def BaseNilSaid : Prop := baseNilRow.holds Tryz.pinned (OpenSpec.ofChange baseNilSpec)

/-- ITS FALSE NEIGHBOUR: 'it returns false'. Refute it at one input. -/
def baseNilWrong : ChangeSpec := { name := "baseNil", fn := fun _ => fun
  | [d1, d2] => { results := [.lit (.bool false)], args := [d1, d2] }
  | _ => none }
def BaseNilWrongFalsely : Prop := baseNilRow.holds Tryz.pinned (OpenSpec.ofChange baseNilWrong)

/-- 'memoirlaw20.SinkNil': WHATEVER THE INPUT: true; the input reads as it did. -/
def sinkNilSpec : ChangeSpec := { name := "sinkNil", fn := fun _ => fun
  | [d] => { results := [.lit (.bool true)], args := [d] }
  | _ => none }
def sinkNilRow : OpenClaim := { program := "ytcdebohjjkffkaagreat", sum := "4b95da2e7e5a7644eef8b1bfe6ca3f507e69bcb0c55445d35d6b8b22ef3acac6", func := "memoir/memoirlaw20.SinkNil", spec := "sinkNil", inPlace := ["math.Float64frombits", "math.Float64bits"], unfollowed := true, recurses := true, plainKeys := false, apart := false }
def SinkNilSaid : Prop := sinkNilRow.holds Tryz.pinned (OpenSpec.ofChange sinkNilSpec)

/-- ITS FALSE NEIGHBOUR: 'it returns false'. Refute it at one input. -/
def sinkNilWrong : ChangeSpec := { name := "sinkNil", fn := fun _ => fun
  | [d] => { results := [.lit (.bool false)], args := [d] }
  | _ => none }
def SinkNilWrongFalsely : Prop := sinkNilRow.holds Tryz.pinned (OpenSpec.ofChange sinkNilWrong)

/-- 'memoirlaw22.ReplicaNil': WHATEVER THE INPUT: true; the input reads as it did. -/
def replicaNilSpec : ChangeSpec := { name := "replicaNil", fn := fun _ => fun
  | [d1, d2] => { results := [.lit (.bool true)], args := [d1, d2] }
  | _ => none }
def replicaNilRow : OpenClaim := { program := "ytcdebohjjkffkaagreat", sum := "4b95da2e7e5a7644eef8b1bfe6ca3f507e69bcb0c55445d35d6b8b22ef3acac6", func := "memoir/memoirlaw22.ReplicaNil", spec := "replicaNil", inPlace := ["math.Float64frombits", "math.Float64bits"], unfollowed := true, recurses := true, plainKeys := false, apart := false }
def ReplicaNilSaid : Prop := replicaNilRow.holds Tryz.pinned (OpenSpec.ofChange replicaNilSpec)

/-- ITS FALSE NEIGHBOUR: 'it returns false'. Refute it at one input. -/
def replicaNilWrong : ChangeSpec := { name := "replicaNil", fn := fun _ => fun
  | [d1, d2] => { results := [.lit (.bool false)], args := [d1, d2] }
  | _ => none }
def ReplicaNilWrongFalsely : Prop := replicaNilRow.holds Tryz.pinned (OpenSpec.ofChange replicaNilWrong)

/- THE SECOND FORM. 'bulk': how many values and letters a reading holds, each counted each time it is reached (what is shared counts as often as it is met; a slice's spare places count too). A statement '..UptoSaid' is the law's where the arguments, and the package variables that the reading takes, are together of bulk at most 1048576: NARROWER than '..Said'. Prove '..Said' where nothing that the law and all that it calls make is longer than what came in: it says more and counts as full. Else prove '..UptoSaid'. A law counts once. -/
mutual
def uptoBulk {H : Type} : DataW H → Nat
  | .lit (.string bytes) => bytes.length + 1
  | .lit _ => 1
  | .nil => 1
  | .ptr d => uptoBulk d + 1
  | .slice elems spare => uptoBulkAll elems + uptoBulkAll spare + 1
  | .agg parts => uptoBulkAll parts + 1
  | .iface _ d => uptoBulk d + 1
  | .map entries => uptoBulkEntries entries + 1
  | .held _ => 1
def uptoBulkAll {H : Type} : List (DataW H) → Nat
  | [] => 0
  | d :: r => uptoBulk d + uptoBulkAll r
def uptoBulkEntries {H : Type} : List (Lit × DataW H) → Nat
  | [] => 0
  | x :: r => uptoBulkEntry x + uptoBulkEntries r
def uptoBulkEntry {H : Type} : Lit × DataW H → Nat
  | (.string bytes, d) => bytes.length + uptoBulk d + 1
  | (_, d) => uptoBulk d + 1
 end
def uptoSmall : (H : Type) → List (DataW H) → Bool := fun _ ds => decide (uptoBulkAll ds ≤ 1048576)
def OpenSpec.upto (s : _root_.Go.ChangeSpec) : _root_.Go.OpenSpec := { _root_.Go.OpenSpec.ofChange s with cond := some uptoSmall }

/-- 'memoirlaw15.BaseNil', WHERE WHAT IT READS IS OF BULK AT MOST 1048576: true; the input reads as it did. -/
def baseNilUptoRow : OpenClaim := { program := "ytcdebohjjkffkaagreat", sum := "4b95da2e7e5a7644eef8b1bfe6ca3f507e69bcb0c55445d35d6b8b22ef3acac6", func := "memoir/memoirlaw15.BaseNil", spec := "baseNil", inPlace := ["math.Float64frombits", "math.Float64bits"], unfollowed := true, recurses := true, plainKeys := false, apart := false, narrowed := true }
def BaseNilUptoSaid : Prop := baseNilUptoRow.holds Tryz.pinned (OpenSpec.upto baseNilSpec)

/-- 'memoirlaw20.SinkNil', WHERE WHAT IT READS IS OF BULK AT MOST 1048576: true; the input reads as it did. -/
def sinkNilUptoRow : OpenClaim := { program := "ytcdebohjjkffkaagreat", sum := "4b95da2e7e5a7644eef8b1bfe6ca3f507e69bcb0c55445d35d6b8b22ef3acac6", func := "memoir/memoirlaw20.SinkNil", spec := "sinkNil", inPlace := ["math.Float64frombits", "math.Float64bits"], unfollowed := true, recurses := true, plainKeys := false, apart := false, narrowed := true }
def SinkNilUptoSaid : Prop := sinkNilUptoRow.holds Tryz.pinned (OpenSpec.upto sinkNilSpec)

/-- 'memoirlaw22.ReplicaNil', WHERE WHAT IT READS IS OF BULK AT MOST 1048576: true; the input reads as it did. -/
def replicaNilUptoRow : OpenClaim := { program := "ytcdebohjjkffkaagreat", sum := "4b95da2e7e5a7644eef8b1bfe6ca3f507e69bcb0c55445d35d6b8b22ef3acac6", func := "memoir/memoirlaw22.ReplicaNil", spec := "replicaNil", inPlace := ["math.Float64frombits", "math.Float64bits"], unfollowed := true, recurses := true, plainKeys := false, apart := false, narrowed := true }
def ReplicaNilUptoSaid : Prop := replicaNilUptoRow.holds Tryz.pinned (OpenSpec.upto replicaNilSpec)

end Rows
end Go.Proofs.YtcdebohjjkffkaaGreat
