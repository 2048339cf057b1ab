/-
  No cell of these rows narrows 'for every input' (looked for: loops, veiled, ifaces, maps, wideKeys, modest, calm, conditions, laid).
  DERIVED. THE GIVEN ROWS OF THIS SEAT. 3 by the template 'for every input the law returns true; each argument reads behind the call as it read before'; 0 by the template 'total and deterministic' (their statements: YtagciffmacolfaaTotals.lean).
  GIVEN WITH THE SEED: the statements are not yours to turn. If you find one false, say at which input.
  Laid BY PROGRAM, IN A SANDBOX (cutbox-rows.mjs): the forced cells as the released guide's own fill.sh prints them over the translation 1e14d0e254b0f685… (all of the seat's roots in one cut). By AI agents, Wed Nov 11 2026. No macro, syntax, notation, axiom, sorry.
-/
import Derived.Test.YtagciffmacolfaaChecked
import GoSem.Claim
import GoSem.ClaimJoined
import GoSem.ClaimMapViews
import Derived.JoinedTies
import Derived.KernelRfl
namespace Go.Proofs.Ytagciffmacolfaa
/- THE CELL 'sum', in the pinned program and in every row, IS THE sha256 OF THE DUMP (.gsa) THAT YtagciffmacolfaaProg.lean LOADS. Nothing in Lean hashes anything: it is a label: what it is worth is what the hold of that sum in a sandbox is worth. -/
noncomputable def Try.pinned : Pinned := { name := "ytagciffmacolfaa", sum := "1e14d0e254b0f68576fbd69c03d46eab908f5258b701a04e4358c379d3c8320a", checked := Try.checked }
namespace Rows
def none {H : Type} : Left H := { results := [], args := [] }

/-- 'trustflowlaw09.EpochRaw': WHATEVER THE INPUT: true; the input reads as it did. -/
def epochRawSpec : ChangeSpec := { name := "epochRaw", fn := fun _ => fun
  | [d1, d2] => { results := [.lit (.bool true)], args := [d1, d2] }
  | _ => none }
def epochRawRow : OpenClaim := { program := "ytagciffmacolfaa", sum := "1e14d0e254b0f68576fbd69c03d46eab908f5258b701a04e4358c379d3c8320a", func := "trustflow/trustflowlaw09.EpochRaw", spec := "epochRaw", unfollowed := true, recurses := true, apart := false }
def EpochRawSaid : Prop := epochRawRow.holds Try.pinned (OpenSpec.ofChange epochRawSpec)

/-- ITS FALSE NEIGHBOUR: 'it returns false'. Refute it at one input. -/
def epochRawWrong : ChangeSpec := { name := "epochRaw", fn := fun _ => fun
  | [d1, d2] => { results := [.lit (.bool false)], args := [d1, d2] }
  | _ => none }
def EpochRawWrongFalsely : Prop := epochRawRow.holds Try.pinned (OpenSpec.ofChange epochRawWrong)

/-- 'trustflowlaw35.MourningFollows': WHATEVER THE INPUT: true; the input reads as it did. -/
def mourningFollowsSpec : ChangeSpec := { name := "mourningFollows", fn := fun _ => fun
  | [d1, d2, d3] => { results := [.lit (.bool true)], args := [d1, d2, d3] }
  | _ => none }
def mourningFollowsRow : OpenClaim := { program := "ytagciffmacolfaa", sum := "1e14d0e254b0f68576fbd69c03d46eab908f5258b701a04e4358c379d3c8320a", func := "trustflow/trustflowlaw35.MourningFollows", spec := "mourningFollows", unfollowed := true, recurses := true, apart := false }
def MourningFollowsSaid : Prop := mourningFollowsRow.holds Try.pinned (OpenSpec.ofChange mourningFollowsSpec)

/-- ITS FALSE NEIGHBOUR: 'it returns false'. Refute it at one input. -/
def mourningFollowsWrong : ChangeSpec := { name := "mourningFollows", fn := fun _ => fun
  | [d1, d2, d3] => { results := [.lit (.bool false)], args := [d1, d2, d3] }
  | _ => none }
def MourningFollowsWrongFalsely : Prop := mourningFollowsRow.holds Try.pinned (OpenSpec.ofChange mourningFollowsWrong)

/-- 'trustflowlaw35.MourningAgain': WHATEVER THE INPUT: true; the input reads as it did. -/
def mourningAgainSpec : ChangeSpec := { name := "mourningAgain", fn := fun _ => fun
  | [d] => { results := [.lit (.bool true)], args := [d] }
  | _ => none }
def mourningAgainRow : OpenClaim := { program := "ytagciffmacolfaa", sum := "1e14d0e254b0f68576fbd69c03d46eab908f5258b701a04e4358c379d3c8320a", func := "trustflow/trustflowlaw35.MourningAgain", spec := "mourningAgain", unfollowed := true, recurses := true, apart := false }
def MourningAgainSaid : Prop := mourningAgainRow.holds Try.pinned (OpenSpec.ofChange mourningAgainSpec)

/-- ITS FALSE NEIGHBOUR: 'it returns false'. Refute it at one input. -/
def mourningAgainWrong : ChangeSpec := { name := "mourningAgain", fn := fun _ => fun
  | [d] => { results := [.lit (.bool false)], args := [d] }
  | _ => none }
def MourningAgainWrongFalsely : Prop := mourningAgainRow.holds Try.pinned (OpenSpec.ofChange mourningAgainWrong)

/- THE SECOND FORM. 'bulk': how many values and letters a reading holds, each counted each time it is reached (what is shared counts as often as it is met; a slice's spare places count too). A statement '..UptoSaid' is the law's where the arguments, and the package variables that the reading takes, are together of bulk at most 1048576: NARROWER than '..Said'. Prove '..Said' where nothing that the law and all that it calls make is longer than what came in: it says more and counts as full. Else prove '..UptoSaid'. A law counts once. -/
mutual
def uptoBulk {H : Type} : DataW H → Nat
  | .lit (.string bytes) => bytes.length + 1
  | .lit _ => 1
  | .nil => 1
  | .ptr d => uptoBulk d + 1
  | .slice elems spare => uptoBulkAll elems + uptoBulkAll spare + 1
  | .agg parts => uptoBulkAll parts + 1
  | .iface _ d => uptoBulk d + 1
  | .map entries => uptoBulkEntries entries + 1
  | .held _ => 1
def uptoBulkAll {H : Type} : List (DataW H) → Nat
  | [] => 0
  | d :: r => uptoBulk d + uptoBulkAll r
def uptoBulkEntries {H : Type} : List (Lit × DataW H) → Nat
  | [] => 0
  | x :: r => uptoBulkEntry x + uptoBulkEntries r
def uptoBulkEntry {H : Type} : Lit × DataW H → Nat
  | (.string bytes, d) => bytes.length + uptoBulk d + 1
  | (_, d) => uptoBulk d + 1
 end
def uptoSmall : (H : Type) → List (DataW H) → Bool := fun _ ds => decide (uptoBulkAll ds ≤ 1048576)
def OpenSpec.upto (s : _root_.Go.ChangeSpec) : _root_.Go.OpenSpec := { _root_.Go.OpenSpec.ofChange s with cond := some uptoSmall }

/-- 'trustflowlaw09.EpochRaw', WHERE WHAT IT READS IS OF BULK AT MOST 1048576: true; the input reads as it did. -/
def epochRawUptoRow : OpenClaim := { program := "ytagciffmacolfaa", sum := "1e14d0e254b0f68576fbd69c03d46eab908f5258b701a04e4358c379d3c8320a", func := "trustflow/trustflowlaw09.EpochRaw", spec := "epochRaw", unfollowed := true, recurses := true, apart := false, narrowed := true }
def EpochRawUptoSaid : Prop := epochRawUptoRow.holds Try.pinned (OpenSpec.upto epochRawSpec)

/-- 'trustflowlaw35.MourningFollows', WHERE WHAT IT READS IS OF BULK AT MOST 1048576: true; the input reads as it did. -/
def mourningFollowsUptoRow : OpenClaim := { program := "ytagciffmacolfaa", sum := "1e14d0e254b0f68576fbd69c03d46eab908f5258b701a04e4358c379d3c8320a", func := "trustflow/trustflowlaw35.MourningFollows", spec := "mourningFollows", unfollowed := true, recurses := true, apart := false, narrowed := true }
def MourningFollowsUptoSaid : Prop := mourningFollowsUptoRow.holds Try.pinned (OpenSpec.upto mourningFollowsSpec)

/-- 'trustflowlaw35.MourningAgain', WHERE WHAT IT READS IS OF BULK AT MOST 1048576: true; the input reads as it did. -/
def mourningAgainUptoRow : OpenClaim := { program := "ytagciffmacolfaa", sum := "1e14d0e254b0f68576fbd69c03d46eab908f5258b701a04e4358c379d3c8320a", func := "trustflow/trustflowlaw35.MourningAgain", spec := "mourningAgain", unfollowed := true, recurses := true, apart := false, narrowed := true }
def MourningAgainUptoSaid : Prop := mourningAgainUptoRow.holds Try.pinned (OpenSpec.upto mourningAgainSpec)

end Rows
end Go.Proofs.Ytagciffmacolfaa
