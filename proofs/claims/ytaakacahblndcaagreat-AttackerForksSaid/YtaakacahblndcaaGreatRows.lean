/-
  No cell of these rows narrows 'for every input' (looked for: loops, veiled, ifaces, maps, wideKeys, modest, calm, conditions, laid).
  DERIVED. THE GIVEN ROWS OF THIS SEAT. 3 by the template 'for every input the law returns true; each argument reads behind the call as it read before'; 0 by the template 'total and deterministic' (their statements: YtaakacahblndcaaGreatTotals.lean).
  GIVEN WITH THE SEED: the statements are not yours to turn. If you find one false, say at which input.
  Laid BY PROGRAM, IN A SANDBOX (cutbox-rows.mjs): the forced cells as the released guide's own fill.sh prints them over the translation 2fcb45384029924f… (all of the seat's roots in one cut). By AI agents, Wed Nov 11 2026. No macro, syntax, notation, axiom, sorry.
-/
import Derived.Test.YtaakacahblndcaaGreatChecked
import GoSem.Claim
import GoSem.ClaimJoined
import GoSem.ClaimMapViews
import Derived.JoinedTies
import Derived.KernelRfl
namespace Go.Proofs.YtaakacahblndcaaGreat
/- THE CELL 'sum', in the pinned program and in every row, IS THE sha256 OF THE DUMP (.gsa) THAT YtaakacahblndcaaGreatProg.lean LOADS. Nothing in Lean hashes anything: it is a label: what it is worth is what the hold of that sum in a sandbox is worth. -/
noncomputable def Tryz.pinned : Pinned := { name := "ytaakacahblndcaagreat", sum := "2fcb45384029924f927e053f9e1d13ddc4e3e54c92257b65ca83fbb9ad83a343", checked := Tryz.checked }
namespace Rows
def none {H : Type} : Left H := { results := [], args := [] }

/-- 'trustflowlaw41.AttackerForks': WHATEVER THE INPUT: true; the input reads as it did. -/
def attackerForksSpec : ChangeSpec := { name := "attackerForks", fn := fun _ => fun
  | [d1, d2] => { results := [.lit (.bool true)], args := [d1, d2] }
  | _ => none }
def attackerForksRow : OpenClaim := { program := "ytaakacahblndcaagreat", sum := "2fcb45384029924f927e053f9e1d13ddc4e3e54c92257b65ca83fbb9ad83a343", func := "trustflow/trustflowlaw41.AttackerForks", spec := "attackerForks", inPlace := ["internal/bytealg.abigen_runtime_cmpstring", "slices.overlaps[trustflow/api.Statement]"], unfollowed := true, recurses := true, apart := false }
def AttackerForksSaid : Prop := attackerForksRow.holds Tryz.pinned (OpenSpec.ofChange attackerForksSpec)

/-- ITS FALSE NEIGHBOUR: 'it returns false'. Refute it at one input. -/
def attackerForksWrong : ChangeSpec := { name := "attackerForks", fn := fun _ => fun
  | [d1, d2] => { results := [.lit (.bool false)], args := [d1, d2] }
  | _ => none }
def AttackerForksWrongFalsely : Prop := attackerForksRow.holds Tryz.pinned (OpenSpec.ofChange attackerForksWrong)

/-- 'trustflowlaw36.ProofPairs': WHATEVER THE INPUT: true; the input reads as it did. -/
def proofPairsSpec : ChangeSpec := { name := "proofPairs", fn := fun _ => fun
  | [d1, d2] => { results := [.lit (.bool true)], args := [d1, d2] }
  | _ => none }
def proofPairsRow : OpenClaim := { program := "ytaakacahblndcaagreat", sum := "2fcb45384029924f927e053f9e1d13ddc4e3e54c92257b65ca83fbb9ad83a343", func := "trustflow/trustflowlaw36.ProofPairs", spec := "proofPairs", inPlace := ["internal/bytealg.abigen_runtime_cmpstring"], unfollowed := true, recurses := true, apart := false }
def ProofPairsSaid : Prop := proofPairsRow.holds Tryz.pinned (OpenSpec.ofChange proofPairsSpec)

/-- ITS FALSE NEIGHBOUR: 'it returns false'. Refute it at one input. -/
def proofPairsWrong : ChangeSpec := { name := "proofPairs", fn := fun _ => fun
  | [d1, d2] => { results := [.lit (.bool false)], args := [d1, d2] }
  | _ => none }
def ProofPairsWrongFalsely : Prop := proofPairsRow.holds Tryz.pinned (OpenSpec.ofChange proofPairsWrong)

/-- 'trustflowlaw36.ProofHonest': WHATEVER THE INPUT: true; the input reads as it did. -/
def proofHonestSpec : ChangeSpec := { name := "proofHonest", fn := fun _ => fun
  | [d] => { results := [.lit (.bool true)], args := [d] }
  | _ => none }
def proofHonestRow : OpenClaim := { program := "ytaakacahblndcaagreat", sum := "2fcb45384029924f927e053f9e1d13ddc4e3e54c92257b65ca83fbb9ad83a343", func := "trustflow/trustflowlaw36.ProofHonest", spec := "proofHonest", inPlace := ["internal/bytealg.abigen_runtime_cmpstring"], unfollowed := true, recurses := true, apart := false }
def ProofHonestSaid : Prop := proofHonestRow.holds Tryz.pinned (OpenSpec.ofChange proofHonestSpec)

/-- ITS FALSE NEIGHBOUR: 'it returns false'. Refute it at one input. -/
def proofHonestWrong : ChangeSpec := { name := "proofHonest", fn := fun _ => fun
  | [d] => { results := [.lit (.bool false)], args := [d] }
  | _ => none }
def ProofHonestWrongFalsely : Prop := proofHonestRow.holds Tryz.pinned (OpenSpec.ofChange proofHonestWrong)

/- THE SECOND FORM. 'bulk': how many values and letters a reading holds, each counted each time it is reached (what is shared counts as often as it is met; a slice's spare places count too). A statement '..UptoSaid' is the law's where the arguments, and the package variables that the reading takes, are together of bulk at most 1048576: NARROWER than '..Said'. Prove '..Said' where nothing that the law and all that it calls make is longer than what came in: it says more and counts as full. Else prove '..UptoSaid'. A law counts once. -/
mutual
def uptoBulk {H : Type} : DataW H → Nat
  | .lit (.string bytes) => bytes.length + 1
  | .lit _ => 1
  | .nil => 1
  | .ptr d => uptoBulk d + 1
  | .slice elems spare => uptoBulkAll elems + uptoBulkAll spare + 1
  | .agg parts => uptoBulkAll parts + 1
  | .iface _ d => uptoBulk d + 1
  | .map entries => uptoBulkEntries entries + 1
  | .held _ => 1
def uptoBulkAll {H : Type} : List (DataW H) → Nat
  | [] => 0
  | d :: r => uptoBulk d + uptoBulkAll r
def uptoBulkEntries {H : Type} : List (Lit × DataW H) → Nat
  | [] => 0
  | x :: r => uptoBulkEntry x + uptoBulkEntries r
def uptoBulkEntry {H : Type} : Lit × DataW H → Nat
  | (.string bytes, d) => bytes.length + uptoBulk d + 1
  | (_, d) => uptoBulk d + 1
 end
def uptoSmall : (H : Type) → List (DataW H) → Bool := fun _ ds => decide (uptoBulkAll ds ≤ 1048576)
def OpenSpec.upto (s : _root_.Go.ChangeSpec) : _root_.Go.OpenSpec := { _root_.Go.OpenSpec.ofChange s with cond := some uptoSmall }

/-- 'trustflowlaw41.AttackerForks', WHERE WHAT IT READS IS OF BULK AT MOST 1048576: true; the input reads as it did. -/
def attackerForksUptoRow : OpenClaim := { program := "ytaakacahblndcaagreat", sum := "2fcb45384029924f927e053f9e1d13ddc4e3e54c92257b65ca83fbb9ad83a343", func := "trustflow/trustflowlaw41.AttackerForks", spec := "attackerForks", inPlace := ["internal/bytealg.abigen_runtime_cmpstring", "slices.overlaps[trustflow/api.Statement]"], unfollowed := true, recurses := true, apart := false, narrowed := true }
def AttackerForksUptoSaid : Prop := attackerForksUptoRow.holds Tryz.pinned (OpenSpec.upto attackerForksSpec)

/-- 'trustflowlaw36.ProofPairs', WHERE WHAT IT READS IS OF BULK AT MOST 1048576: true; the input reads as it did. -/
def proofPairsUptoRow : OpenClaim := { program := "ytaakacahblndcaagreat", sum := "2fcb45384029924f927e053f9e1d13ddc4e3e54c92257b65ca83fbb9ad83a343", func := "trustflow/trustflowlaw36.ProofPairs", spec := "proofPairs", inPlace := ["internal/bytealg.abigen_runtime_cmpstring"], unfollowed := true, recurses := true, apart := false, narrowed := true }
def ProofPairsUptoSaid : Prop := proofPairsUptoRow.holds Tryz.pinned (OpenSpec.upto proofPairsSpec)

/-- 'trustflowlaw36.ProofHonest', WHERE WHAT IT READS IS OF BULK AT MOST 1048576: true; the input reads as it did. -/
def proofHonestUptoRow : OpenClaim := { program := "ytaakacahblndcaagreat", sum := "2fcb45384029924f927e053f9e1d13ddc4e3e54c92257b65ca83fbb9ad83a343", func := "trustflow/trustflowlaw36.ProofHonest", spec := "proofHonest", inPlace := ["internal/bytealg.abigen_runtime_cmpstring"], unfollowed := true, recurses := true, apart := false, narrowed := true }
def ProofHonestUptoSaid : Prop := proofHonestUptoRow.holds Tryz.pinned (OpenSpec.upto proofHonestSpec)

end Rows
end Go.Proofs.YtaakacahblndcaaGreat
