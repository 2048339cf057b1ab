/-
  No cell of these rows narrows 'for every input' (looked for: loops, veiled, ifaces, maps, wideKeys, modest, calm, conditions, laid).
  DERIVED. THE GIVEN ROWS OF THIS SEAT. 5 by the template 'for every input the law returns true; each argument reads behind the call as it read before'; 0 by the template 'total and deterministic' (their statements: YtfllcohnfboccaaGreatTotals.lean).
  GIVEN WITH THE SEED: the statements are not yours to turn. If you find one false, say at which input.
  Laid BY PROGRAM, IN A SANDBOX (cutbox-rows.mjs): the forced cells as the released guide's own fill.sh prints them over the translation 924d6ad6bf6f1769… (all of the seat's roots in one cut). By AI agents, Wed Nov 11 2026. No macro, syntax, notation, axiom, sorry.
-/
import Derived.Test.YtfllcohnfboccaaGreatChecked
import GoSem.Claim
import GoSem.ClaimJoined
import GoSem.ClaimMapViews
import Derived.JoinedTies
import Derived.KernelRfl
namespace Go.Proofs.YtfllcohnfboccaaGreat
/- THE CELL 'sum', in the pinned program and in every row, IS THE sha256 OF THE DUMP (.gsa) THAT YtfllcohnfboccaaGreatProg.lean LOADS. Nothing in Lean hashes anything: it is a label: what it is worth is what the hold of that sum in a sandbox is worth. -/
noncomputable def Tryz.pinned : Pinned := { name := "ytfllcohnfboccaagreat", sum := "924d6ad6bf6f1769ec5b5ebfb8ce6daf34975803a1a68fea07e1fc84feb7f9ea", checked := Tryz.checked }
namespace Rows
def none {H : Type} : Left H := { results := [], args := [] }

/-- 'trustflowlaw35.MourningOne': WHATEVER THE INPUT: true; the input reads as it did. -/
def mourningOneSpec : ChangeSpec := { name := "mourningOne", fn := fun _ => fun
  | [d] => { results := [.lit (.bool true)], args := [d] }
  | _ => none }
def mourningOneRow : OpenClaim := { program := "ytfllcohnfboccaagreat", sum := "924d6ad6bf6f1769ec5b5ebfb8ce6daf34975803a1a68fea07e1fc84feb7f9ea", func := "trustflow/trustflowlaw35.MourningOne", spec := "mourningOne", unfollowed := true, recurses := true, plainKeys := false, apart := false }
def MourningOneSaid : Prop := mourningOneRow.holds Tryz.pinned (OpenSpec.ofChange mourningOneSpec)

/-- ITS FALSE NEIGHBOUR: 'it returns false'. Refute it at one input. -/
def mourningOneWrong : ChangeSpec := { name := "mourningOne", fn := fun _ => fun
  | [d] => { results := [.lit (.bool false)], args := [d] }
  | _ => none }
def MourningOneWrongFalsely : Prop := mourningOneRow.holds Tryz.pinned (OpenSpec.ofChange mourningOneWrong)

/-- 'trustflowlaw35.MourningMajority': WHATEVER THE INPUT: true; the input reads as it did. -/
def mourningMajoritySpec : ChangeSpec := { name := "mourningMajority", fn := fun _ => fun
  | [d1, d2] => { results := [.lit (.bool true)], args := [d1, d2] }
  | _ => none }
def mourningMajorityRow : OpenClaim := { program := "ytfllcohnfboccaagreat", sum := "924d6ad6bf6f1769ec5b5ebfb8ce6daf34975803a1a68fea07e1fc84feb7f9ea", func := "trustflow/trustflowlaw35.MourningMajority", spec := "mourningMajority", unfollowed := true, recurses := true, plainKeys := false, apart := false }
def MourningMajoritySaid : Prop := mourningMajorityRow.holds Tryz.pinned (OpenSpec.ofChange mourningMajoritySpec)

/-- ITS FALSE NEIGHBOUR: 'it returns false'. Refute it at one input. -/
def mourningMajorityWrong : ChangeSpec := { name := "mourningMajority", fn := fun _ => fun
  | [d1, d2] => { results := [.lit (.bool false)], args := [d1, d2] }
  | _ => none }
def MourningMajorityWrongFalsely : Prop := mourningMajorityRow.holds Tryz.pinned (OpenSpec.ofChange mourningMajorityWrong)

/-- 'trustflowlaw35.MourningMade': WHATEVER THE INPUT: true; the input reads as it did. -/
def mourningMadeSpec : ChangeSpec := { name := "mourningMade", fn := fun _ => fun
  | [d1, d2, d3] => { results := [.lit (.bool true)], args := [d1, d2, d3] }
  | _ => none }
def mourningMadeRow : OpenClaim := { program := "ytfllcohnfboccaagreat", sum := "924d6ad6bf6f1769ec5b5ebfb8ce6daf34975803a1a68fea07e1fc84feb7f9ea", func := "trustflow/trustflowlaw35.MourningMade", spec := "mourningMade", unfollowed := true, recurses := true, plainKeys := false, apart := false }
def MourningMadeSaid : Prop := mourningMadeRow.holds Tryz.pinned (OpenSpec.ofChange mourningMadeSpec)

/-- ITS FALSE NEIGHBOUR: 'it returns false'. Refute it at one input. -/
def mourningMadeWrong : ChangeSpec := { name := "mourningMade", fn := fun _ => fun
  | [d1, d2, d3] => { results := [.lit (.bool false)], args := [d1, d2, d3] }
  | _ => none }
def MourningMadeWrongFalsely : Prop := mourningMadeRow.holds Tryz.pinned (OpenSpec.ofChange mourningMadeWrong)

/-- 'trustflowlaw20.RoutesMade': WHATEVER THE INPUT: true; the input reads as it did. -/
def routesMadeSpec : ChangeSpec := { name := "routesMade", fn := fun _ => fun
  | [d1, d2, d3] => { results := [.lit (.bool true)], args := [d1, d2, d3] }
  | _ => none }
def routesMadeRow : OpenClaim := { program := "ytfllcohnfboccaagreat", sum := "924d6ad6bf6f1769ec5b5ebfb8ce6daf34975803a1a68fea07e1fc84feb7f9ea", func := "trustflow/trustflowlaw20.RoutesMade", spec := "routesMade", unfollowed := true, recurses := true, plainKeys := false, apart := false }
def RoutesMadeSaid : Prop := routesMadeRow.holds Tryz.pinned (OpenSpec.ofChange routesMadeSpec)

/-- ITS FALSE NEIGHBOUR: 'it returns false'. Refute it at one input. -/
def routesMadeWrong : ChangeSpec := { name := "routesMade", fn := fun _ => fun
  | [d1, d2, d3] => { results := [.lit (.bool false)], args := [d1, d2, d3] }
  | _ => none }
def RoutesMadeWrongFalsely : Prop := routesMadeRow.holds Tryz.pinned (OpenSpec.ofChange routesMadeWrong)

/-- 'trustflowlaw20.RoutesRaw': WHATEVER THE INPUT: true; the input reads as it did. -/
def routesRawSpec : ChangeSpec := { name := "routesRaw", fn := fun _ => fun
  | [d1, d2, d3] => { results := [.lit (.bool true)], args := [d1, d2, d3] }
  | _ => none }
def routesRawRow : OpenClaim := { program := "ytfllcohnfboccaagreat", sum := "924d6ad6bf6f1769ec5b5ebfb8ce6daf34975803a1a68fea07e1fc84feb7f9ea", func := "trustflow/trustflowlaw20.RoutesRaw", spec := "routesRaw", unfollowed := true, recurses := true, plainKeys := false, apart := false }
def RoutesRawSaid : Prop := routesRawRow.holds Tryz.pinned (OpenSpec.ofChange routesRawSpec)

/-- ITS FALSE NEIGHBOUR: 'it returns false'. Refute it at one input. -/
def routesRawWrong : ChangeSpec := { name := "routesRaw", fn := fun _ => fun
  | [d1, d2, d3] => { results := [.lit (.bool false)], args := [d1, d2, d3] }
  | _ => none }
def RoutesRawWrongFalsely : Prop := routesRawRow.holds Tryz.pinned (OpenSpec.ofChange routesRawWrong)

/- THE SECOND FORM. 'bulk': how many values and letters a reading holds, each counted each time it is reached (what is shared counts as often as it is met; a slice's spare places count too). A statement '..UptoSaid' is the law's where the arguments, and the package variables that the reading takes, are together of bulk at most 1048576: NARROWER than '..Said'. Prove '..Said' where nothing that the law and all that it calls make is longer than what came in: it says more and counts as full. Else prove '..UptoSaid'. A law counts once. -/
mutual
def uptoBulk {H : Type} : DataW H → Nat
  | .lit (.string bytes) => bytes.length + 1
  | .lit _ => 1
  | .nil => 1
  | .ptr d => uptoBulk d + 1
  | .slice elems spare => uptoBulkAll elems + uptoBulkAll spare + 1
  | .agg parts => uptoBulkAll parts + 1
  | .iface _ d => uptoBulk d + 1
  | .map entries => uptoBulkEntries entries + 1
  | .held _ => 1
def uptoBulkAll {H : Type} : List (DataW H) → Nat
  | [] => 0
  | d :: r => uptoBulk d + uptoBulkAll r
def uptoBulkEntries {H : Type} : List (Lit × DataW H) → Nat
  | [] => 0
  | x :: r => uptoBulkEntry x + uptoBulkEntries r
def uptoBulkEntry {H : Type} : Lit × DataW H → Nat
  | (.string bytes, d) => bytes.length + uptoBulk d + 1
  | (_, d) => uptoBulk d + 1
 end
def uptoSmall : (H : Type) → List (DataW H) → Bool := fun _ ds => decide (uptoBulkAll ds ≤ 1048576)
def OpenSpec.upto (s : _root_.Go.ChangeSpec) : _root_.Go.OpenSpec := { _root_.Go.OpenSpec.ofChange s with cond := some uptoSmall }

/-- 'trustflowlaw35.MourningOne', WHERE WHAT IT READS IS OF BULK AT MOST 1048576: true; the input reads as it did. -/
def mourningOneUptoRow : OpenClaim := { program := "ytfllcohnfboccaagreat", sum := "924d6ad6bf6f1769ec5b5ebfb8ce6daf34975803a1a68fea07e1fc84feb7f9ea", func := "trustflow/trustflowlaw35.MourningOne", spec := "mourningOne", unfollowed := true, recurses := true, plainKeys := false, apart := false, narrowed := true }
def MourningOneUptoSaid : Prop := mourningOneUptoRow.holds Tryz.pinned (OpenSpec.upto mourningOneSpec)

/-- 'trustflowlaw35.MourningMajority', WHERE WHAT IT READS IS OF BULK AT MOST 1048576: true; the input reads as it did. -/
def mourningMajorityUptoRow : OpenClaim := { program := "ytfllcohnfboccaagreat", sum := "924d6ad6bf6f1769ec5b5ebfb8ce6daf34975803a1a68fea07e1fc84feb7f9ea", func := "trustflow/trustflowlaw35.MourningMajority", spec := "mourningMajority", unfollowed := true, recurses := true, plainKeys := false, apart := false, narrowed := true }
def MourningMajorityUptoSaid : Prop := mourningMajorityUptoRow.holds Tryz.pinned (OpenSpec.upto mourningMajoritySpec)

/-- 'trustflowlaw35.MourningMade', WHERE WHAT IT READS IS OF BULK AT MOST 1048576: true; the input reads as it did. -/
def mourningMadeUptoRow : OpenClaim := { program := "ytfllcohnfboccaagreat", sum := "924d6ad6bf6f1769ec5b5ebfb8ce6daf34975803a1a68fea07e1fc84feb7f9ea", func := "trustflow/trustflowlaw35.MourningMade", spec := "mourningMade", unfollowed := true, recurses := true, plainKeys := false, apart := false, narrowed := true }
def MourningMadeUptoSaid : Prop := mourningMadeUptoRow.holds Tryz.pinned (OpenSpec.upto mourningMadeSpec)

/-- 'trustflowlaw20.RoutesMade', WHERE WHAT IT READS IS OF BULK AT MOST 1048576: true; the input reads as it did. -/
def routesMadeUptoRow : OpenClaim := { program := "ytfllcohnfboccaagreat", sum := "924d6ad6bf6f1769ec5b5ebfb8ce6daf34975803a1a68fea07e1fc84feb7f9ea", func := "trustflow/trustflowlaw20.RoutesMade", spec := "routesMade", unfollowed := true, recurses := true, plainKeys := false, apart := false, narrowed := true }
def RoutesMadeUptoSaid : Prop := routesMadeUptoRow.holds Tryz.pinned (OpenSpec.upto routesMadeSpec)

/-- 'trustflowlaw20.RoutesRaw', WHERE WHAT IT READS IS OF BULK AT MOST 1048576: true; the input reads as it did. -/
def routesRawUptoRow : OpenClaim := { program := "ytfllcohnfboccaagreat", sum := "924d6ad6bf6f1769ec5b5ebfb8ce6daf34975803a1a68fea07e1fc84feb7f9ea", func := "trustflow/trustflowlaw20.RoutesRaw", spec := "routesRaw", unfollowed := true, recurses := true, plainKeys := false, apart := false, narrowed := true }
def RoutesRawUptoSaid : Prop := routesRawUptoRow.holds Tryz.pinned (OpenSpec.upto routesRawSpec)

end Rows
end Go.Proofs.YtfllcohnfboccaaGreat
