/-
  No cell of these rows narrows 'for every input' (looked for: loops, veiled, ifaces, maps, wideKeys, modest, calm, conditions, laid).
  DERIVED. THE GIVEN ROWS OF THIS SEAT. 5 by the template 'for every input the law returns true; each argument reads behind the call as it read before'; 0 by the template 'total and deterministic' (their statements: YtfllcohnfboccaaTotals.lean).
  GIVEN WITH THE SEED: the statements are not yours to turn. If you find one false, say at which input.
  Laid BY PROGRAM, IN A SANDBOX (cutbox-rows.mjs): the forced cells as the released guide's own fill.sh prints them over the translation f13e6d4774c3bcd4… (all of the seat's roots in one cut). By AI agents, Wed Nov 11 2026. No macro, syntax, notation, axiom, sorry.
-/
import Derived.Test.YtfllcohnfboccaaChecked
import GoSem.Claim
import GoSem.ClaimJoined
import GoSem.ClaimMapViews
import Derived.JoinedTies
import Derived.KernelRfl
namespace Go.Proofs.Ytfllcohnfboccaa
/- THE CELL 'sum', in the pinned program and in every row, IS THE sha256 OF THE DUMP (.gsa) THAT YtfllcohnfboccaaProg.lean LOADS. Nothing in Lean hashes anything: it is a label: what it is worth is what the hold of that sum in a sandbox is worth. -/
noncomputable def Try.pinned : Pinned := { name := "ytfllcohnfboccaa", sum := "f13e6d4774c3bcd4a15fb3262885fff0159264ec023fd6fd305757a74a37fad2", checked := Try.checked }
namespace Rows
def none {H : Type} : Left H := { results := [], args := [] }

/-- 'trustflowlaw35.MourningMind': WHATEVER THE INPUT: true; the input reads as it did. -/
def mourningMindSpec : ChangeSpec := { name := "mourningMind", fn := fun _ => fun
  | [d] => { results := [.lit (.bool true)], args := [d] }
  | _ => none }
def mourningMindRow : OpenClaim := { program := "ytfllcohnfboccaa", sum := "f13e6d4774c3bcd4a15fb3262885fff0159264ec023fd6fd305757a74a37fad2", func := "trustflow/trustflowlaw35.MourningMind", spec := "mourningMind", unfollowed := true, recurses := true, plainKeys := false, apart := false }
def MourningMindSaid : Prop := mourningMindRow.holds Try.pinned (OpenSpec.ofChange mourningMindSpec)

/-- ITS FALSE NEIGHBOUR: 'it returns false'. Refute it at one input. -/
def mourningMindWrong : ChangeSpec := { name := "mourningMind", fn := fun _ => fun
  | [d] => { results := [.lit (.bool false)], args := [d] }
  | _ => none }
def MourningMindWrongFalsely : Prop := mourningMindRow.holds Try.pinned (OpenSpec.ofChange mourningMindWrong)

/-- 'trustflowlaw20.RoutesBack': WHATEVER THE INPUT: true; the input reads as it did. -/
def routesBackSpec : ChangeSpec := { name := "routesBack", fn := fun _ => fun
  | [d1, d2] => { results := [.lit (.bool true)], args := [d1, d2] }
  | _ => none }
def routesBackRow : OpenClaim := { program := "ytfllcohnfboccaa", sum := "f13e6d4774c3bcd4a15fb3262885fff0159264ec023fd6fd305757a74a37fad2", func := "trustflow/trustflowlaw20.RoutesBack", spec := "routesBack", unfollowed := true, recurses := true, plainKeys := false, apart := false }
def RoutesBackSaid : Prop := routesBackRow.holds Try.pinned (OpenSpec.ofChange routesBackSpec)

/-- ITS FALSE NEIGHBOUR: 'it returns false'. Refute it at one input. -/
def routesBackWrong : ChangeSpec := { name := "routesBack", fn := fun _ => fun
  | [d1, d2] => { results := [.lit (.bool false)], args := [d1, d2] }
  | _ => none }
def RoutesBackWrongFalsely : Prop := routesBackRow.holds Try.pinned (OpenSpec.ofChange routesBackWrong)

/-- 'trustflowlaw20.RoutesEscape': WHATEVER THE INPUT: true; the input reads as it did. -/
def routesEscapeSpec : ChangeSpec := { name := "routesEscape", fn := fun _ => fun
  | [d1, d2] => { results := [.lit (.bool true)], args := [d1, d2] }
  | _ => none }
def routesEscapeRow : OpenClaim := { program := "ytfllcohnfboccaa", sum := "f13e6d4774c3bcd4a15fb3262885fff0159264ec023fd6fd305757a74a37fad2", func := "trustflow/trustflowlaw20.RoutesEscape", spec := "routesEscape", unfollowed := true, recurses := true, plainKeys := false, apart := false }
def RoutesEscapeSaid : Prop := routesEscapeRow.holds Try.pinned (OpenSpec.ofChange routesEscapeSpec)

/-- ITS FALSE NEIGHBOUR: 'it returns false'. Refute it at one input. -/
def routesEscapeWrong : ChangeSpec := { name := "routesEscape", fn := fun _ => fun
  | [d1, d2] => { results := [.lit (.bool false)], args := [d1, d2] }
  | _ => none }
def RoutesEscapeWrongFalsely : Prop := routesEscapeRow.holds Try.pinned (OpenSpec.ofChange routesEscapeWrong)

/-- 'trustflowlaw20.RoutesCover': WHATEVER THE INPUT: true; the input reads as it did. -/
def routesCoverSpec : ChangeSpec := { name := "routesCover", fn := fun _ => fun
  | [d1, d2] => { results := [.lit (.bool true)], args := [d1, d2] }
  | _ => none }
def routesCoverRow : OpenClaim := { program := "ytfllcohnfboccaa", sum := "f13e6d4774c3bcd4a15fb3262885fff0159264ec023fd6fd305757a74a37fad2", func := "trustflow/trustflowlaw20.RoutesCover", spec := "routesCover", unfollowed := true, recurses := true, plainKeys := false, apart := false }
def RoutesCoverSaid : Prop := routesCoverRow.holds Try.pinned (OpenSpec.ofChange routesCoverSpec)

/-- ITS FALSE NEIGHBOUR: 'it returns false'. Refute it at one input. -/
def routesCoverWrong : ChangeSpec := { name := "routesCover", fn := fun _ => fun
  | [d1, d2] => { results := [.lit (.bool false)], args := [d1, d2] }
  | _ => none }
def RoutesCoverWrongFalsely : Prop := routesCoverRow.holds Try.pinned (OpenSpec.ofChange routesCoverWrong)

/-- 'trustflowlaw20.RoutesSame': WHATEVER THE INPUT: true; the input reads as it did. -/
def routesSameSpec : ChangeSpec := { name := "routesSame", fn := fun _ => fun
  | [d1, d2] => { results := [.lit (.bool true)], args := [d1, d2] }
  | _ => none }
def routesSameRow : OpenClaim := { program := "ytfllcohnfboccaa", sum := "f13e6d4774c3bcd4a15fb3262885fff0159264ec023fd6fd305757a74a37fad2", func := "trustflow/trustflowlaw20.RoutesSame", spec := "routesSame", unfollowed := true, recurses := true, plainKeys := false, apart := false }
def RoutesSameSaid : Prop := routesSameRow.holds Try.pinned (OpenSpec.ofChange routesSameSpec)

/-- ITS FALSE NEIGHBOUR: 'it returns false'. Refute it at one input. -/
def routesSameWrong : ChangeSpec := { name := "routesSame", fn := fun _ => fun
  | [d1, d2] => { results := [.lit (.bool false)], args := [d1, d2] }
  | _ => none }
def RoutesSameWrongFalsely : Prop := routesSameRow.holds Try.pinned (OpenSpec.ofChange routesSameWrong)

/- THE SECOND FORM. 'bulk': how many values and letters a reading holds, each counted each time it is reached (what is shared counts as often as it is met; a slice's spare places count too). A statement '..UptoSaid' is the law's where the arguments, and the package variables that the reading takes, are together of bulk at most 1048576: NARROWER than '..Said'. Prove '..Said' where nothing that the law and all that it calls make is longer than what came in: it says more and counts as full. Else prove '..UptoSaid'. A law counts once. -/
mutual
def uptoBulk {H : Type} : DataW H → Nat
  | .lit (.string bytes) => bytes.length + 1
  | .lit _ => 1
  | .nil => 1
  | .ptr d => uptoBulk d + 1
  | .slice elems spare => uptoBulkAll elems + uptoBulkAll spare + 1
  | .agg parts => uptoBulkAll parts + 1
  | .iface _ d => uptoBulk d + 1
  | .map entries => uptoBulkEntries entries + 1
  | .held _ => 1
def uptoBulkAll {H : Type} : List (DataW H) → Nat
  | [] => 0
  | d :: r => uptoBulk d + uptoBulkAll r
def uptoBulkEntries {H : Type} : List (Lit × DataW H) → Nat
  | [] => 0
  | x :: r => uptoBulkEntry x + uptoBulkEntries r
def uptoBulkEntry {H : Type} : Lit × DataW H → Nat
  | (.string bytes, d) => bytes.length + uptoBulk d + 1
  | (_, d) => uptoBulk d + 1
 end
def uptoSmall : (H : Type) → List (DataW H) → Bool := fun _ ds => decide (uptoBulkAll ds ≤ 1048576)
def OpenSpec.upto (s : _root_.Go.ChangeSpec) : _root_.Go.OpenSpec := { _root_.Go.OpenSpec.ofChange s with cond := some uptoSmall }

/-- 'trustflowlaw35.MourningMind', WHERE WHAT IT READS IS OF BULK AT MOST 1048576: true; the input reads as it did. -/
def mourningMindUptoRow : OpenClaim := { program := "ytfllcohnfboccaa", sum := "f13e6d4774c3bcd4a15fb3262885fff0159264ec023fd6fd305757a74a37fad2", func := "trustflow/trustflowlaw35.MourningMind", spec := "mourningMind", unfollowed := true, recurses := true, plainKeys := false, apart := false, narrowed := true }
def MourningMindUptoSaid : Prop := mourningMindUptoRow.holds Try.pinned (OpenSpec.upto mourningMindSpec)

/-- 'trustflowlaw20.RoutesBack', WHERE WHAT IT READS IS OF BULK AT MOST 1048576: true; the input reads as it did. -/
def routesBackUptoRow : OpenClaim := { program := "ytfllcohnfboccaa", sum := "f13e6d4774c3bcd4a15fb3262885fff0159264ec023fd6fd305757a74a37fad2", func := "trustflow/trustflowlaw20.RoutesBack", spec := "routesBack", unfollowed := true, recurses := true, plainKeys := false, apart := false, narrowed := true }
def RoutesBackUptoSaid : Prop := routesBackUptoRow.holds Try.pinned (OpenSpec.upto routesBackSpec)

/-- 'trustflowlaw20.RoutesEscape', WHERE WHAT IT READS IS OF BULK AT MOST 1048576: true; the input reads as it did. -/
def routesEscapeUptoRow : OpenClaim := { program := "ytfllcohnfboccaa", sum := "f13e6d4774c3bcd4a15fb3262885fff0159264ec023fd6fd305757a74a37fad2", func := "trustflow/trustflowlaw20.RoutesEscape", spec := "routesEscape", unfollowed := true, recurses := true, plainKeys := false, apart := false, narrowed := true }
def RoutesEscapeUptoSaid : Prop := routesEscapeUptoRow.holds Try.pinned (OpenSpec.upto routesEscapeSpec)

/-- 'trustflowlaw20.RoutesCover', WHERE WHAT IT READS IS OF BULK AT MOST 1048576: true; the input reads as it did. -/
def routesCoverUptoRow : OpenClaim := { program := "ytfllcohnfboccaa", sum := "f13e6d4774c3bcd4a15fb3262885fff0159264ec023fd6fd305757a74a37fad2", func := "trustflow/trustflowlaw20.RoutesCover", spec := "routesCover", unfollowed := true, recurses := true, plainKeys := false, apart := false, narrowed := true }
def RoutesCoverUptoSaid : Prop := routesCoverUptoRow.holds Try.pinned (OpenSpec.upto routesCoverSpec)

/-- 'trustflowlaw20.RoutesSame', WHERE WHAT IT READS IS OF BULK AT MOST 1048576: true; the input reads as it did. -/
def routesSameUptoRow : OpenClaim := { program := "ytfllcohnfboccaa", sum := "f13e6d4774c3bcd4a15fb3262885fff0159264ec023fd6fd305757a74a37fad2", func := "trustflow/trustflowlaw20.RoutesSame", spec := "routesSame", unfollowed := true, recurses := true, plainKeys := false, apart := false, narrowed := true }
def RoutesSameUptoSaid : Prop := routesSameUptoRow.holds Try.pinned (OpenSpec.upto routesSameSpec)

end Rows
end Go.Proofs.Ytfllcohnfboccaa
