/-
  No cell of these rows narrows 'for every input' (looked for: loops, veiled, ifaces, maps, wideKeys, modest, calm, conditions, laid).
  DERIVED. THE GIVEN ROWS OF THIS SEAT. 4 by the template 'for every input the law returns true; each argument reads behind the call as it read before'; 0 by the template 'total and deterministic' (their statements: YtgimodjkoincgaaTotals.lean).
  GIVEN WITH THE SEED: the statements are not yours to turn. If you find one false, say at which input.
  Laid BY PROGRAM, IN A SANDBOX (cutbox-rows.mjs): the forced cells as the released guide's own fill.sh prints them over the translation d40439f46fa964bf… (all of the seat's roots in one cut). By AI agents, Wed Nov 11 2026. No macro, syntax, notation, axiom, sorry.
-/
import Derived.Test.YtgimodjkoincgaaChecked
import GoSem.Claim
import GoSem.ClaimJoined
import GoSem.ClaimMapViews
import Derived.JoinedTies
import Derived.KernelRfl
namespace Go.Proofs.Ytgimodjkoincgaa
/- THE CELL 'sum', in the pinned program and in every row, IS THE sha256 OF THE DUMP (.gsa) THAT YtgimodjkoincgaaProg.lean LOADS. Nothing in Lean hashes anything: it is a label: what it is worth is what the hold of that sum in a sandbox is worth. -/
noncomputable def Try.pinned : Pinned := { name := "ytgimodjkoincgaa", sum := "d40439f46fa964bfc421c8e5f4403c2dc2bed41966b70da0bad3e3217c99385e", checked := Try.checked }
namespace Rows
def none {H : Type} : Left H := { results := [], args := [] }

/-- 'trustflowlaw31.QuotaParts': WHATEVER THE INPUT: true; the input reads as it did. -/
def quotaPartsSpec : ChangeSpec := { name := "quotaParts", fn := fun _ => fun
  | [d1, d2, d3, d4] => { results := [.lit (.bool true)], args := [d1, d2, d3, d4] }
  | _ => none }
def quotaPartsRow : OpenClaim := { program := "ytgimodjkoincgaa", sum := "d40439f46fa964bfc421c8e5f4403c2dc2bed41966b70da0bad3e3217c99385e", func := "trustflow/trustflowlaw31.QuotaParts", spec := "quotaParts", apart := false }
def QuotaPartsSaid : Prop := quotaPartsRow.holds Try.pinned (OpenSpec.ofChange quotaPartsSpec)

/-- ITS FALSE NEIGHBOUR: 'it returns false'. Refute it at one input. -/
def quotaPartsWrong : ChangeSpec := { name := "quotaParts", fn := fun _ => fun
  | [d1, d2, d3, d4] => { results := [.lit (.bool false)], args := [d1, d2, d3, d4] }
  | _ => none }
def QuotaPartsWrongFalsely : Prop := quotaPartsRow.holds Try.pinned (OpenSpec.ofChange quotaPartsWrong)

/-- 'trustflowlaw31.QuotaFits': WHATEVER THE INPUT: true; the input reads as it did. -/
def quotaFitsSpec : ChangeSpec := { name := "quotaFits", fn := fun _ => fun
  | [d1, d2, d3] => { results := [.lit (.bool true)], args := [d1, d2, d3] }
  | _ => none }
def quotaFitsRow : OpenClaim := { program := "ytgimodjkoincgaa", sum := "d40439f46fa964bfc421c8e5f4403c2dc2bed41966b70da0bad3e3217c99385e", func := "trustflow/trustflowlaw31.QuotaFits", spec := "quotaFits", apart := false }
def QuotaFitsSaid : Prop := quotaFitsRow.holds Try.pinned (OpenSpec.ofChange quotaFitsSpec)

/-- ITS FALSE NEIGHBOUR: 'it returns false'. Refute it at one input. -/
def quotaFitsWrong : ChangeSpec := { name := "quotaFits", fn := fun _ => fun
  | [d1, d2, d3] => { results := [.lit (.bool false)], args := [d1, d2, d3] }
  | _ => none }
def QuotaFitsWrongFalsely : Prop := quotaFitsRow.holds Try.pinned (OpenSpec.ofChange quotaFitsWrong)

/-- 'trustflowlaw31.QuotaRaw': WHATEVER THE INPUT: true; the input reads as it did. -/
def quotaRawSpec : ChangeSpec := { name := "quotaRaw", fn := fun _ => fun
  | [d1, d2, d3] => { results := [.lit (.bool true)], args := [d1, d2, d3] }
  | _ => none }
def quotaRawRow : OpenClaim := { program := "ytgimodjkoincgaa", sum := "d40439f46fa964bfc421c8e5f4403c2dc2bed41966b70da0bad3e3217c99385e", func := "trustflow/trustflowlaw31.QuotaRaw", spec := "quotaRaw", apart := false }
def QuotaRawSaid : Prop := quotaRawRow.holds Try.pinned (OpenSpec.ofChange quotaRawSpec)

/-- ITS FALSE NEIGHBOUR: 'it returns false'. Refute it at one input. -/
def quotaRawWrong : ChangeSpec := { name := "quotaRaw", fn := fun _ => fun
  | [d1, d2, d3] => { results := [.lit (.bool false)], args := [d1, d2, d3] }
  | _ => none }
def QuotaRawWrongFalsely : Prop := quotaRawRow.holds Try.pinned (OpenSpec.ofChange quotaRawWrong)

/-- 'trustflowlaw31.QuotaGrows': WHATEVER THE INPUT: true; the input reads as it did. -/
def quotaGrowsSpec : ChangeSpec := { name := "quotaGrows", fn := fun _ => fun
  | [d1, d2] => { results := [.lit (.bool true)], args := [d1, d2] }
  | _ => none }
def quotaGrowsRow : OpenClaim := { program := "ytgimodjkoincgaa", sum := "d40439f46fa964bfc421c8e5f4403c2dc2bed41966b70da0bad3e3217c99385e", func := "trustflow/trustflowlaw31.QuotaGrows", spec := "quotaGrows", apart := false }
def QuotaGrowsSaid : Prop := quotaGrowsRow.holds Try.pinned (OpenSpec.ofChange quotaGrowsSpec)

/-- ITS FALSE NEIGHBOUR: 'it returns false'. Refute it at one input. -/
def quotaGrowsWrong : ChangeSpec := { name := "quotaGrows", fn := fun _ => fun
  | [d1, d2] => { results := [.lit (.bool false)], args := [d1, d2] }
  | _ => none }
def QuotaGrowsWrongFalsely : Prop := quotaGrowsRow.holds Try.pinned (OpenSpec.ofChange quotaGrowsWrong)

/- THE SECOND FORM. 'bulk': how many values and letters a reading holds, each counted each time it is reached (what is shared counts as often as it is met; a slice's spare places count too). A statement '..UptoSaid' is the law's where the arguments, and the package variables that the reading takes, are together of bulk at most 1048576: NARROWER than '..Said'. Prove '..Said' where nothing that the law and all that it calls make is longer than what came in: it says more and counts as full. Else prove '..UptoSaid'. A law counts once. -/
mutual
def uptoBulk {H : Type} : DataW H → Nat
  | .lit (.string bytes) => bytes.length + 1
  | .lit _ => 1
  | .nil => 1
  | .ptr d => uptoBulk d + 1
  | .slice elems spare => uptoBulkAll elems + uptoBulkAll spare + 1
  | .agg parts => uptoBulkAll parts + 1
  | .iface _ d => uptoBulk d + 1
  | .map entries => uptoBulkEntries entries + 1
  | .held _ => 1
def uptoBulkAll {H : Type} : List (DataW H) → Nat
  | [] => 0
  | d :: r => uptoBulk d + uptoBulkAll r
def uptoBulkEntries {H : Type} : List (Lit × DataW H) → Nat
  | [] => 0
  | x :: r => uptoBulkEntry x + uptoBulkEntries r
def uptoBulkEntry {H : Type} : Lit × DataW H → Nat
  | (.string bytes, d) => bytes.length + uptoBulk d + 1
  | (_, d) => uptoBulk d + 1
 end
def uptoSmall : (H : Type) → List (DataW H) → Bool := fun _ ds => decide (uptoBulkAll ds ≤ 1048576)
def OpenSpec.upto (s : _root_.Go.ChangeSpec) : _root_.Go.OpenSpec := { _root_.Go.OpenSpec.ofChange s with cond := some uptoSmall }

/-- 'trustflowlaw31.QuotaParts', WHERE WHAT IT READS IS OF BULK AT MOST 1048576: true; the input reads as it did. -/
def quotaPartsUptoRow : OpenClaim := { program := "ytgimodjkoincgaa", sum := "d40439f46fa964bfc421c8e5f4403c2dc2bed41966b70da0bad3e3217c99385e", func := "trustflow/trustflowlaw31.QuotaParts", spec := "quotaParts", apart := false, narrowed := true }
def QuotaPartsUptoSaid : Prop := quotaPartsUptoRow.holds Try.pinned (OpenSpec.upto quotaPartsSpec)

/-- 'trustflowlaw31.QuotaFits', WHERE WHAT IT READS IS OF BULK AT MOST 1048576: true; the input reads as it did. -/
def quotaFitsUptoRow : OpenClaim := { program := "ytgimodjkoincgaa", sum := "d40439f46fa964bfc421c8e5f4403c2dc2bed41966b70da0bad3e3217c99385e", func := "trustflow/trustflowlaw31.QuotaFits", spec := "quotaFits", apart := false, narrowed := true }
def QuotaFitsUptoSaid : Prop := quotaFitsUptoRow.holds Try.pinned (OpenSpec.upto quotaFitsSpec)

/-- 'trustflowlaw31.QuotaRaw', WHERE WHAT IT READS IS OF BULK AT MOST 1048576: true; the input reads as it did. -/
def quotaRawUptoRow : OpenClaim := { program := "ytgimodjkoincgaa", sum := "d40439f46fa964bfc421c8e5f4403c2dc2bed41966b70da0bad3e3217c99385e", func := "trustflow/trustflowlaw31.QuotaRaw", spec := "quotaRaw", apart := false, narrowed := true }
def QuotaRawUptoSaid : Prop := quotaRawUptoRow.holds Try.pinned (OpenSpec.upto quotaRawSpec)

/-- 'trustflowlaw31.QuotaGrows', WHERE WHAT IT READS IS OF BULK AT MOST 1048576: true; the input reads as it did. -/
def quotaGrowsUptoRow : OpenClaim := { program := "ytgimodjkoincgaa", sum := "d40439f46fa964bfc421c8e5f4403c2dc2bed41966b70da0bad3e3217c99385e", func := "trustflow/trustflowlaw31.QuotaGrows", spec := "quotaGrows", apart := false, narrowed := true }
def QuotaGrowsUptoSaid : Prop := quotaGrowsUptoRow.holds Try.pinned (OpenSpec.upto quotaGrowsSpec)

end Rows
end Go.Proofs.Ytgimodjkoincgaa
