/-
  No cell of these rows narrows 'for every input' (looked for: loops, veiled, ifaces, maps, wideKeys, modest, calm, conditions, laid).
  DERIVED. THE GIVEN ROWS OF THIS SEAT. 4 by the template 'for every input the law returns true; each argument reads behind the call as it read before'; 0 by the template 'total and deterministic' (their statements: YtdmchekkcmjafaaTotals.lean).
  GIVEN WITH THE SEED: the statements are not yours to turn. If you find one false, say at which input.
  Laid BY PROGRAM, IN A SANDBOX (cutbox-rows.mjs): the forced cells as the released guide's own fill.sh prints them over the translation efd851d0f503bd81… (all of the seat's roots in one cut). By AI agents, Wed Nov 11 2026. No macro, syntax, notation, axiom, sorry.
-/
import Derived.Test.YtdmchekkcmjafaaChecked
import GoSem.Claim
import GoSem.ClaimJoined
import GoSem.ClaimMapViews
import Derived.JoinedTies
import Derived.KernelRfl
namespace Go.Proofs.Ytdmchekkcmjafaa
/- THE CELL 'sum', in the pinned program and in every row, IS THE sha256 OF THE DUMP (.gsa) THAT YtdmchekkcmjafaaProg.lean LOADS. Nothing in Lean hashes anything: it is a label: what it is worth is what the hold of that sum in a sandbox is worth. -/
noncomputable def Try.pinned : Pinned := { name := "ytdmchekkcmjafaa", sum := "efd851d0f503bd811398a9810c3377d04af0397f0e93c8c4fd1fc6a2acdb4a0e", checked := Try.checked }
namespace Rows
def none {H : Type} : Left H := { results := [], args := [] }

/-- 'trustflowlaw09.EpochRaw': WHATEVER THE INPUT: true; the input reads as it did. -/
def epochRawSpec : ChangeSpec := { name := "epochRaw", fn := fun _ => fun
  | [d1, d2] => { results := [.lit (.bool true)], args := [d1, d2] }
  | _ => none }
def epochRawRow : OpenClaim := { program := "ytdmchekkcmjafaa", sum := "efd851d0f503bd811398a9810c3377d04af0397f0e93c8c4fd1fc6a2acdb4a0e", func := "trustflow/trustflowlaw09.EpochRaw", spec := "epochRaw", unfollowed := true, recurses := true, apart := false }
def EpochRawSaid : Prop := epochRawRow.holds Try.pinned (OpenSpec.ofChange epochRawSpec)

/-- ITS FALSE NEIGHBOUR: 'it returns false'. Refute it at one input. -/
def epochRawWrong : ChangeSpec := { name := "epochRaw", fn := fun _ => fun
  | [d1, d2] => { results := [.lit (.bool false)], args := [d1, d2] }
  | _ => none }
def EpochRawWrongFalsely : Prop := epochRawRow.holds Try.pinned (OpenSpec.ofChange epochRawWrong)

/-- 'trustflowlaw09.EpochMade': WHATEVER THE INPUT: true; the input reads as it did. -/
def epochMadeSpec : ChangeSpec := { name := "epochMade", fn := fun _ => fun
  | [d1, d2] => { results := [.lit (.bool true)], args := [d1, d2] }
  | _ => none }
def epochMadeRow : OpenClaim := { program := "ytdmchekkcmjafaa", sum := "efd851d0f503bd811398a9810c3377d04af0397f0e93c8c4fd1fc6a2acdb4a0e", func := "trustflow/trustflowlaw09.EpochMade", spec := "epochMade", unfollowed := true, recurses := true, apart := false }
def EpochMadeSaid : Prop := epochMadeRow.holds Try.pinned (OpenSpec.ofChange epochMadeSpec)

/-- ITS FALSE NEIGHBOUR: 'it returns false'. Refute it at one input. -/
def epochMadeWrong : ChangeSpec := { name := "epochMade", fn := fun _ => fun
  | [d1, d2] => { results := [.lit (.bool false)], args := [d1, d2] }
  | _ => none }
def EpochMadeWrongFalsely : Prop := epochMadeRow.holds Try.pinned (OpenSpec.ofChange epochMadeWrong)

/-- 'trustflowlaw09.EpochOrder': WHATEVER THE INPUT: true; the input reads as it did. -/
def epochOrderSpec : ChangeSpec := { name := "epochOrder", fn := fun _ => fun
  | [d] => { results := [.lit (.bool true)], args := [d] }
  | _ => none }
def epochOrderRow : OpenClaim := { program := "ytdmchekkcmjafaa", sum := "efd851d0f503bd811398a9810c3377d04af0397f0e93c8c4fd1fc6a2acdb4a0e", func := "trustflow/trustflowlaw09.EpochOrder", spec := "epochOrder", unfollowed := true, recurses := true, apart := false }
def EpochOrderSaid : Prop := epochOrderRow.holds Try.pinned (OpenSpec.ofChange epochOrderSpec)

/-- ITS FALSE NEIGHBOUR: 'it returns false'. Refute it at one input. -/
def epochOrderWrong : ChangeSpec := { name := "epochOrder", fn := fun _ => fun
  | [d] => { results := [.lit (.bool false)], args := [d] }
  | _ => none }
def EpochOrderWrongFalsely : Prop := epochOrderRow.holds Try.pinned (OpenSpec.ofChange epochOrderWrong)

/-- 'trustflowlaw09.EpochEach': WHATEVER THE INPUT: true; the input reads as it did. -/
def epochEachSpec : ChangeSpec := { name := "epochEach", fn := fun _ => fun
  | [d1, d2] => { results := [.lit (.bool true)], args := [d1, d2] }
  | _ => none }
def epochEachRow : OpenClaim := { program := "ytdmchekkcmjafaa", sum := "efd851d0f503bd811398a9810c3377d04af0397f0e93c8c4fd1fc6a2acdb4a0e", func := "trustflow/trustflowlaw09.EpochEach", spec := "epochEach", unfollowed := true, recurses := true, apart := false }
def EpochEachSaid : Prop := epochEachRow.holds Try.pinned (OpenSpec.ofChange epochEachSpec)

/-- ITS FALSE NEIGHBOUR: 'it returns false'. Refute it at one input. -/
def epochEachWrong : ChangeSpec := { name := "epochEach", fn := fun _ => fun
  | [d1, d2] => { results := [.lit (.bool false)], args := [d1, d2] }
  | _ => none }
def EpochEachWrongFalsely : Prop := epochEachRow.holds Try.pinned (OpenSpec.ofChange epochEachWrong)

/- THE SECOND FORM. 'bulk': how many values and letters a reading holds, each counted each time it is reached (what is shared counts as often as it is met; a slice's spare places count too). A statement '..UptoSaid' is the law's where the arguments, and the package variables that the reading takes, are together of bulk at most 1048576: NARROWER than '..Said'. Prove '..Said' where nothing that the law and all that it calls make is longer than what came in: it says more and counts as full. Else prove '..UptoSaid'. A law counts once. -/
mutual
def uptoBulk {H : Type} : DataW H → Nat
  | .lit (.string bytes) => bytes.length + 1
  | .lit _ => 1
  | .nil => 1
  | .ptr d => uptoBulk d + 1
  | .slice elems spare => uptoBulkAll elems + uptoBulkAll spare + 1
  | .agg parts => uptoBulkAll parts + 1
  | .iface _ d => uptoBulk d + 1
  | .map entries => uptoBulkEntries entries + 1
  | .held _ => 1
def uptoBulkAll {H : Type} : List (DataW H) → Nat
  | [] => 0
  | d :: r => uptoBulk d + uptoBulkAll r
def uptoBulkEntries {H : Type} : List (Lit × DataW H) → Nat
  | [] => 0
  | x :: r => uptoBulkEntry x + uptoBulkEntries r
def uptoBulkEntry {H : Type} : Lit × DataW H → Nat
  | (.string bytes, d) => bytes.length + uptoBulk d + 1
  | (_, d) => uptoBulk d + 1
 end
def uptoSmall : (H : Type) → List (DataW H) → Bool := fun _ ds => decide (uptoBulkAll ds ≤ 1048576)
def OpenSpec.upto (s : _root_.Go.ChangeSpec) : _root_.Go.OpenSpec := { _root_.Go.OpenSpec.ofChange s with cond := some uptoSmall }

/-- 'trustflowlaw09.EpochRaw', WHERE WHAT IT READS IS OF BULK AT MOST 1048576: true; the input reads as it did. -/
def epochRawUptoRow : OpenClaim := { program := "ytdmchekkcmjafaa", sum := "efd851d0f503bd811398a9810c3377d04af0397f0e93c8c4fd1fc6a2acdb4a0e", func := "trustflow/trustflowlaw09.EpochRaw", spec := "epochRaw", unfollowed := true, recurses := true, apart := false, narrowed := true }
def EpochRawUptoSaid : Prop := epochRawUptoRow.holds Try.pinned (OpenSpec.upto epochRawSpec)

/-- 'trustflowlaw09.EpochMade', WHERE WHAT IT READS IS OF BULK AT MOST 1048576: true; the input reads as it did. -/
def epochMadeUptoRow : OpenClaim := { program := "ytdmchekkcmjafaa", sum := "efd851d0f503bd811398a9810c3377d04af0397f0e93c8c4fd1fc6a2acdb4a0e", func := "trustflow/trustflowlaw09.EpochMade", spec := "epochMade", unfollowed := true, recurses := true, apart := false, narrowed := true }
def EpochMadeUptoSaid : Prop := epochMadeUptoRow.holds Try.pinned (OpenSpec.upto epochMadeSpec)

/-- 'trustflowlaw09.EpochOrder', WHERE WHAT IT READS IS OF BULK AT MOST 1048576: true; the input reads as it did. -/
def epochOrderUptoRow : OpenClaim := { program := "ytdmchekkcmjafaa", sum := "efd851d0f503bd811398a9810c3377d04af0397f0e93c8c4fd1fc6a2acdb4a0e", func := "trustflow/trustflowlaw09.EpochOrder", spec := "epochOrder", unfollowed := true, recurses := true, apart := false, narrowed := true }
def EpochOrderUptoSaid : Prop := epochOrderUptoRow.holds Try.pinned (OpenSpec.upto epochOrderSpec)

/-- 'trustflowlaw09.EpochEach', WHERE WHAT IT READS IS OF BULK AT MOST 1048576: true; the input reads as it did. -/
def epochEachUptoRow : OpenClaim := { program := "ytdmchekkcmjafaa", sum := "efd851d0f503bd811398a9810c3377d04af0397f0e93c8c4fd1fc6a2acdb4a0e", func := "trustflow/trustflowlaw09.EpochEach", spec := "epochEach", unfollowed := true, recurses := true, apart := false, narrowed := true }
def EpochEachUptoSaid : Prop := epochEachUptoRow.holds Try.pinned (OpenSpec.upto epochEachSpec)

end Rows
end Go.Proofs.Ytdmchekkcmjafaa
