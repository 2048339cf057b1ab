/- slices.symMergeCmpFunc at trustflow/api.Heir, over whatever program that bears it: definitions, no statement of the seat. -/
import Derived.Test.YtfllcohnfboccaaMergeEndHeirG
import Derived.Test.YtfllcohnfboccaaMg14
namespace Go.Proofs.Ytfllcohnfboccaa
open Go.RowKit Go.Sort
variable {P : Program} {α : Type} [Inhabited α]

/-- The merge's contract for at most N elements. -/
def SymOKHeir (P : Program) (k : Nat) (enc : α → List Value) (cf : α → α → Int) (F : Value) (g off cap s N : Nat) : Prop :=
  ∀ (a m b : Nat) (A M B : Int) (d : Array α) (w : World), (a : Int) = A → (m : Int) = M → (b : Int) = B → HoldsK enc k w g off d → g < w.heap.size → a < m → m < b → b ≤ d.size → b - a ≤ N → d.size = s → SortedIn (ltOf cf) a m d → SortedIn (ltOf cf) m b d →
    Calls P 134 #[.slice (some ⟨g, off, none⟩) s cap, .int .i64 A, .int .i64 M, .int .i64 B, F] w fun e w' =>
      e = .returned (.tuple #[]) ∧ ∃ d', HoldsK enc k w' g off d' ∧ SM (ltOf cf) a b d d' ∧ SortedIn (ltOf cf) a b d' ∧ Ex w.heap.size (some g) w w'
def CutFacts (lt : α → α → Bool) (d : Array α) (a q m e b : Nat) : Prop := (∀ x y, q ≤ x → x < m → m ≤ y → y < e → lt d[y]! d[x]! = true) ∧ ∀ x y, a ≤ x → x < q → e ≤ y → y < b → lt d[y]! d[x]! = false

end Go.Proofs.Ytfllcohnfboccaa
