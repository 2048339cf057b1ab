/- A slice of heirs in a block of its own: words, no statement of the seat. -/
import Derived.Test.YtagciffmacolfaaHeirSorted
namespace Go.Proofs.Ytagciffmacolfaa
open Go.RowKit Go.Sort

/-- A slice value that reads as heirs, in a block of its own from 'base' on. -/
def HeirsIn (w : World) (base : Nat) (v : Value) (d : List (Int × Int)) : Prop := ∃ ao cap, v = .slice ao d.length cap ∧ (d = [] ∨ ∃ g, ao = some ⟨g, 0, none⟩ ∧ base ≤ g ∧ g < w.heap.size ∧ HoldsK encH 2 w g 0 d.toArray)
theorem HeirsIn.sl {w : World} {base : Nat} {v : Value} {d : List (Int × Int)} (h : HeirsIn w base v d) : Sl heirRep (fun _ => True) w v d := by
  obtain ⟨ao, cap, rfl, h⟩ := h
  rcases h with rfl | ⟨g, rfl, _, _, hH⟩
  · exact ⟨ao, cap, rfl, SlAt.nil _ _ _⟩
  · exact ⟨_, cap, rfl, sl_holdsK trivial hH⟩
theorem own_heirsIn {w : World} {base : Nat} {ao : Option Addr} {cap n : Nat} {d : List (Int × Int)} (h : OwnE encH 2 43 w base ao cap d) (hn : n = d.length) : HeirsIn w base (.slice ao n cap) d := by
  subst hn
  refine ⟨ao, cap, rfl, ?_⟩
  rcases h.cases with ⟨_, _, h0⟩ | ⟨g, rfl, h1, h2, _⟩
  · exact Or.inl h0
  · exact Or.inr ⟨g, rfl, h1, h2, OwnE.holds (enc := encH) (k := 2) (fun _ => rfl) h⟩
theorem HeirsIn.keep {w w' : World} {base B : Nat} {p : Option Nat} {v : Value} {d : List (Int × Int)} (h : HeirsIn w base v d) (hx : Ex B p w w') (hB : w.heap.size ≤ B) (hp : ∀ g, base ≤ g → g < w.heap.size → p ≠ some g) : HeirsIn w' base v d := by
  obtain ⟨ao, cap, rfl, h⟩ := h
  refine ⟨ao, cap, rfl, h.imp id fun ⟨g, e, h1, h2, h3⟩ => ⟨g, e, h1, Nat.lt_of_lt_of_le h2 hx.size, holdsK_ex h3 (hx.block g (by omega) (fun e' => hp g h1 h2 e'.symm))⟩⟩
end Go.Proofs.Ytagciffmacolfaa
