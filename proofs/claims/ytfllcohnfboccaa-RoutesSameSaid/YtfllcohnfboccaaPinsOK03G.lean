/- ref03.PinsOK: a contract, no statement of the seat. -/
import Derived.Test.YtfllcohnfboccaaCheck03G
import Derived.BigQuiet
import Derived.IntWalk
namespace Go.Proofs.Ytfllcohnfboccaa
open Go.RowKit Go.Sort

/-- A pin of a slice: its cells. -/
theorem pin_get {P : Nat → Prop} {w : World} {ao : Option Addr} {xs : List PinD} (h : SlAt pinRep P w ao xs) (i : Nat) (hi : i < xs.length) : ∃ b off p, ao = some ⟨b, off, none⟩ ∧ P b ∧ b < w.heap.size ∧ w.cell? ⟨b, off + i * 3, none⟩ = some (.int .i64 p.1) ∧ w.cell? ⟨b, off + i * 3 + 1, none⟩ = some (.int .i64 p.2.1) ∧ w.cell? ⟨b, off + i * 3 + 2, none⟩ = some (.string p.2.2) ∧ Hid (xs[i]? = some p) := by
  obtain ⟨b, off, cs, e, hp, hr, hR⟩ := h i hi
  have hcs : cs = pinE xs[i] := hR
  subst hcs
  exact ⟨b, off, xs[i], e, hp, rangeAt_lt hr (by rw [pinE_len]; omega), hr 0 _ rfl, hr 1 _ rfl, hr 2 _ rfl, (show _ = _ by simp [hi])⟩

end Go.Proofs.Ytfllcohnfboccaa
