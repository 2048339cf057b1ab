/- ref03.SameList: a contract, no statement of the seat. -/
import Derived.Test.YtfllcohnfboccaaGreatSameG
import Derived.Test.YtfllcohnfboccaaGreatMg02
namespace Go.Proofs.YtfllcohnfboccaaGreat
open Go.RowKit Go.Sort

/-- All statements of a list have lists of no more than so many elements. -/
def LightL (m : Nat) (l : List St) : Prop := ∀ s ∈ l, s.list.length ≤ m ∧ s.pins.length ≤ m
theorem LightL.get {m : Nat} {l : List St} (h : LightL m l) {i : Nat} {s : St} (hi : l[i]? = some s) : s.list.length ≤ m ∧ s.pins.length ≤ m := h s (List.mem_of_getElem? hi)
/-- A statement of a slice: its cells. -/
theorem st_get {P : Nat → Prop} {w : World} {ao : Option Addr} {xs : List St} (h : SlAt stRep P w ao xs) (i : Nat) (hi : i < xs.length) : ∃ b off s l p, ao = some ⟨b, off, none⟩ ∧ P b ∧ Lies P w (s, l, p) ∧ w.rangeAt b (off + i * 13) (stE (s, l, p)) ∧ Hid (xs[i]? = some s) := by
  obtain ⟨b, off, cs, s, e, hp, hr, ⟨l, p, rfl, hl⟩, hx⟩ := h.get i hi
  exact ⟨b, off, s, l, p, e, hp, hl, hr, hx⟩

end Go.Proofs.YtfllcohnfboccaaGreat
