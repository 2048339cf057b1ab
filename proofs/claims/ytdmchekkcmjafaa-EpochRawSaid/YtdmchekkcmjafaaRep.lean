/- How values of a type are held in memory, as a word on lists: numbers, texts, structs, slices of these. For whatever program. No statement of the seat is proved here. -/
import Derived.Test.YtdmchekkcmjafaaBase
import Derived.Deep.MidRow
import Derived.Laws.StructEq
namespace Go.Proofs.Ytdmchekkcmjafaa
open Go.RowKit

/-- How values are held: k cells each; R P w cs x: in the world w the cells cs hold x, and all blocks that they lead to satisfy P. -/
structure Rep (α : Type) where
  k : Nat
  R : (Nat → Prop) → World → List Value → α → Prop
  len : ∀ {P w cs x}, R P w cs x → cs.length = k
  one : ∀ {P w cs x}, R P w cs x → ∀ v ∈ cs, v.oneCell' = true
  keep : ∀ {P w w' cs x}, R P w cs x → (∀ b, P b → b < w.heap.size → w'.heap[b]? = w.heap[b]?) → R P w' cs x
  mono : ∀ {P P' w cs x}, R P w cs x → (∀ b, P b → b < w.heap.size → P' b) → R P' w cs x

def intRep : Rep Int where
  k := 1
  R := fun _ _ cs n => cs = [.int .i64 n]
  len := fun h => by subst h; rfl
  one := fun h => by subst h; intro v hv; simp at hv; subst hv; rfl
  keep := fun h _ => h
  mono := fun h _ => h

def strRep : Rep ByteArray where
  k := 1
  R := fun _ _ cs s => cs = [.string s]
  len := fun h => by subst h; rfl
  one := fun h => by subst h; intro v hv; simp at hv; subst hv; rfl
  keep := fun h _ => h
  mono := fun h _ => h

section
variable {α : Type} (r : Rep α)

/-- The slice at 'ao' with 'xs.length' elements reads as xs. -/
def SlAt (P : Nat → Prop) (w : World) (ao : Option Addr) (xs : List α) : Prop :=
  ∀ i (h : i < xs.length), ∃ b off cs, ao = some ⟨b, off, none⟩ ∧ P b ∧ w.rangeAt b (off + i * r.k) cs ∧ r.R P w cs xs[i]
def Sl (P : Nat → Prop) (w : World) (v : Value) (xs : List α) : Prop := ∃ ao cap, v = .slice ao xs.length cap ∧ SlAt r P w ao xs

variable {r}
theorem rangeAt_lt {w : World} {b o : Nat} {cs : List Value} (h : w.rangeAt b o cs) (hc : 0 < cs.length) : b < w.heap.size :=
  World.block_lt_of_cell? w ⟨b, o + 0, none⟩ (h 0 cs[0] (by simp [hc]))
theorem rangeAt_keep {w w' : World} {b o : Nat} {cs : List Value} (h : w.rangeAt b o cs) (hb : w'.heap[b]? = w.heap[b]?) : w'.rangeAt b o cs := fun j v hv =>
  (World.cell?_of_block (w := w) (a := ⟨b, o + j, none⟩) hb).trans (h j v hv)
theorem SlAt.keep {P : Nat → Prop} {w w' : World} {ao : Option Addr} {xs : List α} (h : SlAt r P w ao xs) (hk : 0 < r.k) (hx : ∀ b, P b → b < w.heap.size → w'.heap[b]? = w.heap[b]?) : SlAt r P w' ao xs := by
  intro i hi
  obtain ⟨b, off, cs, e, hp, hr, hR⟩ := h i hi
  exact ⟨b, off, cs, e, hp, rangeAt_keep hr (hx b hp (rangeAt_lt hr (by rw [r.len hR]; exact hk))), r.keep hR hx⟩
theorem SlAt.mono {P P' : Nat → Prop} {w : World} {ao : Option Addr} {xs : List α} (h : SlAt r P w ao xs) (hk : 0 < r.k) (hx : ∀ b, P b → b < w.heap.size → P' b) : SlAt r P' w ao xs := by
  intro i hi
  obtain ⟨b, off, cs, e, hp, hr, hR⟩ := h i hi
  exact ⟨b, off, cs, e, hx b hp (rangeAt_lt hr (by rw [r.len hR]; exact hk)), hr, r.mono hR hx⟩
theorem SlAt.nil (P : Nat → Prop) (w : World) (ao : Option Addr) : SlAt r P w ao [] := fun i hi => by cases hi
theorem SlAt.get {P : Nat → Prop} {w : World} {ao : Option Addr} {xs : List α} (h : SlAt r P w ao xs) (i : Nat) (hi : i < xs.length) : ∃ b off cs x, ao = some ⟨b, off, none⟩ ∧ P b ∧ w.rangeAt b (off + i * r.k) cs ∧ r.R P w cs x ∧ Hid (xs[i]? = some x) := by
  obtain ⟨b, off, cs, e, hp, hr, hR⟩ := h i hi
  exact ⟨b, off, cs, xs[i], e, hp, hr, hR, by show _ = _; simp [hi]⟩
theorem Sl.at' {P : Nat → Prop} {w : World} {ao : Option Addr} {n cap : Nat} {xs : List α} (h : Sl r P w (.slice ao n cap) xs) : SlAt r P w ao xs := by
  obtain ⟨ao', cap', e, h⟩ := h
  cases e; exact h
theorem Sl.keep {P : Nat → Prop} {w w' : World} {v : Value} {xs : List α} (h : Sl r P w v xs) (hk : 0 < r.k) (hx : ∀ b, P b → b < w.heap.size → w'.heap[b]? = w.heap[b]?) : Sl r P w' v xs := by
  obtain ⟨ao, cap, e, h⟩ := h
  exact ⟨ao, cap, e, h.keep hk hx⟩
theorem Sl.mono {P P' : Nat → Prop} {w : World} {v : Value} {xs : List α} (h : Sl r P w v xs) (hk : 0 < r.k) (hx : ∀ b, P b → b < w.heap.size → P' b) : Sl r P' w v xs := by
  obtain ⟨ao, cap, e, h⟩ := h
  exact ⟨ao, cap, e, h.mono hk hx⟩
theorem Sl.nil (P : Nat → Prop) (w : World) : Sl r P w (.slice none 0 0) ([] : List α) := ⟨none, 0, rfl, SlAt.nil _ _ _⟩
theorem SlAt.take {P : Nat → Prop} {w : World} {ao : Option Addr} {xs : List α} (h : SlAt r P w ao xs) (n : Nat) : SlAt r P w ao (xs.take n) := by
  intro i hi
  have hi' : i < xs.length := by simp at hi; omega
  obtain ⟨b, off, cs, e, hp, hr, hR⟩ := h i hi'
  exact ⟨b, off, cs, e, hp, hr, by simpa using hR⟩
theorem SlAt.drop {P : Nat → Prop} {w : World} {b off : Nat} {xs : List α} (h : SlAt r P w (some ⟨b, off, none⟩) xs) (n : Nat) : SlAt r P w (some ⟨b, off + n * r.k, none⟩) (xs.drop n) := by
  intro i hi
  have hi' : n + i < xs.length := by simp at hi; omega
  obtain ⟨b', off', cs, e, hp, hr, hR⟩ := h (n + i) hi'
  cases e
  exact ⟨b, _, cs, rfl, hp, by rw [show off + n * r.k + i * r.k = off + (n + i) * r.k by rw [Nat.add_mul]; omega]; exact hr, by simpa using hR⟩

/-- A slice as a value that is held in a cell. -/
def slRep (r : Rep α) (hk : 0 < r.k) : Rep (List α) where
  k := 1
  R := fun P w cs xs => ∃ v, cs = [v] ∧ Sl r P w v xs
  len := fun ⟨v, h, _⟩ => by subst h; rfl
  one := fun ⟨v, h, hs⟩ => by
    subst h; intro u hu; simp at hu; subst hu
    obtain ⟨ao, cap, e, _⟩ := hs
    subst e; rfl
  keep := fun ⟨v, h, hs⟩ hx => ⟨v, h, hs.keep hk hx⟩
  mono := fun ⟨v, h, hs⟩ hx => ⟨v, h, hs.mono hk hx⟩
end
end Go.Proofs.Ytdmchekkcmjafaa
