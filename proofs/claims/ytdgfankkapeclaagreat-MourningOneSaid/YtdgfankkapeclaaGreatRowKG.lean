/- The shelf's word on a row that a sort turns (HoldsK, sortWorldK) in the words of these texts. No statement of the seat. -/
import Derived.Shelf.SlSortCmp.InsertionK
import Derived.Test.YtdgfankkapeclaaGreatMg00
import Derived.Deep.Upon
namespace Go.Proofs.YtdgfankkapeclaaGreat
open Go.RowKit Go.Sort

theorem tape_setCells (g : Nat) : ∀ (vs : List Value) (o : Nat) (w : World), (w.setCells g o vs).tape = w.tape
  | [], _, _ => rfl
  | v :: r, o, w => by rw [World.setCells, tape_setCells g r]; rfl
theorem ex_sortWorldK {α : Type} [Inhabited α] (enc : α → List Value) (k : Nat) (w : World) (g off n : Nat) (d : Array α) (os : Array Obj) : Ex w.heap.size (some g) w (sortWorldK enc k w g off n d os) := by
  unfold sortWorldK
  refine ⟨rfl, rfl, rfl, ?_, fun i hi hne => ?_⟩
  · rw [size_grow]
    unfold putRowK putRow mapBlock Go.Sort.ahead
    simp
  · rw [heap_grow_old _ _ (by unfold putRowK putRow mapBlock Go.Sort.ahead; simpa using hi)]
    unfold putRowK putRow mapBlock Go.Sort.ahead
    simp only [Array.getElem?_modify]
    rw [if_neg (by intro e; exact hne (by rw [e]))]

theorem holdsK_range {α : Type} [Inhabited α] {enc : α → List Value} {k : Nat} {w : World} {g off : Nat} {d : Array α} (hk : ∀ x, (enc x).length = k) (h : HoldsK enc k w g off d) (i : Nat) (hi : i < d.size) : w.rangeAt g (off + i * k) (enc d[i]!) := by
  intro j v hv
  have hj : j < k := by rw [← hk d[i]!]; exact (List.getElem?_eq_some_iff.1 hv).1
  have := (h.cell hi hj).1
  rw [this, getElem!_def, hv]

/-- Two elements exchanged by two runs of stores, behind a draw. -/
theorem swapWorldK {α : Type} [Inhabited α] (enc : α → List Value) (k : Nat) (hk : ∀ x, (enc x).length = k) (w : World) (g off : Nat) (d : Array α) (i j : Nat) (hH : HoldsK enc k w g off d) (hg : g < w.heap.size) (hi : i < d.size) (hj : j < d.size) :
    HoldsK enc k ((w.drew.setCells g (off + i * k) (enc d[j]!)).setCells g (off + j * k) (enc d[i]!)) g off (swp d i j) ∧ Ex w.heap.size (some g) w ((w.drew.setCells g (off + i * k) (enc d[j]!)).setCells g (off + j * k) (enc d[i]!)) := by
  have h0 : w = sortWorldK enc k w g off 0 d #[] := by unfold sortWorldK; rw [grow_empty]; exact (putRowK_self enc k w g off d hH).symm
  have h1 := sortWorldK_swp_c enc k w g off hk 0 d #[] hg i j hi hj
  rw [← h0] at h1
  rw [h1]
  exact ⟨holdsK_sortWorldK_c enc k w g off d _ _ _ hH hg (by rw [size_swp]), ex_sortWorldK enc k w g off _ _ _⟩

theorem holdsK_of {α : Type} [Inhabited α] {enc : α → List Value} {k : Nat} {w : World} {g off : Nat} {d : Array α} (h : ∀ i c, i < d.size → c < k → w.cell? ⟨g, off + i * k + c, none⟩ = some (enc d[i]!)[c]! ∧ w.frozen? ⟨g, off + i * k + c, none⟩ = false) : HoldsK enc k w g off d := fun t ht => by
  have ht' : t < d.size * k := by simpa using ht
  have k0 : 0 < k := by
    rcases Nat.eq_zero_or_pos k with h0 | h0
    · subst h0; simp at ht'
    · exact h0
  have e : t / k * k + t % k = t := Nat.div_add_mod' t k
  have := h (t / k) (t % k) (Nat.div_lt_of_lt_mul (by rw [Nat.mul_comm]; exact ht')) (Nat.mod_lt _ k0)
  rw [Nat.add_assoc, e] at this
  rw [get_flatK _ _ _ t ht']
  exact this
theorem ex_setCells (w : World) (g o : Nat) (vs : List Value) : Ex w.heap.size (some g) w (w.setCells g o vs) := by
  have h := World.keptBut_setCells g (may := fun _ => True) vs o w (fun _ _ => trivial)
  refine ⟨World.os_setCells w g o vs, tape_setCells g vs o w, World.output_setCells w g o vs, by rw [size_setCells]; exact Nat.le_refl _, fun k hk hne => World.heap_setCells_other w g o vs hk (fun e => hne (by rw [e]))⟩
/-- The row's first elements. -/
theorem holdsK_first {α : Type} [Inhabited α] {enc : α → List Value} {k : Nat} {w : World} {g off : Nat} {d d' : Array α} (h : HoldsK enc k w g off d) (hs : d'.size ≤ d.size) (he : ∀ t, t < d'.size → d'[t]! = d[t]!) : HoldsK enc k w g off d' :=
  holdsK_of fun i c hi hc => by rw [he i hi]; exact HoldsK.cell h (by omega) hc
/-- One element is laid anew. -/
theorem holdsK_set {α : Type} [Inhabited α] {enc : α → List Value} {k : Nat} (hk : ∀ x, (enc x).length = k) {w : World} {g off : Nat} {d : Array α} (h : HoldsK enc k w g off d) (i : Nat) (x : α) (hi : i < d.size) : HoldsK enc k (w.setCells g (off + i * k) (enc x)) g off (d.setIfInBounds i x) :=
  holdsK_of fun j c hj hc => by
    have hj' : j < d.size := by simpa using hj
    rw [World.frozen?_setCells]
    refine ⟨?_, (HoldsK.cell h hj' hc).2⟩
    by_cases e : j = i
    · subst e
      rw [World.cell?_setCells_in g (enc x) (off + j * k) w (fun c hc => by rw [hk] at hc; rw [(HoldsK.cell h hj' hc).1]; rfl) c (by rw [hk]; exact hc)]
      rw [getElem!_pos (d.setIfInBounds j x) j hj, Array.getElem_setIfInBounds, if_pos rfl, getElem!_pos (enc x) c (by rw [hk]; exact hc)]
      exact hj'
    · rw [World.cell?_setCells_out g (enc x) (off + i * k) w _ (fun _ _ => by
        rw [hk]
        show off + j * k + c < off + i * k ∨ off + i * k + k ≤ off + j * k + c
        rcases Nat.lt_or_gt_of_ne e with h' | h'
        · have := Nat.mul_le_mul_right k (show j + 1 ≤ i by omega); rw [Nat.add_mul, Nat.one_mul] at this; omega
        · have := Nat.mul_le_mul_right k (show i + 1 ≤ j by omega); rw [Nat.add_mul, Nat.one_mul] at this; omega), (HoldsK.cell h hj' hc).1]
      rw [getElem!_pos (d.setIfInBounds i x) j hj, Array.getElem_setIfInBounds, if_neg (Ne.symm e), getElem!_pos d j hj']
/-- Stores behind the row. -/
theorem holdsK_behind {α : Type} [Inhabited α] {enc : α → List Value} {k : Nat} {w : World} {g off : Nat} {d : Array α} (h : HoldsK enc k w g off d) (s : Nat) (vs : List Value) (hs : d.size * k ≤ s) : HoldsK enc k (w.setCells g (off + s) vs) g off d :=
  holdsK_of fun i c hi hc => by
    rw [World.frozen?_setCells]
    refine ⟨?_, (HoldsK.cell h hi hc).2⟩
    rw [World.cell?_setCells_out g vs (off + s) w _ (fun _ _ => Or.inl (by
      show off + i * k + c < off + s
      have := Nat.mul_le_mul_right k (show i + 1 ≤ d.size from hi); rw [Nat.add_mul, Nat.one_mul] at this; omega)), (HoldsK.cell h hi hc).1]
theorem holdsK_ex {α : Type} [Inhabited α] {enc : α → List Value} {k : Nat} {w w' : World} {g off : Nat} {d : Array α} (h : HoldsK enc k w g off d) (he : w'.heap[g]? = w.heap[g]?) : HoldsK enc k w' g off d := fun t ht => by
  have := h t ht
  simpa [World.cell?, World.frozen?, he] using this
end Go.Proofs.YtdgfankkapeclaaGreat
