/- Runs of a row in blocks, as the library's stable sort makes them longer: plain laws. No program in sight. -/
import Derived.Test.YtfllcohnfboccaaGreatSymG
import Derived.Sort.LotA
namespace Go.Proofs.YtfllcohnfboccaaGreat
open Go.Sort
variable {α : Type} [Inhabited α]

theorem ins_sm {lt : α → α → Bool} (hS : SWO lt) (d : Array α) (a b : Nat) (hab : a ≤ b) (hb : b ≤ d.size) : SM lt a b d (insertionSort lt d a b) ∧ SortedIn lt a b (insertionSort lt d a b) := by
  obtain ⟨h1, h2⟩ := insertionSort_holds hS d a b hab hb
  have h3 : PermIn 0 d.size d (insertionSort lt d a b) := permIn_mono d _ a b 0 d.size (Nat.zero_le _) hb (Nat.le_refl _) h1
  refine ⟨⟨h1.1, h1.2.1, fun i i1 i2 => ?_, ?_, fun p hp => insertionSort_filter hp d a b hb⟩, h2⟩
  · exact permIn_all d _ a b (fun x => ∃ j, a ≤ j ∧ j < b ∧ x = d[j]!) hb h1 (fun i i1 i2 => ⟨i, i1, i2, rfl⟩) i i1 i2
  · have := h3.2.2
    rwa [Array.extract_eq_self_of_le (by rw [h1.1]; exact Nat.le_refl _), Array.extract_eq_self_of_le (Nat.le_refl _)] at this

/-- All blocks of s places are ascending. -/
def Runs (lt : α → α → Bool) (s n : Nat) (d : Array α) : Prop := ∀ j, SortedIn lt (j * s) (min (j * s + s) n) d
/-- Blocks of 2 s places below a are ascending, and those of s from a on; a = 2 s k. -/
structure Mid (lt : α → α → Bool) (s n k a : Nat) (d : Array α) : Prop where
  at_ : a = k * (2 * s)
  low : ∀ j, j < k → SortedIn lt (j * (2 * s)) (j * (2 * s) + 2 * s) d
  high : ∀ j, 2 * k ≤ j → SortedIn lt (j * s) (min (j * s + s) n) d

theorem sorted_sub {lt : α → α → Bool} {a b a' b' : Nat} {d : Array α} (h : SortedIn lt a b d) (ha : a ≤ a') (hb : b' ≤ b) : SortedIn lt a' b' d := fun i j h1 h2 h3 => h i j (by omega) h2 (by omega)
theorem sorted_far {lt : α → α → Bool} {a b x y : Nat} {d d' : Array α} (h : SM lt a b d d') (hb : y ≤ a ∨ b ≤ x) (r : SortedIn lt x y d) : SortedIn lt x y d' := fun i j h1 h2 h3 => by
  rw [h.out i (by omega), h.out j (by omega)]; exact r i j h1 h2 h3

theorem mul_facts (k s : Nat) : (2 * k) * s = k * (2 * s) ∧ (2 * k + 1) * s = k * (2 * s) + s ∧ (k + 1) * (2 * s) = k * (2 * s) + 2 * s := by
  refine ⟨by rw [Nat.mul_comm 2 k, Nat.mul_assoc], by rw [Nat.add_mul, Nat.mul_comm 2 k, Nat.mul_assoc, Nat.one_mul], by rw [Nat.add_mul, Nat.one_mul]⟩
theorem Mid.start {lt : α → α → Bool} {s n : Nat} {d : Array α} (h : Runs lt s n d) : Mid lt s n 0 0 d := ⟨by simp, fun j hj => by omega, fun j _ => h j⟩
theorem Mid.first {lt : α → α → Bool} {s n k a : Nat} {d : Array α} (h : Mid lt s n k a d) : SortedIn lt a (min (a + s) n) d := by
  have := h.high (2 * k) (Nat.le_refl _)
  rwa [(mul_facts k s).1, ← h.at_] at this
theorem Mid.second {lt : α → α → Bool} {s n k a : Nat} {d : Array α} (h : Mid lt s n k a d) : SortedIn lt (a + s) (min (a + s + s) n) d := by
  have := h.high (2 * k + 1) (by omega)
  rwa [(mul_facts k s).2.1, ← h.at_] at this
theorem Mid.step {lt : α → α → Bool} {s n k a : Nat} {d d' : Array α} (h : Mid lt s n k a d) (hs : SM lt a (a + 2 * s) d d') (hr : SortedIn lt a (a + 2 * s) d') : Mid lt s n (k + 1) (a + 2 * s) d' := by
  have hm := mul_facts k s
  have ha := h.at_
  refine ⟨by rw [hm.2.2, ← ha], fun j hj => ?_, fun j hj => ?_⟩
  · by_cases e : j = k
    · subst e; rw [← ha]; exact hr
    · refine sorted_far hs (Or.inl ?_) (h.low j (by omega))
      have := Nat.mul_le_mul_right (2 * s) (show j + 1 ≤ k by omega)
      rw [Nat.add_mul, Nat.one_mul] at this
      omega
  · refine sorted_far hs (Or.inr ?_) (h.high j (by omega))
    have := Nat.mul_le_mul_right s (show 2 * (k + 1) ≤ j by omega)
    rw [(mul_facts (k + 1) s).1, hm.2.2] at this
    omega
/-- The last pair: what is left behind a is ascending. -/
theorem Mid.close {lt : α → α → Bool} {s n k a : Nat} {d d' : Array α} (h : Mid lt s n k a d) (hn : n < a + 2 * s) (hs : SM lt a n d d') (hr : SortedIn lt a n d') : Runs lt (2 * s) n d' := fun j => by
  have ha := h.at_
  by_cases e : j < k
  · refine sorted_far hs (Or.inl ?_) (sorted_sub (h.low j e) (Nat.le_refl _) (by omega))
    have := Nat.mul_le_mul_right (2 * s) (show j + 1 ≤ k by omega)
    rw [Nat.add_mul, Nat.one_mul] at this
    omega
  · by_cases e2 : j = k
    · subst e2; rw [← ha]; exact sorted_sub hr (Nat.le_refl _) (by omega)
    · intro i1 i2 x1 x2 x3
      have := Nat.mul_le_mul_right (2 * s) (show k + 1 ≤ j by omega)
      rw [(mul_facts k s).2.2] at this
      omega
theorem Runs.whole {lt : α → α → Bool} {s n : Nat} {d : Array α} (h : Runs lt s n d) (hn : n ≤ s) : SortedIn lt 0 n d := by
  have := h 0
  rwa [Nat.zero_mul, Nat.zero_add, Nat.min_eq_right hn] at this
/-- The first blocks, of s places each. -/
structure Head (lt : α → α → Bool) (s k a : Nat) (d : Array α) : Prop where
  at_ : a = k * s
  low : ∀ j, j < k → SortedIn lt (j * s) (j * s + s) d
theorem Head.start (lt : α → α → Bool) (s : Nat) (d : Array α) : Head lt s 0 0 d := ⟨by simp, fun j hj => by omega⟩
theorem Head.step {lt : α → α → Bool} {s k a : Nat} {d d' : Array α} (h : Head lt s k a d) (hs : SM lt a (a + s) d d') (hr : SortedIn lt a (a + s) d') : Head lt s (k + 1) (a + s) d' := by
  have ha := h.at_
  refine ⟨by rw [Nat.add_mul, Nat.one_mul, ← ha], fun j hj => ?_⟩
  by_cases e : j = k
  · subst e; rw [← ha]; exact hr
  · refine sorted_far hs (Or.inl ?_) (h.low j (by omega))
    have := Nat.mul_le_mul_right s (show j + 1 ≤ k by omega)
    rw [Nat.add_mul, Nat.one_mul] at this
    omega
theorem Head.close {lt : α → α → Bool} {s n k a : Nat} {d d' : Array α} (h : Head lt s k a d) (hn : n < a + s) (hs : SM lt a n d d') (hr : SortedIn lt a n d') : Runs lt s n d' := fun j => by
  have ha := h.at_
  by_cases e : j < k
  · refine sorted_far hs (Or.inl ?_) (sorted_sub (h.low j e) (Nat.le_refl _) (by omega))
    have := Nat.mul_le_mul_right s (show j + 1 ≤ k by omega)
    rw [Nat.add_mul, Nat.one_mul] at this
    omega
  · by_cases e2 : j = k
    · subst e2; rw [← ha]; exact sorted_sub hr (Nat.le_refl _) (by omega)
    · intro i1 i2 x1 x2 x3
      have := Nat.mul_le_mul_right s (show k + 1 ≤ j by omega)
      rw [Nat.add_mul, Nat.one_mul] at this
      omega

/-- d' is d, sorted, with the order of equals kept. -/
def Stab (lt : α → α → Bool) (d d' : Array α) : Prop :=
  d'.size = d.size ∧ SortedIn lt 0 d.size d' ∧ d'.toList.Perm d.toList ∧ ∀ p, Kind lt p → d'.toList.filter p = d.toList.filter p
end Go.Proofs.YtfllcohnfboccaaGreat
