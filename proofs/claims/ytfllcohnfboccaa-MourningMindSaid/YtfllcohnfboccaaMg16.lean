/- Runs of a row in blocks, as the library's stable sort makes them longer: plain laws. No program in sight. | What the library's CompactFunc leaves of a row: plain laws. No program in sight. -/
import Derived.Test.YtfllcohnfboccaaSymG
import Derived.Sort.LotA
namespace Go.Proofs.Ytfllcohnfboccaa
open Go.Sort
variable {α : Type} [Inhabited α]

theorem ins_sm {lt : α → α → Bool} (hS : SWO lt) (d : Array α) (a b : Nat) (hab : a ≤ b) (hb : b ≤ d.size) : SM lt a b d (insertionSort lt d a b) ∧ SortedIn lt a b (insertionSort lt d a b) := by
  obtain ⟨h1, h2⟩ := insertionSort_holds hS d a b hab hb
  have h3 : PermIn 0 d.size d (insertionSort lt d a b) := permIn_mono d _ a b 0 d.size (Nat.zero_le _) hb (Nat.le_refl _) h1
  refine ⟨⟨h1.1, h1.2.1, fun i i1 i2 => ?_, ?_, fun p hp => insertionSort_filter hp d a b hb⟩, h2⟩
  · exact permIn_all d _ a b (fun x => ∃ j, a ≤ j ∧ j < b ∧ x = d[j]!) hb h1 (fun i i1 i2 => ⟨i, i1, i2, rfl⟩) i i1 i2
  · have := h3.2.2
    rwa [Array.extract_eq_self_of_le (by rw [h1.1]; exact Nat.le_refl _), Array.extract_eq_self_of_le (Nat.le_refl _)] at this

/-- All blocks of s places are ascending. -/
def Runs (lt : α → α → Bool) (s n : Nat) (d : Array α) : Prop := ∀ j, SortedIn lt (j * s) (min (j * s + s) n) d
/-- Blocks of 2 s places below a are ascending, and those of s from a on; a = 2 s k. -/
structure Mid (lt : α → α → Bool) (s n k a : Nat) (d : Array α) : Prop where
  at_ : a = k * (2 * s)
  low : ∀ j, j < k → SortedIn lt (j * (2 * s)) (j * (2 * s) + 2 * s) d
  high : ∀ j, 2 * k ≤ j → SortedIn lt (j * s) (min (j * s + s) n) d

theorem sorted_sub {lt : α → α → Bool} {a b a' b' : Nat} {d : Array α} (h : SortedIn lt a b d) (ha : a ≤ a') (hb : b' ≤ b) : SortedIn lt a' b' d := fun i j h1 h2 h3 => h i j (by omega) h2 (by omega)
theorem sorted_far {lt : α → α → Bool} {a b x y : Nat} {d d' : Array α} (h : SM lt a b d d') (hb : y ≤ a ∨ b ≤ x) (r : SortedIn lt x y d) : SortedIn lt x y d' := fun i j h1 h2 h3 => by
  rw [h.out i (by omega), h.out j (by omega)]; exact r i j h1 h2 h3

theorem mul_facts (k s : Nat) : (2 * k) * s = k * (2 * s) ∧ (2 * k + 1) * s = k * (2 * s) + s ∧ (k + 1) * (2 * s) = k * (2 * s) + 2 * s := by
  refine ⟨by rw [Nat.mul_comm 2 k, Nat.mul_assoc], by rw [Nat.add_mul, Nat.mul_comm 2 k, Nat.mul_assoc, Nat.one_mul], by rw [Nat.add_mul, Nat.one_mul]⟩
theorem Mid.start {lt : α → α → Bool} {s n : Nat} {d : Array α} (h : Runs lt s n d) : Mid lt s n 0 0 d := ⟨by simp, fun j hj => by omega, fun j _ => h j⟩
theorem Mid.first {lt : α → α → Bool} {s n k a : Nat} {d : Array α} (h : Mid lt s n k a d) : SortedIn lt a (min (a + s) n) d := by
  have := h.high (2 * k) (Nat.le_refl _)
  rwa [(mul_facts k s).1, ← h.at_] at this
theorem Mid.second {lt : α → α → Bool} {s n k a : Nat} {d : Array α} (h : Mid lt s n k a d) : SortedIn lt (a + s) (min (a + s + s) n) d := by
  have := h.high (2 * k + 1) (by omega)
  rwa [(mul_facts k s).2.1, ← h.at_] at this
theorem Mid.step {lt : α → α → Bool} {s n k a : Nat} {d d' : Array α} (h : Mid lt s n k a d) (hs : SM lt a (a + 2 * s) d d') (hr : SortedIn lt a (a + 2 * s) d') : Mid lt s n (k + 1) (a + 2 * s) d' := by
  have hm := mul_facts k s
  have ha := h.at_
  refine ⟨by rw [hm.2.2, ← ha], fun j hj => ?_, fun j hj => ?_⟩
  · by_cases e : j = k
    · subst e; rw [← ha]; exact hr
    · refine sorted_far hs (Or.inl ?_) (h.low j (by omega))
      have := Nat.mul_le_mul_right (2 * s) (show j + 1 ≤ k by omega)
      rw [Nat.add_mul, Nat.one_mul] at this
      omega
  · refine sorted_far hs (Or.inr ?_) (h.high j (by omega))
    have := Nat.mul_le_mul_right s (show 2 * (k + 1) ≤ j by omega)
    rw [(mul_facts (k + 1) s).1, hm.2.2] at this
    omega
/-- The last pair: what is left behind a is ascending. -/
theorem Mid.close {lt : α → α → Bool} {s n k a : Nat} {d d' : Array α} (h : Mid lt s n k a d) (hn : n < a + 2 * s) (hs : SM lt a n d d') (hr : SortedIn lt a n d') : Runs lt (2 * s) n d' := fun j => by
  have ha := h.at_
  by_cases e : j < k
  · refine sorted_far hs (Or.inl ?_) (sorted_sub (h.low j e) (Nat.le_refl _) (by omega))
    have := Nat.mul_le_mul_right (2 * s) (show j + 1 ≤ k by omega)
    rw [Nat.add_mul, Nat.one_mul] at this
    omega
  · by_cases e2 : j = k
    · subst e2; rw [← ha]; exact sorted_sub hr (Nat.le_refl _) (by omega)
    · intro i1 i2 x1 x2 x3
      have := Nat.mul_le_mul_right (2 * s) (show k + 1 ≤ j by omega)
      rw [(mul_facts k s).2.2] at this
      omega
theorem Runs.whole {lt : α → α → Bool} {s n : Nat} {d : Array α} (h : Runs lt s n d) (hn : n ≤ s) : SortedIn lt 0 n d := by
  have := h 0
  rwa [Nat.zero_mul, Nat.zero_add, Nat.min_eq_right hn] at this
/-- The first blocks, of s places each. -/
structure Head (lt : α → α → Bool) (s k a : Nat) (d : Array α) : Prop where
  at_ : a = k * s
  low : ∀ j, j < k → SortedIn lt (j * s) (j * s + s) d
theorem Head.start (lt : α → α → Bool) (s : Nat) (d : Array α) : Head lt s 0 0 d := ⟨by simp, fun j hj => by omega⟩
theorem Head.step {lt : α → α → Bool} {s k a : Nat} {d d' : Array α} (h : Head lt s k a d) (hs : SM lt a (a + s) d d') (hr : SortedIn lt a (a + s) d') : Head lt s (k + 1) (a + s) d' := by
  have ha := h.at_
  refine ⟨by rw [Nat.add_mul, Nat.one_mul, ← ha], fun j hj => ?_⟩
  by_cases e : j = k
  · subst e; rw [← ha]; exact hr
  · refine sorted_far hs (Or.inl ?_) (h.low j (by omega))
    have := Nat.mul_le_mul_right s (show j + 1 ≤ k by omega)
    rw [Nat.add_mul, Nat.one_mul] at this
    omega
theorem Head.close {lt : α → α → Bool} {s n k a : Nat} {d d' : Array α} (h : Head lt s k a d) (hn : n < a + s) (hs : SM lt a n d d') (hr : SortedIn lt a n d') : Runs lt s n d' := fun j => by
  have ha := h.at_
  by_cases e : j < k
  · refine sorted_far hs (Or.inl ?_) (sorted_sub (h.low j e) (Nat.le_refl _) (by omega))
    have := Nat.mul_le_mul_right s (show j + 1 ≤ k by omega)
    rw [Nat.add_mul, Nat.one_mul] at this
    omega
  · by_cases e2 : j = k
    · subst e2; rw [← ha]; exact sorted_sub hr (Nat.le_refl _) (by omega)
    · intro i1 i2 x1 x2 x3
      have := Nat.mul_le_mul_right s (show k + 1 ≤ j by omega)
      rw [Nat.add_mul, Nat.one_mul] at this
      omega

/-- d' is d, sorted, with the order of equals kept. -/
def Stab (lt : α → α → Bool) (d d' : Array α) : Prop :=
  d'.size = d.size ∧ SortedIn lt 0 d.size d' ∧ d'.toList.Perm d.toList ∧ ∀ p, Kind lt p → d'.toList.filter p = d.toList.filter p
end Go.Proofs.Ytfllcohnfboccaa

namespace Go.Proofs.Ytfllcohnfboccaa
open Go.Sort
variable {α : Type} [Inhabited α]

/-- Element j stays: the first one, and each one that is not eq to the one before. -/
def stays (eq : α → α → Bool) (d : Array α) (j : Nat) : Bool := decide (j = 0) || !eq d[j]! d[j - 1]!
/-- What stays of the first n elements. -/
def cpt (eq : α → α → Bool) (d : Array α) : Nat → List α
  | 0 => []
  | n + 1 => if stays eq d n = true then cpt eq d n ++ [d[n]!] else cpt eq d n
theorem cpt_le (eq : α → α → Bool) (d : Array α) (n : Nat) : (cpt eq d n).length ≤ n := by
  induction n with
  | zero => simp [cpt]
  | succ n ih => rw [cpt]; split
                 · simp; omega
                 · omega
theorem cpt_yes {eq : α → α → Bool} {d : Array α} {n : Nat} (h : stays eq d n = true) : cpt eq d (n + 1) = cpt eq d n ++ [d[n]!] := by rw [cpt, if_pos h]
theorem cpt_no {eq : α → α → Bool} {d : Array α} {n : Nat} (h : stays eq d n = false) : cpt eq d (n + 1) = cpt eq d n := by rw [cpt, if_neg (by simp [h])]
theorem stays_of {eq : α → α → Bool} {d : Array α} {n : Nat} (h0 : 0 < n) (b : Bool) (h : eq d[n]! d[n - 1]! = b) : stays eq d n = !b := by
  unfold stays
  rw [h, decide_eq_false (by omega)]; rfl
theorem cpt_all {eq : α → α → Bool} {d : Array α} {n : Nat} (h : ∀ j, j < n → stays eq d j = true) (hn : n ≤ d.size) : cpt eq d n = d.toList.take n := by
  induction n with
  | zero => simp [cpt]
  | succ n ih =>
    rw [cpt_yes (h n (by omega)), ih (fun j hj => h j (by omega)) (by omega), List.take_add_one]
    congr 1
    rw [getElem!_pos d n (by omega)]
    simp [show n < d.size by omega]
/-- The inner loop: m elements are done, the row begins with what stays of them, and from m - 1 on it is as it was. -/
structure CInv (eq : α → α → Bool) (d : Array α) (m kk : Nat) (dk : Array α) : Prop where
  len : (cpt eq d m).length = kk
  lt : kk < m
  size : dk.size = d.size
  done : ∀ t, t < kk → dk[t]! = (cpt eq d m)[t]!
  rest : ∀ t, m - 1 ≤ t → dk[t]! = d[t]!
theorem CInv.start {eq : α → α → Bool} {d : Array α} {k : Nat} (h : ∀ j, j < k → stays eq d j = true) (hk : stays eq d k = false) (hs : k < d.size) : CInv eq d (k + 1) k d := by
  have e : cpt eq d (k + 1) = d.toList.take k := by rw [cpt_no hk, cpt_all h (by omega)]
  refine ⟨by rw [e]; simp; omega, by omega, rfl, fun t ht => ?_, fun _ _ => rfl⟩
  rw [e, getElem!_pos d t (by omega), getElem!_pos (d.toList.take k) t (by simp; omega)]
  simp
theorem CInv.skip {eq : α → α → Bool} {d dk : Array α} {m kk : Nat} (h : CInv eq d m kk dk) (hs : stays eq d m = false) : CInv eq d (m + 1) kk dk := by
  refine ⟨by rw [cpt_no hs]; exact h.len, by have := h.lt; omega, h.size, fun t ht => by rw [cpt_no hs]; exact h.done t ht, fun t ht => h.rest t (by omega)⟩
theorem CInv.keep {eq : α → α → Bool} {d dk : Array α} {m kk : Nat} (h : CInv eq d m kk dk) (hs : stays eq d m = true) (hm : m < d.size) : CInv eq d (m + 1) (kk + 1) (dk.setIfInBounds kk d[m]!) := by
  have hlt := h.lt
  have hsz := h.size
  have hl := h.len
  refine ⟨by rw [cpt_yes hs, List.length_append, hl]; rfl, by omega, by simp [hsz], fun t ht => ?_, fun t ht => ?_⟩
  · rw [cpt_yes hs, getElem!_pos (dk.setIfInBounds kk d[m]!) t (by simp; omega), Array.getElem_setIfInBounds, getElem!_pos (cpt eq d m ++ [d[m]!]) t (by simp; omega)]
    · split
      · rename_i e
        subst e
        rw [List.getElem_append_right (by omega)]
        simp [hl]
      · rw [List.getElem_append_left (by omega), ← getElem!_pos dk t (by omega), ← getElem!_pos (cpt eq d m) t (by omega)]
        exact h.done t (by omega)
    · omega
  · by_cases c : t < d.size
    · have e : (dk.setIfInBounds kk d[m]!)[t]! = dk[t]! := by
        rw [getElem!_pos (dk.setIfInBounds kk d[m]!) t (by simp; omega), Array.getElem_setIfInBounds, if_neg (by omega), ← getElem!_pos dk t (by omega)]
        omega
      rw [e]; exact h.rest t (by omega)
    · rw [getElem!_neg (dk.setIfInBounds kk d[m]!) t (by simp; omega), getElem!_neg d t c]
/-- The row's head holds what stays. -/
theorem CInv.head {eq : α → α → Bool} {d dk : Array α} {m kk : Nat} (h : CInv eq d m kk dk) (hm : m ≤ d.size) : (cpt eq d m).toArray.size ≤ dk.size ∧ ∀ t, t < (cpt eq d m).toArray.size → (cpt eq d m).toArray[t]! = dk[t]! := by
  have hl := h.len
  have hlt := h.lt
  have hs := h.size
  refine ⟨by simp [hl]; omega, fun t ht => ?_⟩
  rw [h.done t (by simpa [hl] using ht)]
  simp
end Go.Proofs.Ytfllcohnfboccaa
