/- The insertion sort of the library keeps the order of equals: a plain law on the kit's own word 'Sort.insertionSort'. No program in sight. -/
import Derived.Sort.LotA
namespace Go.Proofs.Ytdmchekkcmjafaa
open Go.Sort

variable {α : Type} [Inhabited α]

/-- A kind of elements of which none is less than another one. -/
def Kind (lt : α → α → Bool) (p : α → Bool) : Prop := ∀ x y, p x = true → p y = true → lt x y = false

theorem toList_split2 (d : Array α) (j : Nat) (h : j + 1 < d.size) : d.toList = d.toList.take j ++ d[j]! :: d[j + 1]! :: d.toList.drop (j + 2) := by
  rw [getElem!_pos d j (by omega), getElem!_pos d (j + 1) h]
  have h1 : d.toList.drop j = d[j] :: d.toList.drop (j + 1) := by rw [List.drop_eq_getElem_cons (by simpa using (by omega : j < d.size))]; simp
  have h2 : d.toList.drop (j + 1) = d[j + 1] :: d.toList.drop (j + 2) := by rw [List.drop_eq_getElem_cons (by simpa using h)]; simp
  rw [← h2, ← h1, List.take_append_drop]
theorem swp_adj (d : Array α) (j : Nat) (h : j + 1 < d.size) : (swp d (j + 1) j).toList = d.toList.take j ++ d[j + 1]! :: d[j]! :: d.toList.drop (j + 2) := by
  apply List.ext_getElem?
  intro i
  unfold swp
  have e1 : d[j]! = d[j] := getElem!_pos d j (by omega)
  have e2 : d[j + 1]! = d[j + 1] := getElem!_pos d (j + 1) h
  rw [e1, e2]
  simp only [Array.getElem?_toList, Array.getElem?_setIfInBounds, Array.size_setIfInBounds]
  rcases Nat.lt_trichotomy i j with hi | hi | hi
  · rw [if_neg (by omega), if_neg (by omega), List.getElem?_append_left (by simp; omega)]
    simp [hi]
  · subst hi
    rw [if_pos rfl, if_pos (by omega), List.getElem?_append_right (by simp; omega)]
    simp [show min i d.size = i by omega]
  · by_cases hi2 : i = j + 1
    · subst hi2
      rw [if_neg (by omega), if_pos rfl, if_pos h, List.getElem?_append_right (by simp; omega)]
      simp [show j + 1 - min j d.size = 1 by omega]
    · rw [if_neg (by omega), if_neg (by omega), List.getElem?_append_right (by simp; omega)]
      obtain ⟨n, rfl⟩ : ∃ n, i = j + 2 + n := ⟨i - (j + 2), by omega⟩
      simp [show j + 2 + n - min j d.size = n + 2 by omega]
theorem swp_filter {lt : α → α → Bool} {p : α → Bool} (hp : Kind lt p) (d : Array α) (j : Nat) (h : j + 1 < d.size) (hl : lt d[j + 1]! d[j]! = true) : (swp d (j + 1) j).toList.filter p = d.toList.filter p := by
  have e : d.toList.filter p = (d.toList.take j ++ d[j]! :: d[j + 1]! :: d.toList.drop (j + 2)).filter p := congrArg (List.filter p) (toList_split2 d j h)
  rw [swp_adj d j h, e]
  simp only [List.filter_append, List.filter_cons]
  by_cases h1 : p d[j + 1]! = true
  · by_cases h2 : p d[j]! = true
    · rw [hp _ _ h1 h2] at hl; cases hl
    · rw [if_neg h2]
      simp [h2]
  · simp [h1]
theorem insInner_filter {lt : α → α → Bool} {p : α → Bool} (hp : Kind lt p) (a : Nat) : ∀ (j : Nat) (d : Array α), j < d.size → (insInner lt a j d).toList.filter p = d.toList.filter p ∧ (insInner lt a j d).size = d.size
  | 0, d, _ => ⟨rfl, rfl⟩
  | j + 1, d, hj => by
    unfold insInner
    split
    · rename_i hc
      simp only [Bool.and_eq_true, decide_eq_true_eq] at hc
      have hs : (swp d (j + 1) j).size = d.size := swp_size d (j + 1) j
      obtain ⟨h1, h2⟩ := insInner_filter hp a j (swp d (j + 1) j) (by rw [hs]; omega)
      exact ⟨h1.trans (swp_filter hp d j hj hc.2), h2.trans hs⟩
    · exact ⟨rfl, rfl⟩
theorem insOuter_filter {lt : α → α → Bool} {p : α → Bool} (hp : Kind lt p) (a b : Nat) : ∀ (n i : Nat) (d : Array α), b - i = n → b ≤ d.size → (insOuter lt a b i d).toList.filter p = d.toList.filter p
  | 0, i, d, hn, hb => by rw [insOuter, if_neg (by omega)]
  | n + 1, i, d, hn, hb => by
    rw [insOuter, if_pos (by omega)]
    obtain ⟨h1, h2⟩ := insInner_filter hp a i d (by omega)
    exact (insOuter_filter hp a b n (i + 1) _ (by omega) (by omega)).trans h1
theorem insertionSort_filter {lt : α → α → Bool} {p : α → Bool} (hp : Kind lt p) (d : Array α) (a b : Nat) (hb : b ≤ d.size) : (insertionSort lt d a b).toList.filter p = d.toList.filter p := insOuter_filter hp a b _ _ d rfl hb
end Go.Proofs.Ytdmchekkcmjafaa
