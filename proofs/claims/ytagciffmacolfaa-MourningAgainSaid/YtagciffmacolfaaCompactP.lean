/- What the library's CompactFunc leaves of a row: plain laws. No program in sight. -/
import Derived.Test.YtagciffmacolfaaSym
namespace Go.Proofs.Ytagciffmacolfaa
open Go.Sort
variable {α : Type} [Inhabited α]

/-- Element j stays: the first one, and each one that is not eq to the one before. -/
def stays (eq : α → α → Bool) (d : Array α) (j : Nat) : Bool := decide (j = 0) || !eq d[j]! d[j - 1]!
/-- What stays of the first n elements. -/
def cpt (eq : α → α → Bool) (d : Array α) : Nat → List α
  | 0 => []
  | n + 1 => if stays eq d n = true then cpt eq d n ++ [d[n]!] else cpt eq d n
theorem cpt_le (eq : α → α → Bool) (d : Array α) (n : Nat) : (cpt eq d n).length ≤ n := by
  induction n with
  | zero => simp [cpt]
  | succ n ih => rw [cpt]; split
                 · simp; omega
                 · omega
theorem cpt_yes {eq : α → α → Bool} {d : Array α} {n : Nat} (h : stays eq d n = true) : cpt eq d (n + 1) = cpt eq d n ++ [d[n]!] := by rw [cpt, if_pos h]
theorem cpt_no {eq : α → α → Bool} {d : Array α} {n : Nat} (h : stays eq d n = false) : cpt eq d (n + 1) = cpt eq d n := by rw [cpt, if_neg (by simp [h])]
theorem stays_of {eq : α → α → Bool} {d : Array α} {n : Nat} (h0 : 0 < n) (b : Bool) (h : eq d[n]! d[n - 1]! = b) : stays eq d n = !b := by
  unfold stays
  rw [h, decide_eq_false (by omega)]; rfl
theorem cpt_all {eq : α → α → Bool} {d : Array α} {n : Nat} (h : ∀ j, j < n → stays eq d j = true) (hn : n ≤ d.size) : cpt eq d n = d.toList.take n := by
  induction n with
  | zero => simp [cpt]
  | succ n ih =>
    rw [cpt_yes (h n (by omega)), ih (fun j hj => h j (by omega)) (by omega), List.take_add_one]
    congr 1
    rw [getElem!_pos d n (by omega)]
    simp [show n < d.size by omega]
/-- The inner loop: m elements are done, the row begins with what stays of them, and from m - 1 on it is as it was. -/
structure CInv (eq : α → α → Bool) (d : Array α) (m kk : Nat) (dk : Array α) : Prop where
  len : (cpt eq d m).length = kk
  lt : kk < m
  size : dk.size = d.size
  done : ∀ t, t < kk → dk[t]! = (cpt eq d m)[t]!
  rest : ∀ t, m - 1 ≤ t → dk[t]! = d[t]!
theorem CInv.start {eq : α → α → Bool} {d : Array α} {k : Nat} (h : ∀ j, j < k → stays eq d j = true) (hk : stays eq d k = false) (hs : k < d.size) : CInv eq d (k + 1) k d := by
  have e : cpt eq d (k + 1) = d.toList.take k := by rw [cpt_no hk, cpt_all h (by omega)]
  refine ⟨by rw [e]; simp; omega, by omega, rfl, fun t ht => ?_, fun _ _ => rfl⟩
  rw [e, getElem!_pos d t (by omega), getElem!_pos (d.toList.take k) t (by simp; omega)]
  simp
theorem CInv.skip {eq : α → α → Bool} {d dk : Array α} {m kk : Nat} (h : CInv eq d m kk dk) (hs : stays eq d m = false) : CInv eq d (m + 1) kk dk := by
  refine ⟨by rw [cpt_no hs]; exact h.len, by have := h.lt; omega, h.size, fun t ht => by rw [cpt_no hs]; exact h.done t ht, fun t ht => h.rest t (by omega)⟩
theorem CInv.keep {eq : α → α → Bool} {d dk : Array α} {m kk : Nat} (h : CInv eq d m kk dk) (hs : stays eq d m = true) (hm : m < d.size) : CInv eq d (m + 1) (kk + 1) (dk.setIfInBounds kk d[m]!) := by
  have hlt := h.lt
  have hsz := h.size
  have hl := h.len
  refine ⟨by rw [cpt_yes hs, List.length_append, hl]; rfl, by omega, by simp [hsz], fun t ht => ?_, fun t ht => ?_⟩
  · rw [cpt_yes hs, getElem!_pos (dk.setIfInBounds kk d[m]!) t (by simp; omega), Array.getElem_setIfInBounds, getElem!_pos (cpt eq d m ++ [d[m]!]) t (by simp; omega)]
    · split
      · rename_i e
        subst e
        rw [List.getElem_append_right (by omega)]
        simp [hl]
      · rw [List.getElem_append_left (by omega), ← getElem!_pos dk t (by omega), ← getElem!_pos (cpt eq d m) t (by omega)]
        exact h.done t (by omega)
    · omega
  · by_cases c : t < d.size
    · have e : (dk.setIfInBounds kk d[m]!)[t]! = dk[t]! := by
        rw [getElem!_pos (dk.setIfInBounds kk d[m]!) t (by simp; omega), Array.getElem_setIfInBounds, if_neg (by omega), ← getElem!_pos dk t (by omega)]
        omega
      rw [e]; exact h.rest t (by omega)
    · rw [getElem!_neg (dk.setIfInBounds kk d[m]!) t (by simp; omega), getElem!_neg d t c]
/-- The row's head holds what stays. -/
theorem CInv.head {eq : α → α → Bool} {d dk : Array α} {m kk : Nat} (h : CInv eq d m kk dk) (hm : m ≤ d.size) : (cpt eq d m).toArray.size ≤ dk.size ∧ ∀ t, t < (cpt eq d m).toArray.size → (cpt eq d m).toArray[t]! = dk[t]! := by
  have hl := h.len
  have hlt := h.lt
  have hs := h.size
  refine ⟨by simp [hl]; omega, fun t ht => ?_⟩
  rw [h.done t (by simpa [hl] using ht)]
  simp
end Go.Proofs.Ytagciffmacolfaa
