/- Windows and the latest time: plain laws, no program in sight. | What an ordered list is: plain laws, no program in sight. -/
import Derived.Test.YtdmchekkcmjafaaEpochRawWalkG
namespace Go.Proofs.Ytdmchekkcmjafaa
open Go.RowKit Go.Sort

theorem late_spec (l : List St) : ∀ o : Option Int, (l = [] ∧ o = none) ∨ ∃ r, l.foldl (fun o s => some (match o with | none => s.time | some m => if m < s.time then s.time else m)) o = some r ∧ (∀ s ∈ l, s.time ≤ r) ∧ (∀ m, o = some m → m ≤ r) ∧ (o = some r ∨ ∃ s ∈ l, s.time = r) := by
  induction l with
  | nil =>
    intro o
    cases o with
    | none => exact .inl ⟨rfl, rfl⟩
    | some m => exact .inr ⟨m, rfl, (fun s hs => by cases hs), (fun x e => by cases e; exact Int.le_refl _), .inl rfl⟩
  | cons s t ih =>
    intro o
    refine .inr ?_
    rw [List.foldl_cons]
    rcases ih (some (match o with | none => s.time | some m => if m < s.time then s.time else m)) with ⟨_, h⟩ | ⟨r, h1, h2, h3, h4⟩
    · cases h
    · have h5 := h3 _ rfl
      cases o with
      | none =>
        refine ⟨r, h1, fun x hx => ?_, (fun m e => by cases e), ?_⟩
        · rcases List.mem_cons.1 hx with rfl | hx
          · exact h5
          · exact h2 x hx
        · rcases h4 with h4 | ⟨x, hx, e⟩
          · exact .inr ⟨s, by simp, by cases h4; rfl⟩
          · exact .inr ⟨x, by simp [hx], e⟩
      | some m =>
        simp only at h5 h4
        refine ⟨r, h1, fun x hx => ?_, fun y e => ?_, ?_⟩
        · rcases List.mem_cons.1 hx with rfl | hx
          · split at h5 <;> omega
          · exact h2 x hx
        · cases e; split at h5 <;> omega
        · rcases h4 with h4 | ⟨x, hx, e⟩
          · split at h4
            · exact .inr ⟨s, by simp, by cases h4; rfl⟩
            · exact .inl h4
          · exact .inr ⟨x, by simp [hx], e⟩
theorem latest_nil : latestI [] = -1 := rfl
theorem latest_spec {l : List St} (h : l ≠ []) : (∀ s ∈ l, s.time ≤ latestI l) ∧ ∃ s ∈ l, s.time = latestI l := by
  rcases late_spec l none with ⟨h1, _⟩ | ⟨r, h1, h2, _, h4⟩
  · exact absurd h1 h
  · have h1' : lateO l = some r := h1
    have e : latestI l = r := by unfold latestI; rw [h1']; rfl
    rw [e]
    refine ⟨h2, ?_⟩
    rcases h4 with h4 | h4
    · cases h4
    · exact h4
/-- The statements ahead of a time. -/
def upTo (l : List St) (x : Int) : List St := l.filter (fun s => decide (s.time < x))
theorem upTo_step (l : List St) (x n : Int) (hn : 1 ≤ n) : (upTo l (x + n)).length = (upTo l x).length + (l.filter (fun s => decide (x ≤ s.time) && decide (s.time ≤ x + n - 1))).length := by
  unfold upTo
  induction l with
  | nil => rfl
  | cons s r ih =>
    simp only [List.filter_cons]
    by_cases h1 : s.time < x
    · rw [decide_eq_true (show s.time < x + n by omega), decide_eq_true h1, decide_eq_false (show ¬ x ≤ s.time by omega)]
      simp only [if_true, Bool.false_and, Bool.false_eq_true, if_false, List.length_cons]
      omega
    · by_cases h2 : s.time < x + n
      · rw [decide_eq_true h2, decide_eq_false h1, decide_eq_true (show x ≤ s.time by omega), decide_eq_true (show s.time ≤ x + n - 1 by omega)]
        simp only [if_true, Bool.true_and, Bool.false_eq_true, if_false, List.length_cons]
        omega
      · rw [decide_eq_false h2, decide_eq_false h1, decide_eq_false (show ¬ s.time ≤ x + n - 1 by omega)]
        simp only [Bool.and_false, Bool.false_eq_true, if_false]
        exact ih
theorem upTo_none {l : List St} {x : Int} (h : ∀ s ∈ l, x ≤ s.time) : upTo l x = [] := by
  unfold upTo
  rw [List.filter_eq_nil_iff]
  intro s hs
  have := h s hs
  simp; omega
theorem upTo_all {l : List St} {x : Int} (h : ∀ s ∈ l, s.time < x) : upTo l x = l := by
  unfold upTo
  rw [List.filter_eq_self]
  intro s hs
  simpa using h s hs
theorem upTo_le (l : List St) (x : Int) : (upTo l x).length ≤ l.length := List.length_filter_le _ _
theorem ofI_in {t n e : Int} (hn : 1 ≤ n) (he : 0 ≤ e) (h1 : e * n ≤ t) (h2 : t ≤ e * n + n - 1) : ofI t n = e := by
  have h0 : 0 ≤ e * n := Int.mul_nonneg he (by omega)
  unfold ofI
  rw [if_neg (by omega)]
  apply Int.le_antisymm
  · have : t / n < e + 1 := Int.ediv_lt_of_lt_mul (by omega) (by rw [Int.add_mul]; omega)
    omega
  · exact (Int.le_ediv_iff_mul_le (by omega)).2 h1
/-- Behind the last window there is nothing. -/
theorem upTo_end {l : List St} {n e : Int} (hn : 1 ≤ n) (_he : 0 ≤ e) (h : ¬ e ≤ ofI (latestI l) n) (ht : ∀ s ∈ l, 0 ≤ s.time) : upTo l (e * n) = l := by
  by_cases h0 : l = []
  · subst h0; rfl
  · obtain ⟨h1, x, hx, e1⟩ := latest_spec h0
    refine upTo_all fun s hs => ?_
    have h2 := h1 s hs
    have h3 : 0 ≤ latestI l := by have := ht x hx; omega
    have h4 : ofI (latestI l) n = latestI l / n := by unfold ofI; rw [if_neg (by omega)]
    rw [h4] at h
    have h5 : latestI l < e * n := by
      have := Int.lt_of_not_ge (fun hh => h ((Int.le_ediv_iff_mul_le (show 0 < n by omega)).2 hh))
      exact this
    omega
theorem of_bound {l : List St} {n T : Int} (hn : 1 ≤ n) (hT : 0 ≤ T) (h : ∀ s ∈ l, 0 ≤ s.time ∧ s.time ≤ T) : ofI (latestI l) n ≤ T := by
  by_cases h0 : l = []
  · subst h0; rw [latest_nil]; unfold ofI; rw [if_pos (by omega)]; omega
  · obtain ⟨_, x, hx, e1⟩ := latest_spec h0
    have h2 := h x hx
    unfold ofI
    rw [if_neg (by omega)]
    have := Int.ediv_le_self n (show 0 ≤ latestI l by omega)
    omega
theorem latest_bound {l : List St} {T : Int} (hT : 0 ≤ T) (h : ∀ s ∈ l, 0 ≤ s.time ∧ s.time ≤ T) : latestI l ≤ T := by
  by_cases h0 : l = []
  · subst h0; rw [latest_nil]; omega
  · obtain ⟨_, x, hx, e1⟩ := latest_spec h0
    have := h x hx
    omega
end Go.Proofs.Ytdmchekkcmjafaa

namespace Go.Proofs.Ytdmchekkcmjafaa
open Go.RowKit Go.Sort

theorem beforeB_no {s t : St} (h : beforeB s t = false) : t.time ≤ s.time ∧ (t.time = s.time → t.author ≤ s.author) := by
  unfold beforeB at h
  by_cases h1 : s.time = t.time
  · by_cases h2 : s.author = t.author
    · omega
    · simp [h1, h2] at h; omega
  · simp [h1] at h; omega
theorem rises_get {l : List St} (h : Rises beforeB l) {i j : Nat} {s t : St} (hij : i < j) (hs : l[i]? = some s) (ht : l[j]? = some t) : beforeB t s = false := by
  obtain ⟨hi, e1⟩ := List.getElem?_eq_some_iff.1 hs
  obtain ⟨hj, e2⟩ := List.getElem?_eq_some_iff.1 ht
  have := List.pairwise_iff_getElem.1 h i j hi hj hij
  rw [e1, e2] at this
  exact this
theorem order_rises (l : List St) : Rises beforeB (orderI beforeB l) := (orderI_spec swo_before l).1
theorem order_again (l : List St) : orderI beforeB (orderI beforeB l) = orderI beforeB l := orderI_self swo_before (order_rises l)
theorem order_last {l : List St} {t : St} {k : Nat} (hk : k + 1 = l.length) (ht : (orderI beforeB l)[k]? = some t) : latestI l = t.time := by
  have hne : l ≠ [] := by intro e; subst e; simp at hk
  obtain ⟨h1, x, hx, e1⟩ := latest_spec hne
  have hmem : t ∈ l := orderI_mem.1 (List.mem_of_getElem? ht)
  have h2 := h1 t hmem
  obtain ⟨j, hj⟩ := List.mem_iff_getElem?.1 (orderI_mem.2 hx : x ∈ orderI beforeB l)
  have hjl : j < l.length := by have := (List.getElem?_eq_some_iff.1 hj).1; rwa [orderI_len] at this
  by_cases hjk : j = k
  · subst hjk; rw [hj] at ht; cases ht; exact e1.symm
  · have h3 := beforeB_no (rises_get (order_rises l) (show j < k by omega) hj ht)
    omega
end Go.Proofs.Ytdmchekkcmjafaa
