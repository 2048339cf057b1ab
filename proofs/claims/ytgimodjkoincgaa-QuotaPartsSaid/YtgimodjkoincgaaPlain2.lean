/- Plain laws on lists of ints: how newcomers, rosters and quotas go together. No program in sight. -/
import Derived.Test.YtgimodjkoincgaaPlain
namespace Go.Proofs.Ytgimodjkoincgaa

theorem nodup_sub {l m : List Int} (h : l.Nodup) (hs : ∀ x ∈ l, x ∈ m) : l.length ≤ m.length := by
  induction l generalizing m with
  | nil => simp
  | cons a l ih =>
    rw [List.nodup_cons] at h
    have ha : a ∈ m := hs a (by simp)
    have := ih (m := m.erase a) h.2 (fun x hx => (List.mem_erase_of_ne (fun e => h.1 (by rw [← e]; exact hx))).2 (hs x (by simp [hx])))
    rw [List.length_erase_of_mem ha] at this
    have hp := List.length_pos_of_mem ha
    simp only [List.length_cons]; omega

theorem keysTo_nodup (c : Int → Bool) (k : Nat) : (keysTo c k).Nodup := by
  induction k with
  | zero => simp [keysTo]
  | succ k ih =>
    rw [keysTo, List.nodup_append]
    refine ⟨ih, by split <;> simp, ?_⟩
    intro a ha b hb
    rw [mem_keysTo] at ha
    split at hb
    · simp at hb; omega
    · simp at hb

theorem mem_joinI {a b : List Int} {x : Int} : x ∈ joinI a b ↔ 0 ≤ x ∧ x < 64 ∧ (x ∈ a ∨ x ∈ b) := by
  unfold joinI; rw [mem_keysTo]; simp [Bool.or_eq_true, hasI_iff]
theorem mem_minusI {a b : List Int} {x : Int} : x ∈ minusI a b ↔ 0 ≤ x ∧ x < 64 ∧ x ∈ a ∧ x ∉ b := by
  unfold minusI; rw [mem_keysTo]; simp [Bool.and_eq_true, hasI_iff, hasI_not]

theorem newcTo_nodup (xs old : List Int) (q : Int) (k : Nat) : (newcTo xs old q k).Nodup := by
  induction k with
  | zero => simp [newcTo]
  | succ k ih =>
    rw [newcTo]; split
    · rename_i h
      rw [List.nodup_append]
      refine ⟨ih, by simp, ?_⟩
      intro a ha b hb e
      simp at hb; subst e hb
      exact (hasI_not.1 h.2.2) ha
    · exact ih
theorem newcTo_q (xs old : List Int) {q : Int} (hq : 0 ≤ q) (k : Nat) : ((newcTo xs old q k).length : Int) ≤ q := by
  induction k with
  | zero => simpa [newcTo] using hq
  | succ k ih =>
    rw [newcTo]; split
    · rename_i h; rw [List.length_append]; simp; omega
    · exact ih
theorem getD_mem {xs : List Int} {k : Nat} (h : k < xs.length) : xs.getD k 0 ∈ xs := by simp [List.getD, h]
theorem mem_getD {xs : List Int} {x : Int} (h : x ∈ xs) : ∃ k, k < xs.length ∧ xs.getD k 0 = x := by
  obtain ⟨k, hk, e⟩ := List.getElem_of_mem h
  exact ⟨k, hk, by simp [List.getD, hk, e]⟩
theorem newcTo_sub {xs old : List Int} {q : Int} {k : Nat} (hk : k ≤ xs.length) : ∀ x ∈ newcTo xs old q k, x ∈ xs ∧ x ∉ old := by
  induction k with
  | zero => simp [newcTo]
  | succ k ih =>
    intro x hx
    rw [newcTo] at hx
    split at hx
    · rename_i h
      rw [List.mem_append] at hx
      rcases hx with hx | hx
      · exact ih (by omega) x hx
      · simp only [List.mem_singleton] at hx; subst hx
        exact ⟨getD_mem (by omega), hasI_not.1 h.2.1⟩
    · exact ih (by omega) x hx
theorem newcTo_mono {xs old : List Int} {q : Int} {j k : Nat} (h : j ≤ k) : ∃ t, newcTo xs old q k = newcTo xs old q j ++ t := by
  induction k with
  | zero => obtain rfl : j = 0 := by omega
            exact ⟨[], by simp⟩
  | succ k ih =>
    by_cases e : j = k + 1
    · subst e; exact ⟨[], by simp⟩
    · obtain ⟨t, ht⟩ := ih (by omega)
      rw [newcTo]; split
      · exact ⟨t ++ [xs.getD k 0], by rw [ht, List.append_assoc]⟩
      · exact ⟨t, ht⟩
/-- With room, whoever stands in the order and is not in the roster is let in. -/
theorem newcTo_all {xs old : List Int} {q : Int} {k : Nat} (hq : ((newcTo xs old q k).length : Int) < q) {x : Int} {i : Nat} (hi : i < k) (hx : xs.getD i 0 = x) (ho : x ∉ old) : x ∈ newcTo xs old q k := by
  obtain ⟨t, ht⟩ := newcTo_mono (xs := xs) (old := old) (q := q) (show i + 1 ≤ k by omega)
  have hl : (newcTo xs old q (i + 1)).length ≤ (newcTo xs old q k).length := by rw [ht]; simp
  obtain ⟨u, hu⟩ := newcTo_mono (xs := xs) (old := old) (q := q) (show i ≤ i + 1 by omega)
  have hl2 : (newcTo xs old q i).length ≤ (newcTo xs old q (i + 1)).length := by rw [hu]; simp
  have : x ∈ newcTo xs old q (i + 1) := by
    rw [newcTo]
    by_cases h : hasI (newcTo xs old q i) (xs.getD i 0) = true
    · rw [hx, hasI_iff] at h
      split
      · simp [h]
      · exact h
    · rw [if_pos ⟨by omega, by rw [hx]; exact hasI_not.2 ho, Bool.eq_false_iff.2 h⟩]
      exact List.mem_append_right _ (by rw [hx]; exact List.mem_singleton_self _)
  rw [ht]; simp [this]
theorem newc_all {xs old : List Int} {x : Int} (hx : x ∈ xs) (ho : x ∉ old) : x ∈ newc xs old xs.length := by
  by_cases h : ((newcTo xs old xs.length xs.length).length : Int) < xs.length
  · obtain ⟨k, hk, e⟩ := mem_getD hx
    exact newcTo_all h hk e ho
  · -- all are new: the list is as long as the order, without repetition, so it holds each of its keys
    apply Classical.byContradiction
    intro hn
    have h1 : (newc xs old xs.length).length = xs.length := by
      have := newcTo_le xs old xs.length xs.length
      unfold newc; omega
    have h2 := nodup_sub (l := x :: newc xs old xs.length) (m := xs) (List.nodup_cons.2 ⟨hn, newcTo_nodup _ _ _ _⟩)
      (fun y hy => by
        rcases List.mem_cons.1 hy with rfl | hy
        · exact hx
        · exact (newcTo_sub (Nat.le_refl _) y hy).1)
    simp only [List.length_cons] at h2; omega

theorem fitsI_iff {old next : List Int} {q : Int} : fitsI old next q = true ↔ ((newc next old next.length).length : Int) ≤ q := by simp [fitsI]
theorem fitsI_not {old next : List Int} {q : Int} : fitsI old next q = false ↔ q < ((newc next old next.length).length : Int) := by simp [fitsI]
theorem fits_of_sub {old next l : List Int} {q : Int} (h : ∀ x ∈ next, x ∉ old → x ∈ l) (hl : (l.length : Int) ≤ q) : fitsI old next q = true := by
  rw [fitsI_iff]
  have := nodup_sub (l := newc next old next.length) (m := l) (newcTo_nodup _ _ _ _) (fun x hx => by
    have := newcTo_sub (Nat.le_refl _) x hx; exact h x this.1 this.2)
  omega
theorem fits_none {old next : List Int} (h : ∀ x ∈ next, x ∈ old) : fitsI old next 0 = true := fits_of_sub (l := []) (fun x hx ho => absurd (h x hx) ho) (by simp)
theorem fits_mono {old next : List Int} {m n : Int} (h : fitsI old next m = true) (hn : 0 ≤ n) : fitsI old next (m + n) = true := by
  rw [fitsI_iff] at *; omega
theorem fits_sum {x y z : List Int} {m n : Int} (h1 : fitsI x y m = true) (h2 : fitsI y z n = true) : fitsI x z (m + n) = true := by
  rw [fitsI_iff] at h1 h2
  refine fits_of_sub (l := newc y x y.length ++ newc z y z.length) (fun e he ho => ?_) (by rw [List.length_append]; omega)
  rw [List.mem_append]
  by_cases hy : e ∈ y
  · exact Or.inl (newc_all hy ho)
  · exact Or.inr (newc_all he hy)
theorem fits_minus {x y : List Int} {m : Int} (hy : ∀ e ∈ y, 0 ≤ e ∧ e < 64) : fitsI x y m = decide (((minusI y x).length : Int) ≤ m) := by
  rw [Bool.eq_iff_iff, fitsI_iff, decide_eq_true_eq]
  have a := nodup_sub (l := newc y x y.length) (m := minusI y x) (newcTo_nodup _ _ _ _) (fun e he => by
    have := newcTo_sub (Nat.le_refl _) e he
    have := hy e this.1
    rw [mem_minusI]; simp_all)
  have b := nodup_sub (l := minusI y x) (m := newc y x y.length) (keysTo_nodup _ _) (fun e he => by
    rw [mem_minusI] at he; exact newc_all he.2.2.1 he.2.2.2)
  omega

theorem emod_bd (n : Int) {m : Int} (h : 1 ≤ m) (hn : 0 ≤ n) : n.tmod m = n % m ∧ 0 ≤ n % m ∧ n % m < m := ⟨Int.tmod_eq_emod_of_nonneg hn, Int.emod_nonneg _ (by omega), Int.emod_lt_of_pos _ (by omega)⟩
theorem joinI_le (a b : List Int) : (joinI a b).length ≤ 64 := keysTo_le _ _
theorem minusI_le (a b : List Int) : (minusI a b).length ≤ 64 := keysTo_le _ _
theorem newc_le (a b : List Int) (q : Int) : (newc a b q).length ≤ a.length := newcTo_le _ _ _ _

theorem someTo_mem {d : List Int} {k : Nat} {x : Int} (h : x ∈ (someTo d k).1) : 0 ≤ x ∧ x < k := by
  induction k with
  | zero => simp [someTo] at h
  | succ k ih =>
    simp only [someTo, List.mem_append] at h
    rcases h with h | h
    · have := ih h; omega
    · split at h <;> simp at h; omega
theorem someTo_nodup (d : List Int) (k : Nat) : (someTo d k).1.Nodup := by
  induction k with
  | zero => simp [someTo]
  | succ k ih =>
    simp only [someTo]
    rw [List.nodup_append]
    refine ⟨ih, by split <;> simp, ?_⟩
    intro a ha b hb
    have := someTo_mem ha
    split at hb <;> simp at hb; omega
theorem keysD_mem {d : List Int} {n x : Int} (hn : 1 ≤ n) (h : x ∈ (keysD d n).1) : 0 ≤ x ∧ x < n := by
  unfold keysD at h
  split at h
  · simp at h; subst h; exact dVal_bd hn
  · have := someTo_mem h; omega
theorem keysD_le {d : List Int} {n : Int} (hn : 1 ≤ n) : ((keysD d n).1.length : Int) ≤ n := by
  unfold keysD
  split
  · simpa using hn
  · have := someTo_le d n.toNat; omega

/-- Newcomers in two terms. -/
theorem newc_parts {o r : List Int} {m n : Int} (hm : 0 ≤ m) (hn : 0 ≤ n) (ho : ∀ x ∈ o, 0 ≤ x ∧ x < 64) :
    newc o r m ++ newc o (joinI r (newc o r m)) n = newc o r (m + n) := by
  have key : ∀ k, k ≤ o.length → newcTo o r (m + n) k = newcTo o r m k ++ newcTo o (joinI r (newc o r m)) n k ∧ (((newcTo o r m k).length : Int) < m → newcTo o (joinI r (newc o r m)) n k = []) := by
    intro k
    induction k with
    | zero => intro _; simp [newcTo]
    | succ k ih =>
      intro hk
      obtain ⟨ih1, ih2⟩ := ih (by omega)
      have hb := ho _ (getD_mem (xs := o) (k := k) (by omega))
      have hq1 := newcTo_q o r hm k
      have hq2 := newcTo_q o (joinI r (newc o r m)) hn k
      have hlen : (newcTo o r (m + n) k).length = (newcTo o r m k).length + (newcTo o (joinI r (newc o r m)) n k).length := by rw [ih1, List.length_append]
      obtain ⟨t, ht⟩ := newcTo_mono (xs := o) (old := r) (q := m) (show k + 1 ≤ o.length by omega)
      by_cases hr : o.getD k 0 ∈ r
      · have hj : o.getD k 0 ∈ joinI r (newc o r m) := mem_joinI.2 ⟨hb.1, hb.2, Or.inl hr⟩
        have e1 : newcTo o r (m + n) (k + 1) = newcTo o r (m + n) k := by rw [newcTo, if_neg (fun h => hasI_not.1 h.2.1 hr)]
        have e2 : newcTo o r m (k + 1) = newcTo o r m k := by rw [newcTo, if_neg (fun h => hasI_not.1 h.2.1 hr)]
        have e3 : newcTo o (joinI r (newc o r m)) n (k + 1) = newcTo o (joinI r (newc o r m)) n k := by rw [newcTo, if_neg (fun h => hasI_not.1 h.2.1 hj)]
        rw [e1, e2, e3]; exact ⟨ih1, ih2⟩
      · by_cases hx : o.getD k 0 ∈ newcTo o r m k
        · have hX : o.getD k 0 ∈ newc o r m := by
            obtain ⟨t, ht⟩ := newcTo_mono (xs := o) (old := r) (q := m) (show k ≤ o.length by omega)
            unfold newc; rw [ht]; exact List.mem_append_left _ hx
          have hj : o.getD k 0 ∈ joinI r (newc o r m) := mem_joinI.2 ⟨hb.1, hb.2, Or.inr hX⟩
          have e1 : newcTo o r (m + n) (k + 1) = newcTo o r (m + n) k := by rw [newcTo, if_neg (fun h => hasI_not.1 h.2.2 (by rw [ih1]; exact List.mem_append_left _ hx))]
          have e2 : newcTo o r m (k + 1) = newcTo o r m k := by rw [newcTo, if_neg (fun h => hasI_not.1 h.2.2 hx)]
          have e3 : newcTo o (joinI r (newc o r m)) n (k + 1) = newcTo o (joinI r (newc o r m)) n k := by rw [newcTo, if_neg (fun h => hasI_not.1 h.2.1 hj)]
          rw [e1, e2, e3]; exact ⟨ih1, ih2⟩
        · by_cases hlt : ((newcTo o r m k).length : Int) < m
          · have hy := ih2 hlt
            have e2 : newcTo o r m (k + 1) = newcTo o r m k ++ [o.getD k 0] := by rw [newcTo, if_pos ⟨hlt, hasI_not.2 hr, hasI_not.2 hx⟩]
            have hX : o.getD k 0 ∈ newc o r m := by unfold newc; rw [ht, e2]; exact List.mem_append_left _ (List.mem_append_right _ (List.mem_singleton_self _))
            have hj : o.getD k 0 ∈ joinI r (newc o r m) := mem_joinI.2 ⟨hb.1, hb.2, Or.inr hX⟩
            have e3 : newcTo o (joinI r (newc o r m)) n (k + 1) = newcTo o (joinI r (newc o r m)) n k := by rw [newcTo, if_neg (fun h => hasI_not.1 h.2.1 hj)]
            have e1 : newcTo o r (m + n) (k + 1) = newcTo o r (m + n) k ++ [o.getD k 0] := by
              rw [newcTo, if_pos ⟨by rw [hlen, hy]; simp; omega, hasI_not.2 hr, hasI_not.2 (by rw [ih1, hy, List.append_nil]; exact hx)⟩]
            rw [e1, e2, e3, hy, ih1, hy]; simp
          · have hfull : newc o r m = newcTo o r m k := newcTo_full (by omega) _ (by omega)
            have e2 : newcTo o r m (k + 1) = newcTo o r m k := by rw [newcTo, if_neg (fun h => hlt h.1)]
            have hj : o.getD k 0 ∉ joinI r (newc o r m) := fun h => by
              rw [mem_joinI, hfull] at h; rcases h.2.2 with h | h
              · exact hr h
              · exact hx h
            refine ⟨?_, fun h => absurd h (by rw [e2]; exact hlt)⟩
            rw [e2]
            by_cases hy : ((newcTo o (joinI r (newc o r m)) n k).length : Int) < n ∧ o.getD k 0 ∉ newcTo o (joinI r (newc o r m)) n k
            · have e3 : newcTo o (joinI r (newc o r m)) n (k + 1) = newcTo o (joinI r (newc o r m)) n k ++ [o.getD k 0] := by rw [newcTo, if_pos ⟨hy.1, hasI_not.2 hj, hasI_not.2 hy.2⟩]
              have e1 : newcTo o r (m + n) (k + 1) = newcTo o r (m + n) k ++ [o.getD k 0] := by
                rw [newcTo, if_pos ⟨by rw [hlen]; omega, hasI_not.2 hr, hasI_not.2 (by rw [ih1, List.mem_append]; exact fun h => h.elim hx hy.2)⟩]
              rw [e1, e3, ih1, List.append_assoc]
            · have e3 : newcTo o (joinI r (newc o r m)) n (k + 1) = newcTo o (joinI r (newc o r m)) n k := by rw [newcTo, if_neg (fun h => hy ⟨h.1, hasI_not.1 h.2.2⟩)]
              have e1 : newcTo o r (m + n) (k + 1) = newcTo o r (m + n) k := by
                rw [newcTo, if_neg (fun h => hy ⟨by have := h.1; rw [hlen] at this; omega, fun hh => hasI_not.1 h.2.2 (by rw [ih1]; exact List.mem_append_right _ hh)⟩)]
              rw [e1, e3, ih1]
  exact (key o.length (Nat.le_refl _)).1.symm

theorem fits_join {o r : List Int} {q : Int} (hq : 0 ≤ q) : fitsI r (joinI r (newc o r q)) q = true :=
  fits_of_sub (l := newc o r q) (fun x hx hr => by
    rw [mem_joinI] at hx; exact hx.2.2.resolve_left hr) (newcTo_q o r hq _)
end Go.Proofs.Ytgimodjkoincgaa
