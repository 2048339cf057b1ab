/- QuotaGrows: plain laws. -/
import Derived.Test.YtgimodjkoincgaaQuotaFitsWalk
namespace Go.Proofs.Ytgimodjkoincgaa
open Go.RowKit

theorem thereTo_eq (g ks : List Int) (k : Nat) (hk : k ≤ ks.length) : thereTo g ks k = ((ks.take k).filter (hasI g ·)).length := by
  induction k with
  | zero => rfl
  | succ k ih =>
    rw [thereTo, take_snoc ks k (by omega), List.filter_append, List.length_append, ih (by omega)]
    by_cases h : hasI g (ks.getD k 0) = true
    · rw [if_pos h, List.filter_cons_of_pos h]; rfl
    · rw [if_neg h, List.filter_cons_of_neg h]; rfl
theorem there_step {ks old next more : List Int} (hk : ks.Nodup) (h : ∀ x ∈ next, x ∈ old ∨ x ∈ more) : thereTo next ks ks.length ≤ thereTo old ks ks.length + more.length := by
  rw [thereTo_eq _ _ _ (Nat.le_refl _), thereTo_eq _ _ _ (Nat.le_refl _), List.take_length]
  have := nodup_sub (l := ks.filter (hasI next ·)) (m := ks.filter (hasI old ·) ++ more) (hk.filter _) (fun x hx => by
    rw [List.mem_filter] at hx
    rw [List.mem_append]
    rcases h x (hasI_iff.1 hx.2) with h | h
    · exact Or.inl (List.mem_filter.2 ⟨hx.1, hasI_iff.2 h⟩)
    · exact Or.inr h)
  rwa [List.length_append] at this
/-- What a term of the law keeps: no more of the keys are in the roster than the bound says. -/
def Held (gen ks ros : List Int) (e : Nat) (n : Int) : Prop := ros.length ≤ 64 ∧ (∀ x ∈ ros, 0 ≤ x ∧ x < 64) ∧ (thereTo ros ks ks.length : Int) ≤ thereTo gen ks ks.length + e * n
theorem Held.start {gen ks : List Int} {n : Int} (h1 : gen.length ≤ 64) (h2 : ∀ x ∈ gen, 0 ≤ x ∧ x < 64) : Held gen ks gen 0 n := ⟨h1, h2, by simp⟩
theorem Held.most {gen ks ros : List Int} {e : Nat} {n : Int} (h : Held gen ks ros e n) : ¬ mostI gen ks e n < thereTo ros ks ks.length := by
  have := thereTo_le ros ks ks.length
  have := h.2.2
  unfold mostI; omega
theorem Held.next {gen ks ros od s : List Int} {e : Nat} {n : Int} (hk : ks.Nodup) (hn : 0 ≤ n) (h : Held gen ks ros e n) : Held gen ks (joinI (minusI ros s) (newc od ros n)) (e + 1) n := by
  refine ⟨joinI_le _ _, fun x hx => ⟨(mem_joinI.1 hx).1, (mem_joinI.1 hx).2.1⟩, ?_⟩
  have h1 := there_step (ks := ks) (old := ros) (next := joinI (minusI ros s) (newc od ros n)) (more := newc od ros n) hk (fun x hx => by
    rcases (mem_joinI.1 hx).2.2 with h | h
    · exact Or.inl (mem_minusI.1 h).2.2.1
    · exact Or.inr h)
  have h2 : ((newc od ros n).length : Int) ≤ n := newcTo_q od ros hn od.length
  have h3 := h.2.2
  have : ((e + 1 : Nat) : Int) * n = e * n + n := by rw [Int.natCast_add, Int.add_mul]; simp
  omega
theorem fits_next {ros od s : List Int} {n : Int} (hn : 0 ≤ n) : fitsI ros (joinI (minusI ros s) (newc od ros n)) n = true :=
  fits_of_sub (l := newc od ros n) (fun x hx ho => by
    rcases (mem_joinI.1 hx).2.2 with h | h
    · exact absurd (mem_minusI.1 h).2.2.1 ho
    · exact h) (newcTo_q od ros hn _)

/-- What the scan of an order meets: of what is let in, the part up to i. -/
theorem scan_yes {od ros : List Int} {n y : Int} {i : Nat} (hi : i < od.length) (hy : od.getD i 0 = y) (h : newcTo od ros n (i + 1) = newcTo od ros n i ++ [y]) :
    (newcTo od ros n i).length < (newc od ros n).length ∧ (newc od ros n).getD (newcTo od ros n i).length 0 = y := by
  obtain ⟨t, ht⟩ := newcTo_mono (xs := od) (old := ros) (q := n) (show i + 1 ≤ od.length by omega)
  unfold newc
  rw [ht, h]
  refine ⟨by simp, ?_⟩
  simp
theorem scan_no {od ros : List Int} {n y z : Int} {i : Nat} (hi : i < od.length) (hy : od.getD i 0 = y) (h : newcTo od ros n (i + 1) = newcTo od ros n i) (hl : (newcTo od ros n i).length < (newc od ros n).length)
    (hz : (newc od ros n).getD (newcTo od ros n i).length 0 = z) : ¬ y = z := by
  intro e
  obtain ⟨t, ht⟩ := newcTo_mono (xs := od) (old := ros) (q := n) (show i ≤ od.length by omega)
  have hnd := newcTo_nodup od ros n od.length
  have hz' : z ∈ newc od ros n ∧ z ∉ newcTo od ros n i := by
    unfold newc at hl hz ⊢
    rw [ht] at hl hz hnd ⊢
    cases t with
    | nil => simp at hl
    | cons u t =>
      simp [List.getD] at hz
      subst hz
      exact ⟨by simp, fun hh => by
        rw [List.nodup_append] at hnd
        exact hnd.2.2 u hh u (by simp) rfl⟩
  have hro : y ∉ ros := by rw [e]; exact (newcTo_sub (Nat.le_refl _) z hz'.1).2
  have hlt : ((newcTo od ros n i).length : Int) < n := by
    apply Classical.byContradiction
    intro hh
    have := newcTo_full (xs := od) (old := ros) (q := n) (k := i) (by omega) od.length (by omega)
    unfold newc at hl; rw [this] at hl; omega
  have : newcTo od ros n (i + 1) = newcTo od ros n i ++ [od.getD i 0] := by
    rw [newcTo, if_pos ⟨hlt, hasI_not.2 (by rw [hy]; exact hro), hasI_not.2 (by rw [hy, e]; exact hz'.2)⟩]
  rw [h] at this
  have := congrArg List.length this
  simp at this
theorem scan_full {od ros : List Int} {n : Int} {i : Nat} (hi : i < od.length) (hf : ((newc od ros n).length : Int) < n) (h : newcTo od ros n (i + 1) = newcTo od ros n i) (hr : hasI ros (od.getD i 0) = false) : hasI (newcTo od ros n i) (od.getD i 0) = true := by
  obtain ⟨t, ht⟩ := newcTo_mono (xs := od) (old := ros) (q := n) (show i ≤ od.length by omega)
  have hl : (newcTo od ros n i).length ≤ (newc od ros n).length := by unfold newc; rw [ht]; simp
  cases hb : hasI (newcTo od ros n i) (od.getD i 0) with
  | true => rfl
  | false =>
    have : newcTo od ros n (i + 1) = newcTo od ros n i ++ [od.getD i 0] := by rw [newcTo, if_pos ⟨by omega, hr, hb⟩]
    rw [h] at this
    have := congrArg List.length this
    simp at this
theorem newcTo_take {od ros : List Int} {n : Int} {i : Nat} (hi : i ≤ od.length) : (newc od ros n).take (newcTo od ros n i).length = newcTo od ros n i ∧ (newcTo od ros n i).length ≤ (newc od ros n).length := by
  obtain ⟨t, ht⟩ := newcTo_mono (xs := od) (old := ros) (q := n) hi
  unfold newc; rw [ht]; simp
end Go.Proofs.Ytgimodjkoincgaa
