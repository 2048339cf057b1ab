/- Where more than half of the guardians are needed: plain. No statement of the seat. -/
import Derived.Test.YtdgfankkapeclaaGreatMg08
namespace Go.Proofs.YtdgfankkapeclaaGreat
open Go.RowKit Go.Sort

theorem mem_voicesL {l : List (Int × Int)} {next x : Int} {n : Nat} : x ∈ voicesL l next n ↔ ∃ k : Nat, k < n ∧ x = k ∧ lastOf l (k : Int) = some next := by
  unfold voicesL
  simp only [List.mem_map, List.mem_filter, List.mem_range, decide_eq_true_eq]
  constructor
  · rintro ⟨k, ⟨h1, h2⟩, rfl⟩; exact ⟨k, h1, rfl, h2⟩
  · rintro ⟨k, h1, rfl, h2⟩; exact ⟨k, ⟨h1, h2⟩, rfl⟩
/-- The key k has enough voices. -/
def enP (vl : List Vote) (g : GuardD) (k : Nat) : Bool := enoughG g.1 g.2.1 g.2.2 (allP vl g k)
def cntE (vl : List Vote) (g : GuardD) (n : Nat) : Nat := ((List.range n).filter (enP vl g)).length
theorem cntE_succ (vl : List Vote) (g : GuardD) (n : Nat) : cntE vl g (n + 1) = cntE vl g n + if enP vl g n = true then 1 else 0 := by
  unfold cntE
  rw [List.range_succ, List.filter_append]
  by_cases h : enP vl g n = true <;> simp [h]
theorem cntE_le (vl : List Vote) (g : GuardD) (n : Nat) : cntE vl g n ≤ n := by
  unfold cntE
  have := List.length_filter_le (enP vl g) (List.range n)
  simpa using this
theorem enP_count {vl : List Vote} {g : GuardD} {k : Nat} (h : enP vl g k = true) : validG g.1 g.2.1 g.2.2 = true ∧ g.2.1 ≤ (countG g.2.2 (allP vl g k) : Int) ∧ 1 ≤ g.2.1 := by
  unfold enP enoughG at h
  simp only [Bool.and_eq_true, decide_eq_true_eq] at h
  refine ⟨h.1, h.2, ?_⟩
  have h1 := h.1
  unfold validG at h1
  simp only [Bool.and_eq_true, decide_eq_true_eq] at h1
  exact h1.1.2
theorem enP_mine {vl : List Vote} {g : GuardD} {k : Nat} (h : enP vl g k = true) : 0 < (mineP vl g k).length := by
  obtain ⟨h1, h2, h3⟩ := enP_count h
  have : countG g.2.2 (allP vl g k) = (mineP vl g k).length := count_swap (valid_nodup h1) (sorted_nodup (voicesL_sorted _ _ _))
  omega
theorem enP_vote {vl : List Vote} {g : GuardD} {k : Nat} (h : enP vl g k = true) : ∃ p ∈ vl, p.2.1 = g.1 ∧ p.2.2 = k := by
  have h1 := enP_mine h
  obtain ⟨x, hx⟩ := List.exists_mem_of_length_pos h1
  unfold mineP at hx
  obtain ⟨hx, _⟩ := List.mem_filter.1 hx
  obtain ⟨j, _, _, hl⟩ := mem_voicesL.1 hx
  have := onLost_mem (lastOf_mem hl)
  exact ⟨_, this, rfl, rfl⟩
theorem countP_two {p q : Int → Bool} (h : ∀ x, ¬ (p x = true ∧ q x = true)) (l : List Int) : l.countP p + l.countP q ≤ l.length := by
  induction l with
  | nil => simp
  | cons x r ih =>
    rw [List.countP_cons, List.countP_cons, List.length_cons]
    by_cases h1 : p x = true <;> by_cases h2 : q x = true
    · exact absurd ⟨h1, h2⟩ (h x)
    all_goals (simp [h1, h2]; omega)
theorem enP_one {vl : List Vote} {g : GuardD} {a b : Nat} (hm : (g.2.2.length : Int) < 2 * g.2.1) (ha : enP vl g a = true) (hb : enP vl g b = true) : a = b := by
  apply Classical.byContradiction
  intro hne
  obtain ⟨_, h1, _⟩ := enP_count ha
  obtain ⟨_, h2, _⟩ := enP_count hb
  have := countP_two (p := hasI (allP vl g a)) (q := hasI (allP vl g b)) (fun x ⟨e1, e2⟩ => by
    obtain ⟨j, _, rfl, l1⟩ := mem_voicesL.1 (hasI_mem.1 e1)
    obtain ⟨j', _, e, l2⟩ := mem_voicesL.1 (hasI_mem.1 e2)
    rw [← e, l1] at l2
    simp at l2
    omega) g.2.2
  unfold countG at h1 h2
  omega
theorem short_of_same {l : List Nat} (hn : l.Nodup) (h : ∀ a ∈ l, ∀ b ∈ l, a = b) : l.length ≤ 1 := by
  match l, hn, h with
  | [], _, _ => simp
  | [_], _, _ => simp
  | a :: b :: r, hn, h =>
    have := h a (by simp) b (by simp)
    subst this
    simp at hn
theorem cntE_one {vl : List Vote} {g : GuardD} (hm : (g.2.2.length : Int) < 2 * g.2.1) (n : Nat) : cntE vl g n ≤ 1 := by
  refine short_of_same (List.Nodup.sublist List.filter_sublist List.nodup_range) fun a ha b hb => ?_
  exact enP_one hm (List.mem_filter.1 ha).2 (List.mem_filter.1 hb).2
theorem stepP_ge (vl : List Vote) (g : GuardD) (b : Int × Nat) (k : Nat) : b.2 ≤ (stepP vl g b k).2 := by
  unfold stepP
  split
  · next h => exact Nat.le_of_lt h.2
  · exact Nat.le_refl _
theorem pick_ge (vl : List Vote) (g : GuardD) {m n : Nat} (h : m ≤ n) : (pickP vl g m).2 ≤ (pickP vl g n).2 := by
  induction n with
  | zero => have : m = 0 := by omega
            subst this; exact Nat.le_refl _
  | succ n ih =>
    by_cases e : m = n + 1
    · subst e; exact Nat.le_refl _
    · rw [pickP_succ]; exact Nat.le_trans (ih (by omega)) (stepP_ge _ _ _ _)
theorem pick_pos {vl : List Vote} {g : GuardD} {k n : Nat} (h : enP vl g k = true) (hk : k < n) : 0 < (pickP vl g n).2 := by
  have h1 : 0 < (pickP vl g (k + 1)).2 := by
    rw [pickP_succ]
    unfold stepP
    have := enP_mine h
    split
    · exact this
    · next hn =>
      have : ¬ (pickP vl g k).2 < (mineP vl g k).length := fun hlt => hn ⟨h, hlt⟩
      omega
  exact Nat.lt_of_lt_of_le h1 (pick_ge vl g (by omega))
theorem pick_none {vl : List Vote} {g : GuardD} {n : Nat} (h : ∀ k, k < n → enP vl g k = false) : pickP vl g n = (0, 0) := by
  induction n with
  | zero => rfl
  | succ n ih =>
    rw [pickP_succ, ih fun k hk => h k (by omega)]
    unfold stepP
    rw [if_neg]
    rintro ⟨h1, _⟩
    have := h n (by omega)
    unfold enP at this
    rw [this] at h1; cases h1
theorem heirs_count {vl : List Vote} {g : GuardD} (hm : (g.2.2.length : Int) < 2 * g.2.1) (hv : ∀ p ∈ vl, p.2.1 = g.1 → p.2.2 < 12) : (heirsP vl [g]).length = cntE vl g 12 := by
  have h1 := cntE_one (vl := vl) hm 12
  unfold heirsP heirP
  rw [List.flatMap_cons, List.flatMap_nil, List.append_nil]
  by_cases h : ∃ k, k < 64 ∧ enP vl g k = true
  · obtain ⟨k, hk, he⟩ := h
    obtain ⟨p, hp, e1, e2⟩ := enP_vote he
    have hk12 : k < 12 := by have := hv p hp e1; omega
    rw [if_pos (pick_pos he hk)]
    have : 0 < cntE vl g 12 := by
      unfold cntE
      exact List.length_pos_of_mem (List.mem_filter.2 ⟨List.mem_range.2 hk12, he⟩)
    simp only [List.length_singleton]
    omega
  · have hn : ∀ k, k < 64 → enP vl g k = false := fun k hk => by
      cases e : enP vl g k
      · rfl
      · exact absurd ⟨k, hk, e⟩ h
    rw [pick_none hn, if_neg (by simp)]
    unfold cntE
    rw [List.filter_eq_nil_iff.2 (fun k hk => by rw [hn k (by have := List.mem_range.1 hk; omega)]; simp)]
    rfl
/-- A vote of somebody who is no guardian has no say. -/
theorem lastOf_other {l : List (Int × Int)} {p : Int × Int} {k : Int} (h : p.1 ≠ k) : lastOf (l ++ [p]) k = lastOf l k := by rw [lastOf_snoc, if_neg h]
theorem voices_other {vl : List Vote} {p : Vote} {lost next x : Int} (h : x ≠ p.1) : hasI (voicesL (onLost (vl ++ [p]) lost) next 64) x = hasI (voicesL (onLost vl lost) next 64) x := by
  have e : ∀ k : Nat, x = (k : Int) → lastOf (onLost (vl ++ [p]) lost) k = lastOf (onLost vl lost) k := fun k hk => by
    rw [onLost_snoc]
    split
    · exact lastOf_other (fun e => h (by rw [hk, ← e]))
    · rw [List.append_nil]
  have : x ∈ voicesL (onLost (vl ++ [p]) lost) next 64 ↔ x ∈ voicesL (onLost vl lost) next 64 := by
    rw [mem_voicesL, mem_voicesL]
    exact ⟨fun ⟨k, h1, h2, h3⟩ => ⟨k, h1, h2, (e k h2) ▸ h3⟩, fun ⟨k, h1, h2, h3⟩ => ⟨k, h1, h2, (e k h2).symm ▸ h3⟩⟩
  cases h1 : hasI (voicesL (onLost vl lost) next 64) x
  · cases h2 : hasI (voicesL (onLost (vl ++ [p]) lost) next 64) x
    · rfl
    · rw [hasI_mem.2 (this.1 (hasI_mem.1 h2))] at h1; cases h1
  · exact hasI_mem.2 (this.2 (hasI_mem.1 h1))
theorem count_outsider {vl : List Vote} {p : Vote} {g : GuardD} (h : ∀ x ∈ g.2.2, x ≠ p.1) (next : Int) : countG g.2.2 (allP (vl ++ [p]) g next) = countG g.2.2 (allP vl g next) := by
  unfold countG allP
  exact List.countP_congr fun x hx => by rw [voices_other (h x hx)]
theorem mine_outsider {vl : List Vote} {p : Vote} {g : GuardD} (hg : validG g.1 g.2.1 g.2.2 = true) (h : ∀ x ∈ g.2.2, x ≠ p.1) (next : Int) : (mineP (vl ++ [p]) g next).length = (mineP vl g next).length := by
  have e := fun vl => count_swap (v := allP vl g next) (valid_nodup hg) (sorted_nodup (voicesL_sorted _ _ _))
  have := count_outsider h next (vl := vl)
  rw [e, e] at this
  exact this
theorem pick_outsider {vl : List Vote} {p : Vote} {g : GuardD} (hg : validG g.1 g.2.1 g.2.2 = true) (h : ∀ x ∈ g.2.2, x ≠ p.1) (n : Nat) : pickP (vl ++ [p]) g n = pickP vl g n := by
  induction n with
  | zero => rfl
  | succ n ih =>
    rw [pickP_succ, pickP_succ, ih]
    unfold stepP
    rw [mine_outsider hg h]
    unfold enoughG
    rw [count_outsider h]
theorem heirs_outsider {vl : List Vote} {p : Vote} {g : GuardD} (hg : validG g.1 g.2.1 g.2.2 = true) (h : ∀ x ∈ g.2.2, x ≠ p.1) : heirsP (vl ++ [p]) [g] = heirsP vl [g] := by
  unfold heirsP heirP
  rw [List.flatMap_cons, List.flatMap_cons, pick_outsider hg h]; rfl
/-- What a list of statements is that has one statement of guardians alone. -/
theorem guardsTo_one {s : St} {ls : List St} (hs : guardB s = true) (h0 : s.author = 0) (hl : ∀ x ∈ ls, x.kind ≠ 12) : guardsTo (s :: ls) 64 = [guardS s] := by
  have hf : ∀ k : Int, lastG (s :: ls) k = if s.author = k then some (guardS s) else none := fun k => by
    unfold lastG
    have : (s :: ls).filter (fun s => guardB s && decide (s.author = k)) = if s.author = k then [s] else [] := by
      rw [List.filter_cons]
      have hn : ls.filter (fun s => guardB s && decide (s.author = k)) = [] := List.filter_eq_nil_iff.2 fun x hx => by
        have : guardB x = false := by simp [guardB, hl x hx]
        rw [this]; simp
      rw [hn, hs]
      by_cases e : s.author = k <;> simp [e]
    rw [this]
    by_cases e : s.author = k <;> simp [e]
  unfold guardsTo
  rw [show (List.range 64) = 0 :: (List.range' 1 63) from rfl, List.filterMap_cons]
  simp only [hf]
  rw [if_pos (by simpa using h0)]
  simp only [List.cons.injEq, true_and]
  rw [List.filterMap_eq_nil_iff]
  intro k hk
  have := (List.mem_range'_1.1 hk).1
  rw [if_neg (by omega)]
end Go.Proofs.YtdgfankkapeclaaGreat
