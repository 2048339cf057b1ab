/- MourningOne: plain laws about heirs. No program in sight. -/
import Derived.Test.YtdgfankkapeclaaGreatMajorPlainG
import Derived.Test.YtdgfankkapeclaaGreatAgainPlainG
import Derived.Lib.RowBridge
namespace Go.Proofs.YtdgfankkapeclaaGreat
open Go.RowKit Go.Sort

/-- What the choice has found. -/
theorem pick_enP {vl : List Vote} {g : GuardD} (n : Nat) : (pickP vl g n).2 = 0 ∨ ∃ k : Nat, k < n ∧ (pickP vl g n).1 = k ∧ enP vl g k = true := by
  induction n with
  | zero => exact .inl rfl
  | succ n ih =>
    rw [pickP_succ]
    unfold stepP
    split
    · next h => exact .inr ⟨n, by omega, rfl, h.1⟩
    · rcases ih with h | ⟨k, h1, h2, h3⟩
      · exact .inl h
      · exact .inr ⟨k, by omega, h2, h3⟩
theorem heirs_mem {vl : List Vote} {gs : List GuardD} {x : Int × Int} (h : x ∈ heirsP vl gs) : ∃ g ∈ gs, x.1 = g.1 ∧ ∃ k : Nat, k < 64 ∧ x.2 = k ∧ enP vl g k = true := by
  unfold heirsP at h
  obtain ⟨g, hg, hx⟩ := List.mem_flatMap.1 h
  refine ⟨g, hg, ?_⟩
  unfold heirP at hx
  split at hx
  · next hp =>
    rw [List.mem_singleton] at hx
    subst hx
    refine ⟨rfl, ?_⟩
    rcases pick_enP (vl := vl) (g := g) 64 with h0 | ⟨k, h1, h2, h3⟩
    · omega
    · exact ⟨k, h1, h2, h3⟩
  · cases hx
/-- An heir is not the key that is lost. -/
theorem heirs_ne {l : List St} {gs : List GuardD} {x : Int × Int} (h : x ∈ heirsP (votesG l) gs) : x.1 ≠ x.2 := by
  obtain ⟨g, _, h1, k, _, h2, h3⟩ := heirs_mem h
  obtain ⟨p, hp, e1, e2⟩ := enP_vote h3
  obtain ⟨s, _, hs, rfl⟩ := votesG_mem hp
  have := (rightB_parts (lossB_parts hs).2.1).2.2
  rw [h1, h2, ← e1, ← e2]
  exact this
theorem heirs_key {l : List St} {gs : List GuardD} {x : Int × Int} (h : x ∈ heirsP (votesG l) gs) : (0 ≤ x.1 ∧ x.1 < 64) ∧ 0 ≤ x.2 ∧ x.2 < 64 := by
  obtain ⟨g, _, h1, k, _, h2, h3⟩ := heirs_mem h
  obtain ⟨p, hp, e1, e2⟩ := enP_vote h3
  obtain ⟨s, _, hs, rfl⟩ := votesG_mem hp
  have := rightB_parts (lossB_parts hs).2.1
  rw [h1, h2, ← e1, ← e2]
  exact ⟨this.1, this.2.1⟩
/-- The guardians of the keys come by their owners. -/
theorem guardsTo_up (l : List St) (n : Nat) : (guardsTo l n).Pairwise fun a b => a.1 < b.1 := by
  induction n with
  | zero => exact List.Pairwise.nil
  | succ n ih =>
    rw [guardsTo_succ, List.pairwise_append]
    refine ⟨ih, ?_, fun a ha b hb => ?_⟩
    · cases h : lastG l (n : Int) <;> simp
    · cases h : lastG l (n : Int) with
      | none => rw [h] at hb; cases hb
      | some y =>
        rw [h] at hb
        simp at hb
        subst hb
        have h1 := (lastG_valid h).1
        have h2 := (guardsTo_valid ha).2.2
        omega
theorem heirs_up {vl : List Vote} {gs : List GuardD} (h : gs.Pairwise fun a b => a.1 < b.1) : (heirsP vl gs).Pairwise fun a b => a.1 < b.1 := by
  induction gs with
  | nil => exact List.Pairwise.nil
  | cons g r ih =>
    obtain ⟨h1, h2⟩ := List.pairwise_cons.1 h
    unfold heirsP at *
    rw [List.flatMap_cons, List.pairwise_append]
    refine ⟨?_, ih h2, fun a ha b hb => ?_⟩
    · unfold heirP; split <;> simp
    · have ea : a.1 = g.1 := by
        unfold heirP at ha
        split at ha
        · rw [List.mem_singleton] at ha; subst ha; rfl
        · cases ha
      obtain ⟨g', hg', e, _⟩ := heirs_mem (vl := vl) (gs := r) (x := b) hb
      rw [ea, e]
      exact h1 g' hg'
theorem heirs_next {vl : List Vote} {l : List St} {i : Nat} {x y : Int × Int} (hx : (heirsP vl (guardsTo l 64))[i]? = some x) (hy : (heirsP vl (guardsTo l 64))[i + 1]? = some y) : x.1 < y.1 := by
  have h := heirs_up (vl := vl) (guardsTo_up l 64)
  obtain ⟨h1, rfl⟩ := List.getElem?_eq_some_iff.1 hx
  obtain ⟨h2, rfl⟩ := List.getElem?_eq_some_iff.1 hy
  exact (List.pairwise_iff_getElem.1 h) i (i + 1) h1 h2 (by omega)
/-- Guardians of the key a who name b are enough. -/
def hitG (vl : List Vote) (a b : Int) (g : GuardD) : Bool := decide (g.1 = a) && enoughG g.1 g.2.1 g.2.2 (voicesL (onLost vl a) b 64)
def foundTo (vl : List Vote) (a b : Int) (gs : List GuardD) (k : Nat) : Bool := (gs.take k).any (hitG vl a b)
theorem foundTo_succ {vl : List Vote} {a b : Int} {gs : List GuardD} {k : Nat} {g : GuardD} (h : gs[k]? = some g) : foundTo vl a b gs (k + 1) = (foundTo vl a b gs k || hitG vl a b g) := by
  unfold foundTo
  rw [List.take_add_one, h, List.any_append]
  simp
theorem found_all {vl : List Vote} {gs : List GuardD} {x : Int × Int} (h : x ∈ heirsP vl gs) : foundTo vl x.1 x.2 gs gs.length = true := by
  obtain ⟨g, hg, h1, k, _, h2, h3⟩ := heirs_mem h
  unfold foundTo
  rw [List.take_length, List.any_eq_true]
  refine ⟨g, hg, ?_⟩
  unfold hitG
  rw [h1, h2]
  unfold enP allP at h3
  simp [h3]
theorem heirsP_len (vl : List Vote) (l : List St) : (heirsP vl (guardsTo l 64)).length ≤ 64 := by
  have h : ∀ gs : List GuardD, (heirsP vl gs).length ≤ gs.length := fun gs => by
    induction gs with
    | nil => exact Nat.le_refl _
    | cons g r ih =>
      unfold heirsP at *
      rw [List.flatMap_cons, List.length_append, List.length_cons]
      have : (heirP vl g).length ≤ 1 := by unfold heirP; split <;> simp
      omega
  exact Nat.le_trans (h _) (guardsTo_len l 64)
/-- Where keys lead is a key. -/
theorem followF_key {f : Int → Option Int} {k : Int} (hk : 0 ≤ k ∧ k < 64) : ∀ (n : Nat) (met : List Int), 1 ≤ met.length → (∀ z ∈ met, 0 ≤ z ∧ z < 64) → (∀ k x, f k = some x → 0 ≤ x ∧ x < 64) → 0 ≤ followF f k n met ∧ followF f k n met < 64
  | 0, _, _, _, _ => hk
  | n + 1, met, h1, h2, hf => by
    have hl : met.getD (met.length - 1) 0 ∈ met := by
      rw [List.getD_eq_getElem?_getD, List.getElem?_eq_getElem (by omega)]
      exact List.getElem_mem _
    unfold followF
    cases e : f (met.getD (met.length - 1) 0) with
    | none => exact h2 _ hl
    | some x =>
      dsimp only
      split
      · exact hk
      · exact followF_key hk n (met ++ [x]) (by simp) (fun z hz => by
          rcases List.mem_append.1 hz with hz | hz
          · exact h2 z hz
          · rw [List.mem_singleton.1 hz]; exact hf _ _ e) hf
theorem followI_key {f : Int → Option Int} {k : Int} (hk : 0 ≤ k ∧ k < 64) (hf : ∀ k x, f k = some x → 0 ≤ x ∧ x < 64) : 0 ≤ followI f k ∧ followI f k < 64 :=
  followF_key hk 17 [k] (by simp) (by simp; exact hk) hf
theorem replI_le (f : Int → Option Int) (r : List Int) : (replI f r).length ≤ r.length := by
  rw [← gath_uniq]
  unfold uniq
  refine Nat.le_trans (Lib.compact_length_le _) ?_
  rw [List.length_mergeSort]
  exact gath_le f r _
end Go.Proofs.YtdgfankkapeclaaGreat
