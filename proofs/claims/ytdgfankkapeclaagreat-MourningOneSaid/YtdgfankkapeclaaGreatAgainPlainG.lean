/- MourningAgain: heirs that lead upwards: plain laws. No program in sight. -/
import Derived.Test.YtdgfankkapeclaaGreatMg13
namespace Go.Proofs.YtdgfankkapeclaaGreat
open Go.RowKit Go.Sort

/-- Heirs as the law makes them: each leads from a key below 10 to a greater one, at most 14. -/
def Good (hs : List (Int × Int)) : Prop := ∀ p ∈ hs, 0 ≤ p.1 ∧ p.1 < 10 ∧ p.1 < p.2 ∧ p.2 ≤ 14
theorem Good.nil : Good [] := fun p hp => by simp at hp
theorem Good.snoc {hs : List (Int × Int)} (h : Good hs) {x : Int × Int} (h0 : 0 ≤ x.1) (h1 : x.1 < 10) (h2 : x.1 < x.2) (h3 : x.2 ≤ 14) : Good (hs ++ [x]) := fun p hp => by
  simp only [List.mem_append, List.mem_singleton] at hp
  rcases hp with hp | rfl
  · exact h p hp
  · exact ⟨h0, h1, h2, h3⟩
theorem heirI_some {hs : List (Int × Int)} {k x : Int} (h : heirI hs k = some x) : (k, x) ∈ hs := by
  unfold heirI at h
  cases e : hs.find? (fun z => z.1 == k) with
  | none => rw [e] at h; cases h
  | some z =>
    rw [e] at h
    have h1 := List.mem_of_find?_eq_some e
    have h2 := List.find?_some e
    simp at h h2
    obtain ⟨a, b⟩ := z
    simp at h h2
    subst h h2
    exact h1
def lostB (hs : List (Int × Int)) (y : Int) : Bool := hs.any (fun z => z.1 == y)
theorem lostB_iff {hs : List (Int × Int)} {y : Int} : lostB hs y = (heirI hs y).isSome := by
  unfold lostB heirI
  rw [Option.isSome_map, Bool.eq_iff_iff, List.find?_isSome, List.any_eq_true]
def Up (f : Int → Option Int) : Prop := ∀ k x, f k = some x → 0 ≤ k ∧ k < 10 ∧ k < x ∧ x ≤ 14
theorem Good.up {hs : List (Int × Int)} (h : Good hs) : Up (heirI hs) := fun k x e => h (k, x) (heirI_some e)

theorem follow_up {f : Int → Option Int} (hf : Up f) (k : Int) : ∀ (t n : Nat) (y : Int) (met : List Int), (15 - y).toNat ≤ t → met.getD (met.length - 1) 0 = y → (∀ z ∈ met, z ≤ y) → 1 ≤ met.length → 0 ≤ y → (met.length : Int) ≤ y + 1 → 18 ≤ n + met.length → y ≤ 14 →
    f (followF f k n met) = none ∧ y ≤ followF f k n met ∧ followF f k n met ≤ 14 ∧ (∀ x, f y = some x → y < followF f k n met)
  | 0, n, y, met, h1, _, _, _, _, _, _, h8 => absurd h8 (by omega)
  | t + 1, n, y, met, h1, h2, h3, h4, h5, h6, h7, h8 => by
    cases e : f y with
    | none =>
      rw [followF_end h2 e (by omega)]
      exact ⟨e, Int.le_refl _, h8, fun x hx => by cases hx⟩
    | some x =>
      obtain ⟨a1, a2, a3, a4⟩ := hf y x e
      have hx : hasI met x = false := by
        rw [hasI_not]; intro hm; have := h3 x hm; omega
      rw [followF_step h2 e (by rw [hx]; simp; omega) (by omega)]
      obtain ⟨b1, b2, b3, _⟩ := follow_up hf k t (n - 1) x (met ++ [x]) (by omega) (by simp) (fun z hz => by
        simp only [List.mem_append, List.mem_singleton] at hz
        rcases hz with hz | hz
        · have := h3 z hz; omega
        · omega) (by simp) (by omega) (by simp; omega) (by simp; omega) a4
      exact ⟨b1, by omega, b3, fun x' hx' => by omega⟩
theorem follow_stay {f : Int → Option Int} {k : Int} (h : f k = none) : followI f k = k := by
  unfold followI
  exact followF_end rfl h (by omega)
theorem follow_facts {f : Int → Option Int} (hf : Up f) {k : Int} (h0 : 0 ≤ k) (h1 : k ≤ 14) : f (followI f k) = none ∧ k ≤ followI f k ∧ followI f k ≤ 14 ∧ (∀ x, f k = some x → k < followI f k) := by
  unfold followI
  exact follow_up hf k 15 17 k [k] (by omega) (by simp) (by simp) (by simp) h0 (by simp; omega) (by simp) h1
theorem mem_replTo {f : Int → Option Int} {l : List Int} {e : Int} (hl : ∀ x ∈ l, 0 ≤ x ∧ x < 64) : e ∈ replTo f l l.length ↔ ∃ y ∈ l, followI f y = e := by
  have key : ∀ k, k ≤ l.length → (e ∈ replTo f l k ↔ ∃ y ∈ l.take k, followI f y = e) := by
    intro k
    induction k with
    | zero => intro _; simp [replTo]
    | succ k ih =>
      intro hk
      have hm : l.getD k 0 ∈ l := by
        rw [List.getD_eq_getElem?_getD, List.getElem?_eq_getElem (by omega)]
        exact List.getElem_mem _
      rw [replTo, if_pos (hl _ hm), List.mem_append, ih (by omega), take_snoc l k (by omega)]
      constructor
      · rintro (⟨y, hy, h⟩ | h)
        · exact ⟨y, List.mem_append_left _ hy, h⟩
        · simp at h; exact ⟨l.getD k 0, List.mem_append_right _ (by simp), by simpa using h.symm⟩
      · rintro ⟨y, hy, h⟩
        rw [List.mem_append, List.mem_singleton] at hy
        rcases hy with hy | hy
        · exact Or.inl ⟨y, hy, h⟩
        · subst hy; right; simp at h ⊢; exact h.symm
  have := key l.length (Nat.le_refl _)
  rwa [List.take_length] at this
theorem mem_replI {f : Int → Option Int} {l : List Int} {e : Int} (hl : ∀ x ∈ l, 0 ≤ x ∧ x < 64) : e ∈ replI f l ↔ 0 ≤ e ∧ e < 64 ∧ ∃ y ∈ l, followI f y = e := by
  unfold replI joinI
  rw [mem_keysTo]
  simp only [hasI_nil, Bool.or_false, hasI_iff, mem_replTo hl]
  constructor
  · rintro ⟨a, b, c⟩; exact ⟨a, by omega, c⟩
  · rintro ⟨a, b, c⟩; exact ⟨a, by omega, c⟩
theorem again {f : Int → Option Int} (hf : Up f) {r : List Int} (hr : ∀ x ∈ r, 0 ≤ x ∧ x ≤ 14) : replI f (replI f r) = replI f r := by
  have hr64 : ∀ x ∈ r, 0 ≤ x ∧ x < 64 := fun x hx => by have := hr x hx; omega
  have ha : ∀ x ∈ replI f r, 0 ≤ x ∧ x < 64 := fun x hx => by have := (mem_replI hr64).1 hx; omega
  refine strict_ext _ _ (keysTo_strict _ _) (keysTo_strict _ _) fun e => ?_
  rw [mem_replI ha]
  constructor
  · rintro ⟨h1, h2, y, hy, he⟩
    obtain ⟨_, _, z, hz, hze⟩ := (mem_replI hr64).1 hy
    have := (follow_facts hf (hr z hz).1 (hr z hz).2).1
    rw [hze] at this
    rw [follow_stay this] at he
    subst he; exact hy
  · intro he
    obtain ⟨h1, h2, z, hz, hze⟩ := (mem_replI hr64).1 he
    have := (follow_facts hf (hr z hz).1 (hr z hz).2).1
    rw [hze] at this
    exact ⟨h1, h2, e, he, follow_stay this⟩
theorem someTo_mem {d : List Int} {k : Nat} {x : Int} (h : x ∈ (someTo d k).1) : 0 ≤ x ∧ x < k := by
  induction k with
  | zero => simp [someTo] at h
  | succ k ih =>
    simp only [someTo, List.mem_append] at h
    rcases h with h | h
    · have := ih h; omega
    · split at h
      · simp at h; omega
      · simp at h
theorem keysD_mem {d : List Int} {n : Int} (hn : 1 ≤ n) {x : Int} (h : x ∈ (keysD d n).1) : 0 ≤ x ∧ x < n := by
  unfold keysD at h
  split at h
  · simp at h; subst h; exact dVal_bd hn
  · have := someTo_mem h; omega
theorem keysD_len (d : List Int) {n : Int} (hn : 1 ≤ n) : ((keysD d n).1.length : Int) ≤ n := by
  unfold keysD
  split
  · simp; omega
  · have := someTo_le d n.toNat; omega
end Go.Proofs.YtdgfankkapeclaaGreat
