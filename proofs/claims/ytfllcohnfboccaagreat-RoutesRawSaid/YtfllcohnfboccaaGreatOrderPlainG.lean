/- An order that keeps what is equal is unique; the reference's order by insertion is such a one. Plain, no program in sight. -/
import Derived.Test.YtfllcohnfboccaaGreatMg07
import Derived.Test.YtfllcohnfboccaaGreatRunsG
namespace Go.Proofs.YtfllcohnfboccaaGreat
open Go.Sort

section
variable {α : Type}
def Rises (lt : α → α → Bool) (l : List α) : Prop := l.Pairwise (fun a b => lt b a = false)
theorem kind_of {lt : α → α → Bool} (hS : SWO lt) (a : α) : Kind lt (fun x => !lt x a && !lt a x) := fun x y hx hy => by
  simp only [Bool.and_eq_true, Bool.not_eq_true'] at hx hy
  exact hS.ntrans x a y hx.1 hy.2
theorem rises_uniq {lt : α → α → Bool} (hS : SWO lt) : ∀ (l m : List α), Rises lt l → Rises lt m → (∀ p, Kind lt p → l.filter p = m.filter p) → l = m
  | [], [], _, _, _ => rfl
  | [], b :: m, _, _, h => by
    have := h _ (kind_of hS b)
    simp [hS.irrefl b] at this
  | a :: l, [], _, _, h => by
    have := h _ (kind_of hS a)
    simp [hS.irrefl a] at this
  | a :: l, b :: m, hl, hm, h => by
    have key : ∀ (a b : α) (l m : List α), Rises lt (b :: m) → (∀ p, Kind lt p → (a :: l).filter p = (b :: m).filter p) → lt a b = false := fun a b l m hm h => by
      have hk := h _ (kind_of hS a)
      have ha : a ∈ (b :: m).filter (fun x => !lt x a && !lt a x) := by
        rw [← hk]; simp [hS.irrefl a]
      simp only [List.mem_filter, List.mem_cons] at ha
      rcases ha.1 with e | hm'
      · rw [e]; exact hS.irrefl b
      · exact (List.pairwise_cons.1 hm).1 a hm'
    have h1 := key a b l m hm h
    have h2 := key b a m l hl (fun p hp => (h p hp).symm)
    have hk := h _ (kind_of hS a)
    have e1 : (a :: l).filter (fun x => !lt x a && !lt a x) = a :: l.filter (fun x => !lt x a && !lt a x) := by simp [hS.irrefl a]
    have e2 : (b :: m).filter (fun x => !lt x a && !lt a x) = b :: m.filter (fun x => !lt x a && !lt a x) := by simp [h1, h2]
    rw [e1, e2] at hk
    have hab : a = b := (List.cons.inj hk).1
    subst hab
    congr 1
    refine rises_uniq hS l m (List.pairwise_cons.1 hl).2 (List.pairwise_cons.1 hm).2 fun p hp => ?_
    have := h p hp
    simp only [List.filter_cons] at this
    split at this
    · exact (List.cons.inj this).2
    · exact this

/-- Where an element is put: behind the last one that it does not come before. -/
def posI (lt : α → α → Bool) (l : List α) (x : α) : Nat → Nat
  | 0 => 0
  | k + 1 => match l[k]? with | some y => if lt x y then posI lt l x k else k + 1 | none => k + 1
def insI (lt : α → α → Bool) (l : List α) (x : α) : List α := l.take (posI lt l x l.length) ++ x :: l.drop (posI lt l x l.length)
def orderI (lt : α → α → Bool) (l : List α) : List α := l.foldl (insI lt) []
theorem posI_le (lt : α → α → Bool) (l : List α) (x : α) : ∀ k, posI lt l x k ≤ k
  | 0 => Nat.le_refl _
  | k + 1 => by
    unfold posI
    split
    · split
      · exact Nat.le_succ_of_le (posI_le lt l x k)
      · exact Nat.le_refl _
    · exact Nat.le_refl _
theorem posI_go {lt : α → α → Bool} {l : List α} {x y : α} {k : Nat} (h : l[k]? = some y) (hb : lt x y = true) : posI lt l x (k + 1) = posI lt l x k := by
  rw [posI]; simp [h, hb]
theorem posI_stop {lt : α → α → Bool} {l : List α} {x y : α} {k : Nat} (h : l[k]? = some y) (hb : lt x y = false) : posI lt l x (k + 1) = k + 1 := by
  rw [posI]; simp [h, hb]
theorem posI_behind (lt : α → α → Bool) (l : List α) (x : α) : ∀ k, k ≤ l.length → ∀ j y, posI lt l x k ≤ j → j < k → l[j]? = some y → lt x y = true
  | 0, _, j, y, _, h, _ => by omega
  | k + 1, hk, j, y, h1, h2, h3 => by
    have e : l[k]? = some l[k] := List.getElem?_eq_getElem (by omega)
    cases hb : lt x l[k] with
    | true =>
      rw [posI_go e hb] at h1
      by_cases hj : j = k
      · subst hj; rw [e] at h3; cases h3; exact hb
      · exact posI_behind lt l x k (by omega) j y h1 (by omega) h3
    | false => rw [posI_stop e hb] at h1; omega
theorem posI_ahead (lt : α → α → Bool) (l : List α) (x : α) : ∀ k, k ≤ l.length → posI lt l x k = 0 ∨ ∃ j y, posI lt l x k = j + 1 ∧ l[j]? = some y ∧ lt x y = false
  | 0, _ => Or.inl rfl
  | k + 1, hk => by
    have e : l[k]? = some l[k] := List.getElem?_eq_getElem (by omega)
    cases hb : lt x l[k] with
    | true => rw [posI_go e hb]; exact posI_ahead lt l x k (by omega)
    | false => rw [posI_stop e hb]; exact Or.inr ⟨k, _, rfl, e, hb⟩
theorem insI_len (lt : α → α → Bool) (l : List α) (x : α) : (insI lt l x).length = l.length + 1 := by
  have := posI_le lt l x l.length
  simp [insI]; omega
theorem insI_filter {lt : α → α → Bool} {p : α → Bool} (hp : Kind lt p) (l : List α) (x : α) : (insI lt l x).filter p = l.filter p ++ [x].filter p := by
  have e : l.filter p = (l.take (posI lt l x l.length)).filter p ++ (l.drop (posI lt l x l.length)).filter p := by rw [← List.filter_append, List.take_append_drop]
  rw [e]
  unfold insI
  rw [List.filter_append, List.append_assoc]
  congr 1
  cases hx : p x with
  | false => simp [hx]
  | true =>
    have : (l.drop (posI lt l x l.length)).filter p = [] := by
      rw [List.filter_eq_nil_iff]
      intro y hy hpy
      obtain ⟨j, hj⟩ := List.mem_iff_getElem?.1 hy
      rw [List.getElem?_drop] at hj
      have hjl := (List.getElem?_eq_some_iff.1 hj).1
      have := posI_behind lt l x l.length (Nat.le_refl _) _ y (Nat.le_add_right _ j) hjl hj
      rw [hp x y hx hpy] at this
      cases this
    simp [hx, this]
theorem insI_rises {lt : α → α → Bool} (hS : SWO lt) {l : List α} (hl : Rises lt l) (x : α) : Rises lt (insI lt l x) := by
  unfold insI Rises
  have hl' : Rises lt (l.take (posI lt l x l.length) ++ l.drop (posI lt l x l.length)) := by rw [List.take_append_drop]; exact hl
  obtain ⟨h1, h2, h3⟩ := List.pairwise_append.1 hl'
  have hb : ∀ y ∈ l.drop (posI lt l x l.length), lt x y = true := fun y hy => by
    obtain ⟨j, hj⟩ := List.mem_iff_getElem?.1 hy
    rw [List.getElem?_drop] at hj
    exact posI_behind lt l x l.length (Nat.le_refl _) _ y (Nat.le_add_right _ j) (List.getElem?_eq_some_iff.1 hj).1 hj
  have ha : ∀ y ∈ l.take (posI lt l x l.length), lt x y = false := fun y hy => by
    rcases posI_ahead lt l x l.length (Nat.le_refl _) with h0 | ⟨j, z, hj, hz, hlt⟩
    · rw [h0] at hy; simp at hy
    · obtain ⟨i, hi⟩ := List.mem_iff_getElem?.1 hy
      have hil := (List.getElem?_eq_some_iff.1 hi).1
      have hil' : i < posI lt l x l.length := by simp at hil; omega
      rw [List.getElem?_take, if_pos hil'] at hi
      by_cases hij : i = j
      · subst hij; rw [hz] at hi; cases hi; exact hlt
      · have hzy : lt z y = false := by
          have hz' := (List.getElem?_eq_some_iff.1 hz)
          have hi' := (List.getElem?_eq_some_iff.1 hi)
          have := List.pairwise_iff_getElem.1 hl i j hi'.1 hz'.1 (by omega)
          rw [hz'.2, hi'.2] at this
          exact this
        exact hS.ntrans x z y hlt hzy
  refine List.pairwise_append.2 ⟨h1, List.pairwise_cons.2 ⟨fun y hy => ?_, h2⟩, fun y hy z hz => ?_⟩
  · have := hb y hy
    cases e : lt y x with
    | false => rfl
    | true => have := hS.trans _ _ _ this e; rw [hS.irrefl] at this; cases this
  · simp only [List.mem_cons] at hz
    rcases hz with rfl | hz
    · exact ha y hy
    · exact h3 y hy z hz
theorem orderI_spec {lt : α → α → Bool} (hS : SWO lt) (l : List α) : Rises lt (orderI lt l) ∧ ∀ p, Kind lt p → (orderI lt l).filter p = l.filter p := by
  have key : ∀ (l acc : List α), Rises lt acc → Rises lt (l.foldl (insI lt) acc) ∧ ∀ p, Kind lt p → (l.foldl (insI lt) acc).filter p = acc.filter p ++ l.filter p := by
    intro l
    induction l with
    | nil => intro acc h; exact ⟨h, fun p _ => by simp⟩
    | cons x r ih =>
      intro acc h
      obtain ⟨h1, h2⟩ := ih (insI lt acc x) (insI_rises hS h x)
      refine ⟨h1, fun p hp => ?_⟩
      rw [List.foldl_cons, h2 p hp, insI_filter hp, List.append_assoc, ← List.filter_append]
      rfl
  have := key l [] List.Pairwise.nil
  exact ⟨this.1, fun p hp => by simpa [orderI] using this.2 p hp⟩
theorem orderI_len (lt : α → α → Bool) (l : List α) : (orderI lt l).length = l.length := by
  have key : ∀ (l acc : List α), (l.foldl (insI lt) acc).length = acc.length + l.length := by
    intro l
    induction l with
    | nil => intro acc; simp
    | cons x r ih => intro acc; rw [List.foldl_cons, ih, insI_len, List.length_cons]; omega
  simpa [orderI] using key l []
theorem orderI_snoc {lt : α → α → Bool} {l : List α} {k : Nat} {s : α} (h : l[k]? = some s) : orderI lt (l.take (k + 1)) = insI lt (orderI lt (l.take k)) s := by
  unfold orderI
  rw [List.take_add_one, h, List.foldl_append]; rfl
/-- A list that rises is ordered already. -/
theorem orderI_self {lt : α → α → Bool} (hS : SWO lt) {l : List α} (h : Rises lt l) : orderI lt l = l :=
  rises_uniq hS _ _ (orderI_spec hS l).1 h (orderI_spec hS l).2
theorem orderI_mem {lt : α → α → Bool} {l : List α} {x : α} : x ∈ orderI lt l ↔ x ∈ l := by
  have key : ∀ (l acc : List α), x ∈ l.foldl (insI lt) acc ↔ x ∈ acc ∨ x ∈ l := by
    intro l
    induction l with
    | nil => intro acc; simp
    | cons y r ih =>
      intro acc
      rw [List.foldl_cons, ih]
      have : x ∈ insI lt acc y ↔ x ∈ acc ∨ x = y := by
        unfold insI
        have e : x ∈ acc ↔ x ∈ acc.take (posI lt acc y acc.length) ∨ x ∈ acc.drop (posI lt acc y acc.length) := by
          rw [← List.mem_append, List.take_append_drop]
        rw [e]; simp only [List.mem_append, List.mem_cons]
        constructor
        · rintro (h | h | h)
          · exact .inl (.inl h)
          · exact .inr h
          · exact .inl (.inr h)
        · rintro ((h | h) | h)
          · exact .inl h
          · exact .inr (.inr h)
          · exact .inr (.inl h)
      rw [this, List.mem_cons]
      constructor
      · rintro ((h | h) | h)
        · exact .inl h
        · exact .inr (.inl h)
        · exact .inr (.inr h)
      · rintro (h | h | h)
        · exact .inl (.inl h)
        · exact .inl (.inr h)
        · exact .inr h
  simpa [orderI] using key l []
end

theorem swo_before : SWO beforeB := by
  refine ⟨fun x => ?_, fun x y z h1 h2 => ?_, fun x y z h1 h2 => ?_⟩
  · simp [beforeB]
  · simp only [beforeB, Bool.or_eq_true, Bool.and_eq_true, decide_eq_true_eq] at *; omega
  · simp only [beforeB, Bool.or_eq_false_iff, Bool.and_eq_false_iff, decide_eq_false_iff_not] at *; omega
/-- What a stable sort makes of statements with their lists' headers is the reference's order. -/
theorem stab_order {β : Type} [Inhabited β] {cf : St × β → St × β → Int} (hc : ∀ x y, ltOf cf x y = beforeB x.1 y.1) {d d' : Array (St × β)} (h : Stab (ltOf cf) d d') : d'.toList.map (·.1) = orderI beforeB (d.toList.map (·.1)) := by
  obtain ⟨hs, ho, _, hf⟩ := h
  obtain ⟨r1, r2⟩ := orderI_spec swo_before (d.toList.map (·.1))
  refine rises_uniq swo_before _ _ ?_ r1 fun p hp => ?_
  · refine List.pairwise_iff_getElem.2 fun i j hi hj hij => ?_
    simp only [List.length_map, Array.length_toList] at hi hj
    have := ho i j (Nat.zero_le _) hij (by rw [← hs]; exact hj)
    rw [hc, getElem!_pos d' j hj, getElem!_pos d' i hi] at this
    simpa using this
  · rw [r2 p hp]
    have := hf (fun x => p x.1) (fun x y hx hy => by rw [hc]; exact hp x.1 y.1 hx hy)
    rw [List.filter_map, List.filter_map]
    exact congrArg _ this
end Go.Proofs.YtfllcohnfboccaaGreat
