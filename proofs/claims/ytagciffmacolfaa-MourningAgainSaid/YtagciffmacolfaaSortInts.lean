/- Sorted and compacted numbers: plain laws; the library's Sort and Compact at ints, met in these texts' words. No statement of the seat. -/
import Derived.Test.YtagciffmacolfaaShelf
import Derived.Test.YtagciffmacolfaaRowK
import Derived.Test.YtagciffmacolfaaMemK
import Derived.Test.YtagciffmacolfaaPlain
namespace Go.Proofs.Ytagciffmacolfaa
open Go.RowKit Go.Sort Go.Lib

theorem strict_ext : ∀ xs ys : List Int, xs.Pairwise (· < ·) → ys.Pairwise (· < ·) → (∀ x, x ∈ xs ↔ x ∈ ys) → xs = ys
  | [], [], _, _, _ => rfl
  | [], y :: r, _, _, h => by have := (h y).2 (by simp); simp at this
  | x :: r, [], _, _, h => by have := (h x).1 (by simp); simp at this
  | x :: r, y :: s, h1, h2, h => by
    rw [List.pairwise_cons] at h1 h2
    have e : x = y := by
      have a := (h x).1 (by simp)
      have b := (h y).2 (by simp)
      simp only [List.mem_cons] at a b
      rcases a with a | a
      · exact a
      · rcases b with b | b
        · exact b.symm
        · have := h1.1 y b; have := h2.1 x a; omega
    subst e
    congr 1
    refine strict_ext r s h1.2 h2.2 fun z => ?_
    constructor
    · intro hz
      have := (h z).1 (by simp [hz])
      simp only [List.mem_cons] at this
      rcases this with e | e
      · have := h1.1 z hz; omega
      · exact e
    · intro hz
      have := (h z).2 (by simp [hz])
      simp only [List.mem_cons] at this
      rcases this with e | e
      · have := h2.1 z hz; omega
      · exact e
theorem strict_snoc {xs : List Int} {y : Int} (h : xs.Pairwise (· < ·)) (hy : ∀ x ∈ xs, x < y) : (xs ++ [y]).Pairwise (· < ·) := by
  rw [List.pairwise_append]
  exact ⟨h, by simp, fun a ha b hb => by simp at hb; subst hb; exact hy a ha⟩
theorem keysTo_strict (c : Int → Bool) (n : Nat) : (keysTo c n).Pairwise (· < ·) := by
  induction n with
  | zero => simp [keysTo]
  | succ n ih =>
    rw [keysTo]
    split
    · exact strict_snoc ih fun x hx => (mem_keysTo.1 hx).2.1
    · simpa using ih
theorem comp_strict (d : Array Int) (hs : ∀ i j, i ≤ j → j < d.size → d[i]! ≤ d[j]!) : ∀ m, m ≤ d.size → (compactUpTo d m).Pairwise (· < ·) ∧ (∀ x, x ∈ compactUpTo d m ↔ ∃ i, i < m ∧ d[i]! = x)
  | 0, _ => ⟨by simp [compactUpTo], fun x => by simp [compactUpTo]⟩
  | m + 1, hm => by
    obtain ⟨h1, h2⟩ := comp_strict d hs m (by omega)
    rw [compactUpTo_succ]
    cases e : keeps d m with
    | true =>
      rw [if_pos rfl]
      refine ⟨strict_snoc h1 fun x hx => ?_, fun x => ?_⟩
      · obtain ⟨i, hi, rfl⟩ := (h2 x).1 hx
        have a := hs i (m - 1) (by omega) (by omega)
        have b := hs (m - 1) m (by omega) (by omega)
        have c : d[m]! ≠ d[m - 1]! := by
          unfold keeps at e
          have : ¬ m = 0 := by omega
          simpa [this] using e
        omega
      · rw [List.mem_append, h2]
        constructor
        · rintro (⟨i, hi, h⟩ | h)
          · exact ⟨i, by omega, h⟩
          · simp at h; exact ⟨m, by omega, h.symm⟩
        · rintro ⟨i, hi, h⟩
          by_cases c : i = m
          · subst c; right; simp [h]
          · exact Or.inl ⟨i, by omega, h⟩
    | false =>
      rw [if_neg (by simp), List.append_nil]
      refine ⟨h1, fun x => ?_⟩
      rw [h2]
      have h0 : m ≠ 0 := by intro h0; subst h0; simp [keeps] at e
      have c : d[m]! = d[m - 1]! := by
        unfold keeps at e
        simpa [h0] using e
      constructor
      · rintro ⟨i, hi, h⟩; exact ⟨i, by omega, h⟩
      · rintro ⟨i, hi, h⟩
        by_cases c' : i = m
        · subst c'; exact ⟨i - 1, by omega, by rw [← c]; exact h⟩
        · exact ⟨i, by omega, h⟩

/-- The numbers of a list, each once, ascending. -/
def uniq (l : List Int) : List Int := Lib.compact (l.mergeSort fun x y => decide (x ≤ y))
theorem compact_spec (s : List Int) (hp : s.Pairwise (fun x y => decide (x ≤ y) = true)) : (Lib.compact s).Pairwise (· < ·) ∧ ∀ x, x ∈ Lib.compact s ↔ x ∈ s := by
  have hs : ∀ i j, i ≤ j → j < s.toArray.size → s.toArray[i]! ≤ s.toArray[j]! := fun i j hij hj => by
    have hj' : j < s.length := by simpa using hj
    rw [getElem!_pos s.toArray i (by simp; omega), getElem!_pos s.toArray j hj]
    simp only [List.getElem_toArray]
    by_cases c : i = j
    · subst c; exact Int.le_refl _
    · have := List.pairwise_iff_getElem.1 hp i j (by omega) hj' (by omega)
      simpa using this
  obtain ⟨h1, h2⟩ := comp_strict s.toArray hs s.length (by simp)
  refine ⟨h1, fun x => (h2 x).trans ?_⟩
  rw [List.mem_iff_getElem]
  constructor
  · rintro ⟨i, hi, h⟩
    refine ⟨i, hi, ?_⟩
    rw [getElem!_pos s.toArray i (by simpa using hi)] at h
    simpa using h
  · rintro ⟨i, hi, h⟩
    refine ⟨i, hi, ?_⟩
    rw [getElem!_pos s.toArray i (by simpa using hi)]
    simpa using h
theorem uniq_spec (l : List Int) : (uniq l).Pairwise (· < ·) ∧ ∀ x, x ∈ uniq l ↔ x ∈ l := by
  have hp : (l.mergeSort fun x y => decide (x ≤ y)).Pairwise (fun x y => decide (x ≤ y) = true) := List.pairwise_mergeSort (fun a b c h1 h2 => by simp at *; omega) (fun a b => by simp; omega) l
  obtain ⟨h1, h2⟩ := compact_spec _ hp
  exact ⟨h1, fun x => (h2 x).trans List.mem_mergeSort⟩
/-- Of keys the numbers, each once, ascending, are what the reference's Join makes of them. -/
theorem uniq_keys (l : List Int) (h : ∀ x ∈ l, 0 ≤ x ∧ x < 64) : uniq l = joinI l [] := by
  obtain ⟨h1, h2⟩ := uniq_spec l
  refine strict_ext _ _ h1 (keysTo_strict _ _) fun x => ?_
  unfold joinI
  rw [h2, mem_keysTo]
  simp only [hasI_nil, Bool.or_false, hasI_iff]
  exact ⟨fun hx => ⟨(h x hx).1, (h x hx).2, hx⟩, fun hx => hx.2.2⟩

theorem ex_putRow {α : Type} [Inhabited α] (enc : α → Value) (w : World) (g off n : Nat) (d : Array α) (os : Array Obj) : Ex w.heap.size (some g) w (grow (putRow enc (Go.Sort.ahead w n) g off d) os) := by
  refine ⟨rfl, rfl, rfl, ?_, fun i hi hne => ?_⟩
  · rw [size_grow]
    unfold putRow mapBlock Go.Sort.ahead
    simp
  · rw [heap_grow_old _ _ (by unfold putRow mapBlock Go.Sort.ahead; simpa using hi)]
    unfold putRow mapBlock Go.Sort.ahead
    simp only [Array.getElem?_modify]
    rw [if_neg (by intro e; exact hne (by rw [e]))]
theorem holds_ints {w : World} {g off : Nat} {xs : List Int} (h : Holds (Value.int .i64) w g off xs.toArray) : IntsAt w (some ⟨g, off, none⟩) xs := by
  intro j hj
  refine ⟨g, off, rfl, fun i hi => ?_⟩
  rw [(h i (by simpa using hi)).1, getElem!_pos xs.toArray i (by simpa using hi)]
  simp [List.getD, hi]
theorem own_holds {w : World} {base g o cap n : Nat} {xs : List Int} (h : w.ownsRow base 3 1 (.slice (some ⟨g, o, none⟩) n cap) n (xs.map (Value.int .i64))) : Holds (Value.int .i64) w g 0 xs.toArray := by
  obtain ⟨_, _, _, _, h1, h2⟩ := own_there h
  intro j hj
  have hj' : j < xs.length := by simpa using hj
  rw [Nat.zero_add]
  refine ⟨h1 j _ ?_, h2 j⟩
  rw [getElem!_pos xs.toArray j hj]
  simp [hj']

set_option maxHeartbeats 400000 in
/-- slices.Sort of an owned slice of ints. -/
theorem sortInts_any (ro : Option Addr) (rc n base : Nat) (xs : List Int) (w : World) (hown : OwnI w base ro rc xs) (hn : xs.length = n) (hm : xs.length ≤ 1000000000000) :
    Calls Try.prog 50 #[.slice ro n rc] w fun e w' => e = .returned (.tuple #[]) ∧ Ex base none w w' ∧
      (xs = [] ∨ ∃ g, ro = some ⟨g, 0, none⟩ ∧ base ≤ g ∧ g < w'.heap.size ∧ xs.length ≤ rc ∧ Holds (Value.int .i64) w' g 0 (xs.mergeSort fun x y => decide (x ≤ y)).toArray) := by
  subst hn
  rcases hown.2 with ⟨h1, h2⟩ | ⟨g, cap, cur, hv, hg, hh, _⟩
  · have hx : xs = [] := List.eq_nil_of_length_eq_zero h2
    subst hx
    refine (Try.slices_Sort_int_none ro rc w).mono ?_
    rintro e w' ⟨rfl, rfl⟩
    exact ⟨rfl, Ex.refl _ _ _, Or.inl rfl⟩
  · cases hv
    have hc := hown.cap
    have hb := (Array.getElem?_eq_some_iff.1 hh).1
    have hH := own_holds hown
    refine (Try.slices_Sort_int g 0 rc xs w hH hb (by omega)).mono ?_
    rintro e w' ⟨rfl, k, os, rfl⟩
    have hex := ex_putRow (Value.int .i64) w g 0 k (xs.mergeSort fun x y => decide (x ≤ y)).toArray os
    refine ⟨rfl, ((hex.mono (show base ≤ w.heap.size by omega)).above hg), Or.inr ⟨g, rfl, hg, Nat.lt_of_lt_of_le hb hex.size, hc, ?_⟩⟩
    exact holds_grow (Value.int .i64) _ os g 0 _ (by unfold putRow mapBlock Go.Sort.ahead; simpa using hb) (holds_putRow (Value.int .i64) _ g 0 xs.toArray _ (holds_ahead (Value.int .i64) w k g 0 _ hH) (by simp))

set_option maxHeartbeats 400000 in
/-- slices.Compact behind it. -/
theorem compactInts_any (ro : Option Addr) (rc n base : Nat) (xs : List Int) (w : World) (hn : xs.length = n) (hm : xs.length ≤ 1000000000000)
    (h : xs = [] ∨ ∃ g, ro = some ⟨g, 0, none⟩ ∧ base ≤ g ∧ g < w.heap.size ∧ xs.length ≤ rc ∧ Holds (Value.int .i64) w g 0 (xs.mergeSort fun x y => decide (x ≤ y)).toArray) (hb : base ≤ w.heap.size) :
    Calls Try.prog 51 #[.slice ro n rc] w fun e w' => e = .returned (.slice ro (uniq xs).length rc) ∧ Ex base none w w' ∧ IntsAt w' ro (uniq xs) := by
  subst hn
  rcases h with rfl | ⟨g, rfl, hg, hlt, hc, hH⟩
  · refine (Try.slices_Compact_int_empty ro rc w).mono ?_
    rintro e w' ⟨rfl, rfl⟩
    have : uniq [] = [] := by simp [uniq, Lib.compact, Lib.compactUpTo]
    exact ⟨by rw [this]; rfl, Ex.refl _ _ _, by rw [this]; exact IntsAt.nil _ _⟩
  · have hl : (xs.mergeSort fun x y => decide (x ≤ y)).length = xs.length := by simp
    have h := Try.slices_Compact_int g 0 rc (xs.mergeSort fun x y => decide (x ≤ y)) w hH (by omega) (by omega)
    rw [hl] at h
    refine h.mono ?_
    rintro e w' ⟨rfl, q, rfl⟩
    have hex := ex_putRow (Value.int .i64) w g 0 q (Lib.compact (xs.mergeSort fun x y => decide (x ≤ y)) ++ List.replicate (xs.length - (Lib.compact (xs.mergeSort fun x y => decide (x ≤ y))).length) 0).toArray #[]
    rw [grow_empty] at hex
    have hle : (Lib.compact (xs.mergeSort fun x y => decide (x ≤ y))).length ≤ xs.length := by
      rw [← hl]
      unfold Lib.compact Lib.compactUpTo
      simp only [List.length_map]
      exact Nat.le_trans (List.length_filter_le _ _) (by simp)
    refine ⟨rfl, (hex.mono hb).above hg, ?_⟩
    have hH2 := holds_putRow (Value.int .i64) (Go.Sort.ahead w q) g 0 (xs.mergeSort fun x y => decide (x ≤ y)).toArray (Lib.compact (xs.mergeSort fun x y => decide (x ≤ y)) ++ List.replicate (xs.length - (Lib.compact (xs.mergeSort fun x y => decide (x ≤ y))).length) 0).toArray (holds_ahead (Value.int .i64) w q g 0 _ hH) (by simp; omega)
    have := (holds_ints hH2).take (uniq xs).length
    have e : (Lib.compact (xs.mergeSort fun x y => decide (x ≤ y)) ++ List.replicate (xs.length - (Lib.compact (xs.mergeSort fun x y => decide (x ≤ y))).length) (0 : Int)).take (uniq xs).length = uniq xs := by
      unfold uniq
      rw [List.take_left]
    rwa [e] at this
end Go.Proofs.Ytagciffmacolfaa
