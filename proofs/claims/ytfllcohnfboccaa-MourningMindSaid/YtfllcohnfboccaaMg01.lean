/- The insertion sort of the library keeps the order of equals: a plain law on the kit's own word 'Sort.insertionSort'. No program in sight. | ref35.Follow, Replace: contracts, no statement of the seat. | slices.Index, Contains: contracts, no statement of the seat. | ref35.Replace: a contract, no statement of the seat. | mourning.key: a contract, no statement of the seat. | ref23.SameInts: contracts, no statement of the seat. | mill.Light: contracts, no statement of the seat. | mill.Roll: contracts, no statement of the seat. -/
import Derived.Sort.LotA
import Derived.Test.YtfllcohnfboccaaMg00
import Derived.Test.YtfllcohnfboccaaRows
namespace Go.Proofs.Ytfllcohnfboccaa
open Go.Sort

variable {α : Type} [Inhabited α]

/-- A kind of elements of which none is less than another one. -/
def Kind (lt : α → α → Bool) (p : α → Bool) : Prop := ∀ x y, p x = true → p y = true → lt x y = false

theorem toList_split2 (d : Array α) (j : Nat) (h : j + 1 < d.size) : d.toList = d.toList.take j ++ d[j]! :: d[j + 1]! :: d.toList.drop (j + 2) := by
  rw [getElem!_pos d j (by omega), getElem!_pos d (j + 1) h]
  have h1 : d.toList.drop j = d[j] :: d.toList.drop (j + 1) := by rw [List.drop_eq_getElem_cons (by simpa using (by omega : j < d.size))]; simp
  have h2 : d.toList.drop (j + 1) = d[j + 1] :: d.toList.drop (j + 2) := by rw [List.drop_eq_getElem_cons (by simpa using h)]; simp
  rw [← h2, ← h1, List.take_append_drop]
theorem swp_adj (d : Array α) (j : Nat) (h : j + 1 < d.size) : (swp d (j + 1) j).toList = d.toList.take j ++ d[j + 1]! :: d[j]! :: d.toList.drop (j + 2) := by
  apply List.ext_getElem?
  intro i
  unfold swp
  have e1 : d[j]! = d[j] := getElem!_pos d j (by omega)
  have e2 : d[j + 1]! = d[j + 1] := getElem!_pos d (j + 1) h
  rw [e1, e2]
  simp only [Array.getElem?_toList, Array.getElem?_setIfInBounds, Array.size_setIfInBounds]
  rcases Nat.lt_trichotomy i j with hi | hi | hi
  · rw [if_neg (by omega), if_neg (by omega), List.getElem?_append_left (by simp; omega)]
    simp [hi]
  · subst hi
    rw [if_pos rfl, if_pos (by omega), List.getElem?_append_right (by simp; omega)]
    simp [show min i d.size = i by omega]
  · by_cases hi2 : i = j + 1
    · subst hi2
      rw [if_neg (by omega), if_pos rfl, if_pos h, List.getElem?_append_right (by simp; omega)]
      simp [show j + 1 - min j d.size = 1 by omega]
    · rw [if_neg (by omega), if_neg (by omega), List.getElem?_append_right (by simp; omega)]
      obtain ⟨n, rfl⟩ : ∃ n, i = j + 2 + n := ⟨i - (j + 2), by omega⟩
      simp [show j + 2 + n - min j d.size = n + 2 by omega]
theorem swp_filter {lt : α → α → Bool} {p : α → Bool} (hp : Kind lt p) (d : Array α) (j : Nat) (h : j + 1 < d.size) (hl : lt d[j + 1]! d[j]! = true) : (swp d (j + 1) j).toList.filter p = d.toList.filter p := by
  have e : d.toList.filter p = (d.toList.take j ++ d[j]! :: d[j + 1]! :: d.toList.drop (j + 2)).filter p := congrArg (List.filter p) (toList_split2 d j h)
  rw [swp_adj d j h, e]
  simp only [List.filter_append, List.filter_cons]
  by_cases h1 : p d[j + 1]! = true
  · by_cases h2 : p d[j]! = true
    · rw [hp _ _ h1 h2] at hl; cases hl
    · rw [if_neg h2]
      simp [h2]
  · simp [h1]
theorem insInner_filter {lt : α → α → Bool} {p : α → Bool} (hp : Kind lt p) (a : Nat) : ∀ (j : Nat) (d : Array α), j < d.size → (insInner lt a j d).toList.filter p = d.toList.filter p ∧ (insInner lt a j d).size = d.size
  | 0, d, _ => ⟨rfl, rfl⟩
  | j + 1, d, hj => by
    unfold insInner
    split
    · rename_i hc
      simp only [Bool.and_eq_true, decide_eq_true_eq] at hc
      have hs : (swp d (j + 1) j).size = d.size := swp_size d (j + 1) j
      obtain ⟨h1, h2⟩ := insInner_filter hp a j (swp d (j + 1) j) (by rw [hs]; omega)
      exact ⟨h1.trans (swp_filter hp d j hj hc.2), h2.trans hs⟩
    · exact ⟨rfl, rfl⟩
theorem insOuter_filter {lt : α → α → Bool} {p : α → Bool} (hp : Kind lt p) (a b : Nat) : ∀ (n i : Nat) (d : Array α), b - i = n → b ≤ d.size → (insOuter lt a b i d).toList.filter p = d.toList.filter p
  | 0, i, d, hn, hb => by rw [insOuter, if_neg (by omega)]
  | n + 1, i, d, hn, hb => by
    rw [insOuter, if_pos (by omega)]
    obtain ⟨h1, h2⟩ := insInner_filter hp a i d (by omega)
    exact (insOuter_filter hp a b n (i + 1) _ (by omega) (by omega)).trans h1
theorem insertionSort_filter {lt : α → α → Bool} {p : α → Bool} (hp : Kind lt p) (d : Array α) (a b : Nat) (hb : b ≤ d.size) : (insertionSort lt d a b).toList.filter p = d.toList.filter p := insOuter_filter hp a b _ _ d rfl hb
end Go.Proofs.Ytfllcohnfboccaa

namespace Go.Proofs.Ytfllcohnfboccaa
open Go.RowKit

/-- Where a key leads by f: met are the keys so far; at most so many steps. -/
def followF (f : Int → Option Int) (k : Int) : Nat → List Int → Int
  | 0, _ => k
  | n + 1, met => match f (met.getD (met.length - 1) 0) with
    | none => met.getD (met.length - 1) 0
    | some x => if hasI met x = true ∨ 16 < met.length then k else followF f k n (met ++ [x])
def followI (f : Int → Option Int) (k : Int) : Int := followF f k 17 [k]
theorem followF_end {f : Int → Option Int} {k : Int} {n : Nat} {met : List Int} {y : Int} (hy : met.getD (met.length - 1) 0 = y) (h : f y = none) (hn : 0 < n) : followF f k n met = y := by
  obtain ⟨m, rfl⟩ : ∃ m, n = m + 1 := ⟨n - 1, by omega⟩
  rw [followF, hy, h]
theorem followF_stop {f : Int → Option Int} {k x : Int} {n : Nat} {met : List Int} {y : Int} (hy : met.getD (met.length - 1) 0 = y) (h : f y = some x) (hx : hasI met x = true ∨ 16 < met.length) : followF f k n met = k := by
  cases n with
  | zero => rfl
  | succ m => rw [followF, hy, h]; simp only []; rw [if_pos hx]
theorem followF_step {f : Int → Option Int} {k x : Int} {n : Nat} {met : List Int} {y : Int} (hy : met.getD (met.length - 1) 0 = y) (h : f y = some x) (hx : ¬ (hasI met x = true ∨ 16 < met.length)) (hn : 0 < n) : followF f k n met = followF f k (n - 1) (met ++ [x]) := by
  obtain ⟨m, rfl⟩ : ∃ m, n = m + 1 := ⟨n - 1, by omega⟩
  rw [followF, hy, h]; simp only []; rw [if_neg hx]; rfl

end Go.Proofs.Ytfllcohnfboccaa

namespace Go.Proofs.Ytfllcohnfboccaa
open Go.RowKit

set_option maxHeartbeats 400000 in
theorem index_any (v1 : Value) (xs : List Int) (x : Int) (w : World) (hv1 : Ints w v1 xs) (hm : xs.length ≤ 9223372036854775807) :
    Calls Try.prog 77 #[v1, .int .i64 x] w fun e w' => ∃ i, e = .returned (.int .i64 i) ∧ Hid (0 ≤ i ↔ hasI xs x = true) ∧ w = w' := by
  obtain ⟨ao, cap, rfl, hx⟩ := hv1
  go_enter Try.func77, Try.ntmps77
  go_wp2
  go_loop [8] (fun i => ∃ k : Nat, k ≤ xs.length ∧ i = .int .i64 k ∧ hasI (xs.take k) x = false) (fun i => xs.length - (intOf i).toNat)
  case atStart => exact ⟨0, Nat.zero_le _, rfl, rfl⟩
  case round =>
    obtain ⟨k, hk, rfl, hno⟩ := hrel
    have HN := Lib.hid hno
    clear hno
    by_cases hlt : k < xs.length
    · obtain ⟨b, off, y, rfl, hck, HY⟩ := hx.get k hlt
      by_cases he : x = y
      · have hb : (x == y) = true := by simpa using he
        have HR := Lib.hid (hasI_get hlt (HY.out.trans he.symm))
        clear he
        go_wp2
        go_ret
        exact ⟨_, rfl, (by rw [HR.out]; simp : _ ↔ _), rfl⟩
      · have hb : (x == y) = false := by simpa using he
        have HR := Lib.hid (hasI_take_succ hlt HN.out (by rw [HY.out]; exact fun h => he h.symm))
        clear he
        go_wp2
        go_round
        case rel => exact ⟨k + 1, by omega, by go_num, HR.out⟩
        case measure => simp [intOf]; omega
    · have HR : Hid (hasI xs x = false) := by
        have h := HN.out
        rwa [List.take_of_length_le (by omega)] at h
      go_wp2
      go_ret
      exact ⟨_, rfl, (by rw [HR.out]; simp : _ ↔ _), rfl⟩

set_option maxHeartbeats 400000 in
theorem contains_any (v1 : Value) (xs : List Int) (x : Int) (w : World) (hv1 : Ints w v1 xs) (hm : xs.length ≤ 9223372036854775807) :
    Calls Try.prog 45 #[v1, .int .i64 x] w fun e w' => e = .returned (.bool (hasI xs x)) ∧ w = w' := by
  obtain ⟨ao, cap, rfl, hx⟩ := hv1
  go_enter Try.func45, Try.ntmps45
  go_wp2_with (go_at_call 77; refine (index_any _ _ _ _ ⟨_, _, rfl, hx⟩ hm).mono ?_; rintro e w' ⟨i, rfl, hi, rfl⟩)
  go_ret
  refine ⟨ret_bool ?_, rfl⟩
  have h := hi.out
  show decide (0 ≤ i) = _
  rw [Bool.eq_iff_iff, decide_eq_true_eq, h]

end Go.Proofs.Ytfllcohnfboccaa

namespace Go.Proofs.Ytfllcohnfboccaa
open Go.RowKit

/-- What the keys among the first k numbers lead to. -/
def replTo (f : Int → Option Int) (l : List Int) : Nat → List Int
  | 0 => []
  | k + 1 => if 0 ≤ l.getD k 0 ∧ l.getD k 0 < 64 then replTo f l k ++ [followI f (l.getD k 0)] else replTo f l k
theorem replTo_le (f : Int → Option Int) (l : List Int) (k : Nat) : (replTo f l k).length ≤ k := by
  induction k with
  | zero => simp [replTo]
  | succ k ih =>
    rw [replTo]; split
    · rw [List.length_append]; simp; omega
    · omega
theorem replTo_yes {f : Int → Option Int} {l : List Int} {k : Nat} {y : Int} (hy : l.getD k 0 = y) (h0 : 0 ≤ y) (h1 : y < 64) : replTo f l (k + 1) = replTo f l k ++ [followI f y] := by rw [replTo, hy, if_pos ⟨h0, h1⟩]
theorem replTo_no {f : Int → Option Int} {l : List Int} {k : Nat} {y : Int} (hy : l.getD k 0 = y) (h : ¬ (0 ≤ y ∧ y < 64)) : replTo f l (k + 1) = replTo f l k := by rw [replTo, hy, if_neg h]
def replI (f : Int → Option Int) (l : List Int) : List Int := joinI (replTo f l l.length) []

end Go.Proofs.Ytfllcohnfboccaa

namespace Go.Proofs.Ytfllcohnfboccaa
open Go.RowKit

def keyH (n : Int) : Bool := decide (0 ≤ n) && decide (n < 64)
theorem key_any (n : Int) (w : World) : Calls Try.prog 60 #[.int .i64 n] w fun e w' => e = .returned (.bool (keyH n)) ∧ w = w' := by
  by_cases h0 : 0 ≤ n
  · by_cases h1 : n < 64
    · have d0 : decide ((0 : Int) ≤ n) = true := decide_eq_true h0
      have d1 : decide (n < 64) = true := decide_eq_true h1
      have HK : Hid (keyH n = true) := by show _ = _; simp [keyH, h0, h1]
      go_enter Try.func60, Try.ntmps60
      go_wp2
      go_ret
      exact ⟨by rw [HK.out]; rfl, rfl⟩
    · have d0 : decide ((0 : Int) ≤ n) = true := decide_eq_true h0
      have d1 : decide (n < 64) = false := decide_eq_false h1
      have HK : Hid (keyH n = false) := by show _ = _; simp [keyH, h1]
      go_enter Try.func60, Try.ntmps60
      go_wp2
      go_ret
      exact ⟨by rw [HK.out]; rfl, rfl⟩
  · have d0 : decide ((0 : Int) ≤ n) = false := decide_eq_false h0
    have HK : Hid (keyH n = false) := by show _ = _; simp [keyH, h0]
    go_enter Try.func60, Try.ntmps60
    go_wp2
    go_ret
    exact ⟨by rw [HK.out]; rfl, rfl⟩
end Go.Proofs.Ytfllcohnfboccaa

namespace Go.Proofs.Ytfllcohnfboccaa
open Go.RowKit

theorem same_take {xs ys : List Int} {k : Nat} (h : xs.take k = ys.take k) (h1 : k < xs.length) (h2 : k < ys.length) (he : xs.getD k 0 = ys.getD k 0) : xs.take (k + 1) = ys.take (k + 1) := by
  rw [take_snoc xs k h1, take_snoc ys k h2, h, he]

set_option maxHeartbeats 400000 in
theorem sameInts_any (v1 v2 : Value) (xs ys : List Int) (w : World) (hv1 : Ints w v1 xs) (hv2 : Ints w v2 ys) (hm : xs.length ≤ 9223372036854775807) :
    Calls Try.prog 30 #[v1, v2] w fun e w' => e = .returned (.bool (decide (xs = ys))) ∧ Ex w.heap.size none w w' := by
  obtain ⟨ao, cap, rfl, hx⟩ := hv1
  obtain ⟨bo, cbp, rfl, hy⟩ := hv2
  by_cases hl : xs.length = ys.length
  · have hl1 : ((xs.length : Int) != ys.length) = false := by simp [hl]
    have HL := Lib.hid hl
    go_enter Try.func30, Try.ntmps30
    clear hl
    go_wp2
    clear hl1
    go_loopw [5] (fun i wr => ∃ k : Nat, k ≤ xs.length ∧ i = .int .i64 k ∧ xs.take k = ys.take k ∧ ∃ n, w.drewN n = wr) (fun i _ => xs.length - (intOf i).toNat)
    case atStart => exact ⟨0, Nat.zero_le _, rfl, by simp, 0, rfl⟩
    case round =>
      obtain ⟨k, hk, rfl, ht, n, rfl⟩ := hrel
      have HT := Lib.hid ht
      clear ht
      by_cases hlt : k < xs.length
      · have hlt2 : k < ys.length := by have := HL.out; omega
        obtain ⟨b, off, y, rfl, hck, HY⟩ := hx.get k hlt
        obtain ⟨b', off', z, rfl, hcz, HZ⟩ := hy.get k hlt2
        by_cases he : y = z
        · have hb : (y != z) = false := by simpa using he
          have HR := Lib.hid (same_take HT.out hlt hlt2 (by rw [HY.out, HZ.out, he]))
          clear he
          go_wp2
          go_quiet (fail)
          go_wp2
          go_roundw
          case rel => exact ⟨k + 1, by omega, by go_num, HR.out, _, rfl⟩
          case measure => simp [intOf]; omega
        · have hb : (y != z) = true := by simpa using he
          have HR : Hid (xs ≠ ys) := fun h => he (by rw [← HY.out, ← HZ.out, h])
          clear he
          go_wp2
          go_quiet (fail)
          go_wp2
          go_ret
          exact ⟨ret_bool (by simp [HR.out]), by repeat (first | exact Ex.refl _ _ _ | refine Ex.drewN ?_)⟩
      · have HR : Hid (xs = ys) := by
          have h := HT.out
          have := HL.out
          rwa [List.take_of_length_le (by omega), List.take_of_length_le (by omega)] at h
        go_wp2
        go_ret
        exact ⟨ret_bool (by simp [HR.out]), by repeat (first | exact Ex.refl _ _ _ | refine Ex.drewN ?_)⟩
  · have hl1 : ((xs.length : Int) != ys.length) = true := by simp; omega
    have HR : Hid (xs ≠ ys) := fun h => hl (by rw [h])
    clear hl
    go_enter Try.func30, Try.ntmps30
    go_wp2
    go_ret
    exact ⟨ret_bool (by simp [HR.out]), Ex.refl _ _ _⟩
end Go.Proofs.Ytfllcohnfboccaa

namespace Go.Proofs.Ytfllcohnfboccaa
open Go.RowKit

theorem light_any (ao : Option Addr) (cap n : Nat) (w : World) :
    Calls Try.prog 8 #[.slice ao n cap] w fun e w' => e = .returned (.bool (decide ((n : Int) ≤ 400))) ∧ w = w' := by
  go_enter Try.func8, Try.ntmps8
  go_wp2
  go_ret
  exact ⟨rfl, rfl⟩

end Go.Proofs.Ytfllcohnfboccaa

namespace Go.Proofs.Ytfllcohnfboccaa
open Go.RowKit

theorem roll_any (v1 : Value) (L : List Int) (w : World) (hv1 : Ints w v1 L) (hL : L.length ≤ 1000000) :
    Calls Try.prog 10 #[v1] w fun e w' => ∃ p, e = .returned (.pointer (some ⟨p, 0, none⟩)) ∧ DiceAt (p + 1) w' p L ∧ w.heap.size ≤ p ∧ p + 1 ≤ w'.heap.size ∧ Ex w.heap.size none w w' := by
  obtain ⟨ao, cap, rfl, hx⟩ := hv1
  go_enter Try.func10, Try.ntmps10
  go_wp2_with (go_at_call 17; refine (madeRoll_any _ _ _ ⟨_, _, rfl, hx⟩ hL).mono ?_; rintro e w' ⟨p, rfl, h1, h2, h3, h4⟩)
  go_ret
  exact ⟨_, rfl, h1, h2, h3, h4⟩

end Go.Proofs.Ytfllcohnfboccaa
