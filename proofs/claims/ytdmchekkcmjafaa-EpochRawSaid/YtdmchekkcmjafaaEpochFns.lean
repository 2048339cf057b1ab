/- Small functions of the epochs: contracts, no statement of the seat. -/
import Derived.Test.YtdmchekkcmjafaaSameList
import Derived.Test.YtdmchekkcmjafaaCmp
import Derived.Sort.Grow
namespace Go.Proofs.Ytdmchekkcmjafaa
open Go.RowKit Go.Sort

def ofI (t n : Int) : Int := if t < 0 ∨ n < 1 then -1 else t / n
set_option maxHeartbeats 400000 in
theorem of_any (t n : Int) (w : World) (ht : t ≤ 9223372036854775807) : Calls Try.prog 8 #[.int .i64 t, .int .i64 n] w fun e w' => e = .returned (.int .i64 (ofI t n)) ∧ w = w' := by
  by_cases h1 : t < 0
  · have d1 : decide (t < 0) = true := decide_eq_true h1
    have HK : Hid (ofI t n = -1) := if_pos (Or.inl h1)
    go_enter Try.func8, Try.ntmps8
    go_wp2
    go_ret
    exact ⟨by rw [HK.out]; rfl, rfl⟩
  · have d1 : decide (t < 0) = false := decide_eq_false h1
    have h1' : 0 ≤ t := by omega
    by_cases h2 : n < 1
    · have d2 : decide (n < 1) = true := decide_eq_true h2
      have HK : Hid (ofI t n = -1) := if_pos (Or.inr h2)
      go_enter Try.func8, Try.ntmps8
      go_wp2
      go_ret
      exact ⟨by rw [HK.out]; rfl, rfl⟩
    · have d2 : decide (n < 1) = false := decide_eq_false h2
      have h2' : 1 ≤ n := by omega
      have HK : Hid (ofI t n = t / n) := if_neg (by omega)
      have q0 : 0 ≤ t / n := Int.ediv_nonneg h1' (by omega)
      have q1 : t / n ≤ 9223372036854775807 := Int.le_trans (Int.ediv_le_self n h1') ht
      go_enter Try.func8, Try.ntmps8
      go_wp2
      go_ret
      refine ⟨by rw [HK.out]; rfl, rfl⟩
set_option maxHeartbeats 400000 in
theorem refOf_any (t n : Int) (w : World) (ht : t ≤ 9223372036854775807) : Calls Try.prog 9 #[.int .i64 t, .int .i64 n] w fun e w' => e = .returned (.int .i64 (ofI t n)) ∧ w = w' := by
  by_cases h1 : t < 0
  · have d1 : decide (t < 0) = true := decide_eq_true h1
    have HK : Hid (ofI t n = -1) := if_pos (Or.inl h1)
    go_enter Try.func9, Try.ntmps9
    go_wp2
    go_ret
    exact ⟨by rw [HK.out]; rfl, rfl⟩
  · have d1 : decide (t < 0) = false := decide_eq_false h1
    have h1' : 0 ≤ t := by omega
    by_cases h2 : n < 1
    · have d2 : decide (n < 1) = true := decide_eq_true h2
      have HK : Hid (ofI t n = -1) := if_pos (Or.inr h2)
      go_enter Try.func9, Try.ntmps9
      go_wp2
      go_ret
      exact ⟨by rw [HK.out]; rfl, rfl⟩
    · have d2 : decide (n < 1) = false := decide_eq_false h2
      have h2' : 1 ≤ n := by omega
      have HK : Hid (ofI t n = t / n) := if_neg (by omega)
      have q0 : 0 ≤ t / n := Int.ediv_nonneg h1' (by omega)
      have q1 : t / n ≤ 9223372036854775807 := Int.le_trans (Int.ediv_le_self n h1') ht
      go_enter Try.func9, Try.ntmps9
      go_wp2
      go_ret
      refine ⟨by rw [HK.out]; rfl, rfl⟩

/-- By time, author, number. -/
def beforeB (s t : St) : Bool := decide (s.time < t.time) || (decide (s.time = t.time) && (decide (s.author < t.author) || (decide (s.author = t.author) && decide (s.number < t.number))))
set_option maxHeartbeats 1000000 in
set_option maxRecDepth 100000 in
theorem before_any (x y : St × Sv × Sv) (w : World) : Calls Try.prog 35 #[.agg (stE x).toArray, .agg (stE y).toArray] w fun e w' => e = .returned (.bool (beforeB x.1 y.1)) ∧ Ex w.heap.size none w w' := by
  obtain ⟨s, ⟨lo, ln, lc⟩, ⟨po, pn, pc⟩⟩ := x
  obtain ⟨t, ⟨lo', ln', lc'⟩, ⟨po', pn', pc'⟩⟩ := y
  simp only [stE, Sv.v]
  by_cases h1 : s.time = t.time
  · have d1 : (s.time != t.time) = false := by simp [h1]
    by_cases h2 : s.author = t.author
    · have d2 : (s.author != t.author) = false := by simp [h2]
      have HK : Hid (beforeB s t = decide (s.number < t.number)) := by show _ = _; simp [beforeB, h1, h2]
      clear h1 h2
      go_enter Try.func35, Try.ntmps35
      go_wp2
      go_ret
      exact ⟨by rw [HK.out]; rfl, ex_two _ _⟩
    · have d2 : (s.author != t.author) = true := by simp [h2]
      have HK : Hid (beforeB s t = decide (s.author < t.author)) := by show _ = _; simp [beforeB, h1, h2]
      clear h1 h2
      go_enter Try.func35, Try.ntmps35
      go_wp2
      go_ret
      exact ⟨by rw [HK.out]; rfl, ex_two _ _⟩
  · have d1 : (s.time != t.time) = true := by simp [h1]
    have HK : Hid (beforeB s t = decide (s.time < t.time)) := by show _ = _; simp [beforeB, h1]
    clear h1
    go_enter Try.func35, Try.ntmps35
    go_wp2
    go_ret
    exact ⟨by rw [HK.out]; rfl, ex_two _ _⟩

/-- cmp.Or of three numbers. -/
def or3 (a b c : Int) : Int := if a = 0 then (if b = 0 then c else b) else a
set_option maxHeartbeats 1000000 in
theorem cmpOr_any (v : Value) (xs : List Int) (w : World) (hv : Ints w v xs) (hm : xs.length ≤ 1000000) : Calls Try.prog 33 #[v] w fun e w' => e = .returned (.int .i64 ((xs.find? (· != 0)).getD 0)) ∧ w = w' := by
  obtain ⟨ao, cap, rfl, hx⟩ := hv
  go_enter Try.func33, Try.ntmps33
  go_wp2
  go_loop [8] (fun i => ∃ k : Nat, k ≤ xs.length ∧ i = .int .i64 k ∧ Hid ((xs.take k).find? (· != 0) = none)) (fun i => xs.length - (intOf i).toNat)
  case atStart => exact ⟨0, Nat.zero_le _, rfl, (show _ = _ by simp)⟩
  case round =>
    obtain ⟨k, hk, rfl, HN⟩ := hrel
    by_cases hlt : k < xs.length
    · obtain ⟨b, off, y, rfl, hck, HY⟩ := hx.get k hlt
      have ht : xs.take (k + 1) = xs.take k ++ [y] := by
        rw [List.take_add_one, List.getElem?_eq_getElem hlt]
        have := HY.out
        rw [List.getD_eq_getElem?_getD, List.getElem?_eq_getElem hlt] at this
        simp at this; simp [this]
      by_cases he : y = 0
      · have hb : (y != 0) = false := by simp [he]
        have HR : Hid ((xs.take (k + 1)).find? (· != 0) = none) := by
          show _ = _
          rw [ht, List.find?_append, HN.out]; simp [he]
        clear he ht
        go_wp2
        go_round
        case rel => exact ⟨k + 1, by omega, by go_num, HR⟩
        case measure => simp [intOf]; omega
      · have hb : (y != 0) = true := by simp [he]
        have HR : Hid (xs.find? (· != 0) = some y) := by
          show _ = _
          rw [← List.take_append_drop (k + 1) xs, ht, List.find?_append, List.find?_append, HN.out]; simp [he]
        clear he ht
        go_wp2
        go_ret
        exact ⟨by rw [HR.out]; rfl, rfl⟩
    · have HR : Hid (xs.find? (· != 0) = none) := by
        have h := HN.out
        rwa [List.take_of_length_le (by omega)] at h
      go_wp2
      go_ret
      exact ⟨by rw [HR.out]; rfl, rfl⟩
end Go.Proofs.Ytdmchekkcmjafaa
