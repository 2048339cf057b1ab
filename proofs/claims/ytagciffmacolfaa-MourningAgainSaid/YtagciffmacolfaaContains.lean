/- slices.Index, Contains: contracts, no statement of the seat. -/
import Derived.Test.YtagciffmacolfaaRows
import Derived.Test.YtagciffmacolfaaBase
import Derived.Test.YtagciffmacolfaaPlain
namespace Go.Proofs.Ytagciffmacolfaa
open Go.RowKit

set_option maxHeartbeats 400000 in
theorem index_any (v1 : Value) (xs : List Int) (x : Int) (w : World) (hv1 : Ints w v1 xs) (hm : xs.length ≤ 9223372036854775807) :
    Calls Try.prog 66 #[v1, .int .i64 x] w fun e w' => ∃ i, e = .returned (.int .i64 i) ∧ Hid (0 ≤ i ↔ hasI xs x = true) ∧ w = w' := by
  obtain ⟨ao, cap, rfl, hx⟩ := hv1
  go_enter Try.func66, Try.ntmps66
  go_wp2
  go_loop [8] (fun i => ∃ k : Nat, k ≤ xs.length ∧ i = .int .i64 k ∧ hasI (xs.take k) x = false) (fun i => xs.length - (intOf i).toNat)
  case atStart => exact ⟨0, Nat.zero_le _, rfl, rfl⟩
  case round =>
    obtain ⟨k, hk, rfl, hno⟩ := hrel
    have HN := Lib.hid hno
    clear hno
    by_cases hlt : k < xs.length
    · obtain ⟨b, off, y, rfl, hck, HY⟩ := hx.get k hlt
      by_cases he : x = y
      · have hb : (x == y) = true := by simpa using he
        have HR := Lib.hid (hasI_get hlt (HY.out.trans he.symm))
        clear he
        go_wp2
        go_ret
        exact ⟨_, rfl, (by rw [HR.out]; simp : _ ↔ _), rfl⟩
      · have hb : (x == y) = false := by simpa using he
        have HR := Lib.hid (hasI_take_succ hlt HN.out (by rw [HY.out]; exact fun h => he h.symm))
        clear he
        go_wp2
        go_round
        case rel => exact ⟨k + 1, by omega, by go_num, HR.out⟩
        case measure => simp [intOf]; omega
    · have HR : Hid (hasI xs x = false) := by
        have h := HN.out
        rwa [List.take_of_length_le (by omega)] at h
      go_wp2
      go_ret
      exact ⟨_, rfl, (by rw [HR.out]; simp : _ ↔ _), rfl⟩

set_option maxHeartbeats 400000 in
theorem contains_any (v1 : Value) (xs : List Int) (x : Int) (w : World) (hv1 : Ints w v1 xs) (hm : xs.length ≤ 9223372036854775807) :
    Calls Try.prog 47 #[v1, .int .i64 x] w fun e w' => e = .returned (.bool (hasI xs x)) ∧ w = w' := by
  obtain ⟨ao, cap, rfl, hx⟩ := hv1
  go_enter Try.func47, Try.ntmps47
  go_wp2_with (go_at_call 66; refine (index_any _ _ _ _ ⟨_, _, rfl, hx⟩ hm).mono ?_; rintro e w' ⟨i, rfl, hi, rfl⟩)
  go_ret
  refine ⟨ret_bool ?_, rfl⟩
  have h := hi.out
  show decide (0 ≤ i) = _
  rw [Bool.eq_iff_iff, decide_eq_true_eq, h]

end Go.Proofs.Ytagciffmacolfaa
