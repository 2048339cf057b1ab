/- ref23.SameInts: contracts, no statement of the seat. -/
import Derived.Test.YtagciffmacolfaaRows
import Derived.Test.YtagciffmacolfaaBase
import Derived.Test.YtagciffmacolfaaPlain
namespace Go.Proofs.Ytagciffmacolfaa
open Go.RowKit

theorem same_take {xs ys : List Int} {k : Nat} (h : xs.take k = ys.take k) (h1 : k < xs.length) (h2 : k < ys.length) (he : xs.getD k 0 = ys.getD k 0) : xs.take (k + 1) = ys.take (k + 1) := by
  rw [take_snoc xs k h1, take_snoc ys k h2, h, he]

set_option maxHeartbeats 400000 in
theorem sameInts_any (v1 v2 : Value) (xs ys : List Int) (w : World) (hv1 : Ints w v1 xs) (hv2 : Ints w v2 ys) (hm : xs.length ≤ 9223372036854775807) :
    Calls Try.prog 21 #[v1, v2] w fun e w' => e = .returned (.bool (decide (xs = ys))) ∧ Ex w.heap.size none w w' := by
  obtain ⟨ao, cap, rfl, hx⟩ := hv1
  obtain ⟨bo, cbp, rfl, hy⟩ := hv2
  by_cases hl : xs.length = ys.length
  · have hl1 : ((xs.length : Int) != ys.length) = false := by simp [hl]
    have HL := Lib.hid hl
    go_enter Try.func21, Try.ntmps21
    clear hl
    go_wp2
    clear hl1
    go_loopw [5] (fun i wr => ∃ k : Nat, k ≤ xs.length ∧ i = .int .i64 k ∧ xs.take k = ys.take k ∧ ∃ n, w.drewN n = wr) (fun i _ => xs.length - (intOf i).toNat)
    case atStart => exact ⟨0, Nat.zero_le _, rfl, by simp, 0, rfl⟩
    case round =>
      obtain ⟨k, hk, rfl, ht, n, rfl⟩ := hrel
      have HT := Lib.hid ht
      clear ht
      by_cases hlt : k < xs.length
      · have hlt2 : k < ys.length := by have := HL.out; omega
        obtain ⟨b, off, y, rfl, hck, HY⟩ := hx.get k hlt
        obtain ⟨b', off', z, rfl, hcz, HZ⟩ := hy.get k hlt2
        by_cases he : y = z
        · have hb : (y != z) = false := by simpa using he
          have HR := Lib.hid (same_take HT.out hlt hlt2 (by rw [HY.out, HZ.out, he]))
          clear he
          go_wp2
          go_quiet (fail)
          go_wp2
          go_roundw
          case rel => exact ⟨k + 1, by omega, by go_num, HR.out, _, rfl⟩
          case measure => simp [intOf]; omega
        · have hb : (y != z) = true := by simpa using he
          have HR : Hid (xs ≠ ys) := fun h => he (by rw [← HY.out, ← HZ.out, h])
          clear he
          go_wp2
          go_quiet (fail)
          go_wp2
          go_ret
          exact ⟨ret_bool (by simp [HR.out]), by repeat (first | exact Ex.refl _ _ _ | refine Ex.drewN ?_)⟩
      · have HR : Hid (xs = ys) := by
          have h := HT.out
          have := HL.out
          rwa [List.take_of_length_le (by omega), List.take_of_length_le (by omega)] at h
        go_wp2
        go_ret
        exact ⟨ret_bool (by simp [HR.out]), by repeat (first | exact Ex.refl _ _ _ | refine Ex.drewN ?_)⟩
  · have hl1 : ((xs.length : Int) != ys.length) = true := by simp; omega
    have HR : Hid (xs ≠ ys) := fun h => hl (by rw [h])
    clear hl
    go_enter Try.func21, Try.ntmps21
    go_wp2
    go_ret
    exact ⟨ret_bool (by simp [HR.out]), Ex.refl _ _ _⟩
end Go.Proofs.Ytagciffmacolfaa
