/- Join, Minus: contracts, no statement of the seat. -/
import Derived.Test.YtagciffmacolfaaHas
import Derived.Test.YtagciffmacolfaaInfo
namespace Go.Proofs.Ytagciffmacolfaa
open Go.RowKit

theorem keysTo_yes {c : Int → Bool} {k : Nat} (h : c k = true) : keysTo c (k + 1) = keysTo c k ++ [(k : Int)] := by rw [keysTo, if_pos h]
theorem keysTo_no {c : Int → Bool} {k : Nat} (h : c k = false) : keysTo c (k + 1) = keysTo c k := by rw [keysTo, if_neg (by simp [h]), List.append_nil]

set_option maxHeartbeats 400000 in
theorem join_any (v1 v2 : Value) (xs ys : List Int) (w : World) (hv1 : Ints w v1 xs) (hv2 : Ints w v2 ys) (hm : xs.length ≤ 9223372036854775807) (hm2 : ys.length ≤ 9223372036854775807) :
    Calls Try.prog 52 #[v1, v2] w fun e w' => ∃ ro rc, e = .returned (.slice ro (joinI xs ys).length rc) ∧ OwnI w' w.heap.size ro rc (joinI xs ys) ∧ Ex w.heap.size none w w' := by
  obtain ⟨ao, cap, rfl, hx⟩ := hv1
  obtain ⟨bo, cbp, rfl, hy⟩ := hv2
  go_enter Try.func52, Try.ntmps52
  go_wp2
  go_loopw [5, 6] (fun v i wr => ∃ (k : Nat) (ro : Option Addr) (rc : Nat), k ≤ 64 ∧ i = .int .i64 k ∧ v = .slice ro (keysTo (fun k => hasI xs k || hasI ys k) k).length rc ∧ OwnI wr w.heap.size ro rc (keysTo (fun k => hasI xs k || hasI ys k) k) ∧ Ex w.heap.size none w wr) (fun _ i _ => 64 - (intOf i).toNat)
  case atStart => exact ⟨0, none, 0, by omega, rfl, rfl, OwnI.nil _ _, Ex.refl _ _ _⟩
  case round =>
    obtain ⟨k, ro, rc, hk, rfl, rfl, hown, hex⟩ := hrel
    have hle := keysTo_le (fun k => hasI xs k || hasI ys k) k
    have hsz := hex.size
    have hx1 := hx.keep hex (Nat.le_refl _) (by simp)
    have hy1 := hy.keep hex (Nat.le_refl _) (by simp)
    by_cases hlt : k < 64
    · by_cases h2 : hasI xs (k : Int) = true
      · have HK := Lib.hid (keysTo_yes (c := (fun k => hasI xs k || hasI ys k)) (k := k) (by simp [h2]))
        go_wp2_with (first
          | (go_at_call 30; refine (refHas_any _ _ _ _ (by first | exact ⟨_, _, rfl, hx1⟩ | exact ⟨_, _, rfl, hy1⟩) (by first | exact hm | exact hm2)).mono ?_; rintro e w' ⟨rfl, rfl⟩)
          | (at_builtin; refine wpList_appI rfl _ _ _ rfl Try.underlying25 Try.infoInt w.heap.size ro rc _ wr.heap.size k rfl rfl hown (Ex.new _ _) (by go_simp) (by omega) hsz ?_; intro ro' rc' w1 hown1 hex1))
        go_roundw
        case rel => exact ⟨k + 1, ro', rc', by omega, by go_num, by rw [HK.out, List.length_append]; rfl, by rw [HK.out]; exact hown1, hex.trans hex1 (Nat.le_refl _) (by simp)⟩
        case measure => simp [intOf]; omega
      · replace h2 : hasI xs (k : Int) = false := by simpa using h2
        by_cases h3 : hasI ys (k : Int) = true
        · have HK := Lib.hid (keysTo_yes (c := (fun k => hasI xs k || hasI ys k)) (k := k) (by simp [h3]))
          go_wp2_with (first
            | (go_at_call 30; refine (refHas_any _ _ _ _ (by first | exact ⟨_, _, rfl, hx1⟩ | exact ⟨_, _, rfl, hy1⟩) (by first | exact hm | exact hm2)).mono ?_; rintro e w' ⟨rfl, rfl⟩)
            | (at_builtin; refine wpList_appI rfl _ _ _ rfl Try.underlying25 Try.infoInt w.heap.size ro rc _ wr.heap.size k rfl rfl hown (Ex.new _ _) (by go_simp) (by omega) hsz ?_; intro ro' rc' w1 hown1 hex1))
          go_roundw
          case rel => exact ⟨k + 1, ro', rc', by omega, by go_num, by rw [HK.out, List.length_append]; rfl, by rw [HK.out]; exact hown1, hex.trans hex1 (Nat.le_refl _) (by simp)⟩
          case measure => simp [intOf]; omega
        · replace h3 : hasI ys (k : Int) = false := by simpa using h3
          have HK := Lib.hid (keysTo_no (c := (fun k => hasI xs k || hasI ys k)) (k := k) (by simp [h2, h3]))
          go_wp2_with (first
            | (go_at_call 30; refine (refHas_any _ _ _ _ (by first | exact ⟨_, _, rfl, hx1⟩ | exact ⟨_, _, rfl, hy1⟩) (by first | exact hm | exact hm2)).mono ?_; rintro e w' ⟨rfl, rfl⟩)
            | (at_builtin; refine wpList_appI rfl _ _ _ rfl Try.underlying25 Try.infoInt w.heap.size ro rc _ wr.heap.size k rfl rfl hown (Ex.new _ _) (by go_simp) (by omega) hsz ?_; intro ro' rc' w1 hown1 hex1))
          go_roundw
          case rel => exact ⟨k + 1, ro, rc, by omega, by go_num, by rw [HK.out], by rw [HK.out]; exact hown, hex⟩
          case measure => simp [intOf]; omega
    · obtain rfl : k = 64 := by omega
      go_wp2
      go_ret
      exact ⟨ro, rc, rfl, hown, hex⟩

end Go.Proofs.Ytagciffmacolfaa
