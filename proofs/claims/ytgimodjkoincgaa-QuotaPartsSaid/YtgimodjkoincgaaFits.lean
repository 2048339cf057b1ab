/- Fits, Most: contracts, no statement of the seat. -/
import Derived.Test.YtgimodjkoincgaaNewc
namespace Go.Proofs.Ytgimodjkoincgaa
open Go.RowKit

set_option maxHeartbeats 400000 in
theorem fits_any (v1 v2 : Value) (old next : List Int) (q : Int) (w : World) (hv1 : Ints w v1 old) (hv2 : Ints w v2 next) (hm : old.length ≤ 1000000) (hm2 : next.length ≤ 1000000) :
    Calls Try.prog 15 #[v1, v2, .int .i64 q] w fun e w' => e = .returned (.bool (fitsI old next q)) ∧ Ex w.heap.size none w w' := by
  obtain ⟨ao, cap, rfl, hx⟩ := hv1
  obtain ⟨bo, cbp, rfl, hy⟩ := hv2
  go_enter Try.func15, Try.ntmps15
  go_wp2_with (go_at_call 12; refine (newcomers_any _ _ _ _ _ _ ⟨_, _, rfl, hy⟩ ⟨_, _, rfl, hx⟩ hm2 (by omega)).mono ?_; rintro e w' ⟨ro, rc, rfl, hown, hex⟩)
  go_ret
  exact ⟨rfl, hex⟩

theorem newcTo_len {xs old : List Int} {q : Int} {k : Nat} (hq : (xs.length : Int) ≤ q) (hk : k < xs.length) : ((newcTo xs old q k).length : Int) < q := by have := newcTo_le xs old q k; omega

set_option maxHeartbeats 1000000 in
theorem refFits_any (v1 v2 : Value) (old xs : List Int) (q : Int) (w : World) (hv1 : Ints w v1 old) (hv2 : Ints w v2 xs) (hm2 : old.length ≤ 1000000) (hm : xs.length ≤ 1000000) :
    Calls Try.prog 18 #[v1, v2, .int .i64 q] w fun e w' => e = .returned (.bool (fitsI old xs q)) ∧ Ex w.heap.size none w w' := by
  obtain ⟨ao, cap, rfl, hy⟩ := hv1
  obtain ⟨bo, cbp, rfl, hx⟩ := hv2
  have HM : Hid (∃ n : Int, n = xs.length) := ⟨_, rfl⟩
  obtain ⟨nq, hnq⟩ := HM.out
  have HQ := Lib.hid hnq
  clear hnq
  go_enter Try.func18, Try.ntmps18
  go_wp2
  go_loopw [7, 8] (fun v i wr => ∃ (k : Nat) (ro : Option Addr) (rc : Nat), k ≤ xs.length ∧ i = .int .i64 k ∧ v = .slice ro (newcTo xs old nq k).length rc ∧ OwnI wr w.heap.size ro rc (newcTo xs old nq k) ∧ Ex w.heap.size none w wr) (fun _ i _ => xs.length - (intOf i).toNat)
  case atStart => exact ⟨0, none, 0, by omega, rfl, rfl, OwnI.nil _ _, Ex.refl _ _ _⟩
  case round =>
    obtain ⟨k, ro, rc, hk, rfl, rfl, hown, hex⟩ := hrel
    have hle := newcTo_le xs old nq k
    have hsz := hex.size
    have hx1 := hx.keep hex (Nat.le_refl _) (by simp)
    have hy1 := hy.keep hex (Nat.le_refl _) (by simp)
    have hz1 := hown.ints
    by_cases hlt : k < xs.length
    · obtain ⟨b, off, y, rfl, hck, HY⟩ := hx1.get k hlt
      have hq' := newcTo_len (old := old) (show (xs.length : Int) ≤ nq from Int.le_of_eq HQ.out.symm) hlt
      by_cases h2 : hasI old y = true
      · have h2' : hasI old (xs.getD k 0) = true := by rw [HY.out]; exact h2
        have HK := Lib.hid (newcTo_no (xs := xs) (old := old) (q := nq) (k := k) (fun h => by rw [h.2.1] at h2'; cases h2'))
        go_wp2_with (first
          | (go_at_call 22; refine (refHas_any _ _ _ _ (by first | exact ⟨_, _, rfl, hy1⟩ | exact ⟨_, _, rfl, hz1⟩) (by omega)).mono ?_; rintro e w' ⟨rfl, rfl⟩))
        go_roundw
        case rel => exact ⟨k + 1, ro, rc, by omega, by go_num, by rw [HK.out], by rw [HK.out]; exact hown, hex⟩
        case measure => simp [intOf]; omega
      · replace h2 : hasI old y = false := by simpa using h2
        have h2' : hasI old (xs.getD k 0) = false := by rw [HY.out]; exact h2
        by_cases h3 : hasI (newcTo xs old nq k) y = true
        · have h3' : hasI (newcTo xs old nq k) (xs.getD k 0) = true := by rw [HY.out]; exact h3
          have HK := Lib.hid (newcTo_no (xs := xs) (old := old) (q := nq) (k := k) (fun h => by rw [h.2.2] at h3'; cases h3'))
          go_wp2_with (first
            | (go_at_call 22; refine (refHas_any _ _ _ _ (by first | exact ⟨_, _, rfl, hy1⟩ | exact ⟨_, _, rfl, hz1⟩) (by omega)).mono ?_; rintro e w' ⟨rfl, rfl⟩))
          go_roundw
          case rel => exact ⟨k + 1, ro, rc, by omega, by go_num, by rw [HK.out], by rw [HK.out]; exact hown, hex⟩
          case measure => simp [intOf]; omega
        · replace h3 : hasI (newcTo xs old nq k) y = false := by simpa using h3
          have h3' : hasI (newcTo xs old nq k) (xs.getD k 0) = false := by rw [HY.out]; exact h3
          have HK := Lib.hid (newcTo_yes (xs := xs) (old := old) (q := nq) (k := k) ⟨hq', h2', h3'⟩)
          go_wp2_with (first
            | (go_at_call 22; refine (refHas_any _ _ _ _ (by first | exact ⟨_, _, rfl, hy1⟩ | exact ⟨_, _, rfl, hz1⟩) (by omega)).mono ?_; rintro e w' ⟨rfl, rfl⟩)
            | (at_builtin; refine wpList_appI rfl _ _ _ rfl Try.underlying22 Try.infoInt w.heap.size ro rc _ wr.heap.size y rfl rfl hown (Ex.new _ _) (by go_simp) (by omega) hsz ?_; intro ro' rc' w1 hown1 hex1))
          go_roundw
          case rel => exact ⟨k + 1, ro', rc', by omega, by go_num, by rw [HK.out, List.length_append]; rfl, by rw [HK.out, HY.out]; exact hown1, hex.trans hex1 (Nat.le_refl _) (by simp)⟩
          case measure => simp [intOf]; omega
    · obtain rfl : k = xs.length := by omega
      go_wp2
      go_ret
      refine ⟨ret_bool ?_, hex⟩
      show decide (_ ≤ q) = _
      rw [HQ.out]; rfl

theorem thereTo_yes {g ks : List Int} {k : Nat} (h : hasI g (ks.getD k 0) = true) : thereTo g ks (k + 1) = thereTo g ks k + 1 := by rw [thereTo, if_pos h]
theorem thereTo_no {g ks : List Int} {k : Nat} (h : hasI g (ks.getD k 0) = false) : thereTo g ks (k + 1) = thereTo g ks k := by rw [thereTo, h]; rfl

set_option maxHeartbeats 400000 in
theorem most_any (v1 v2 : Value) (g xs : List Int) (e q : Int) (w : World) (hv1 : Ints w v1 g) (hv2 : Ints w v2 xs) (hm2 : g.length ≤ 1000000) (hm : xs.length ≤ 1000000) (he : 0 ≤ e ∧ e ≤ 1000000) (hq : 0 ≤ q ∧ q ≤ 1000000) :
    Calls Try.prog 19 #[v1, v2, .int .i64 e, .int .i64 q] w fun e' w' => e' = .returned (.int .i64 (mostI g xs e q)) ∧ w = w' := by
  obtain ⟨ao, cap, rfl, hy⟩ := hv1
  obtain ⟨bo, cbp, rfl, hx⟩ := hv2
  have hp : 0 ≤ e * q := Int.mul_nonneg he.1 hq.1
  have hp2 : e * q ≤ 1000000 * 1000000 := Int.mul_le_mul he.2 hq.2 hq.1 (by omega)
  obtain ⟨e1, e2⟩ := he
  obtain ⟨q1, q2⟩ := hq
  have hwr : IntKind.i64.wrap (e * q) = e * q := IntWalk.i64_in _ (by omega)
  go_enter Try.func19, Try.ntmps19
  go_wp2
  go_loop [9, 14] (fun v i => ∃ (k : Nat), k ≤ xs.length ∧ i = .int .i64 k ∧ v = .int .i64 (thereTo g xs k)) (fun _ i => xs.length - (intOf i).toNat)
  case atStart => exact ⟨0, by omega, rfl, rfl⟩
  case round =>
    obtain ⟨k, hk, rfl, rfl⟩ := hrel
    have hle := thereTo_le g xs k
    by_cases hlt : k < xs.length
    · obtain ⟨b, off, y, rfl, hck, HY⟩ := hx.get k hlt
      by_cases h2 : hasI g y = true
      · have HK := Lib.hid (thereTo_yes (g := g) (ks := xs) (k := k) (by rw [HY.out]; exact h2))
        go_wp2_with (go_at_call 26; refine (rosterHas_any _ _ _ _ ⟨_, _, rfl, hy⟩ (by omega)).mono ?_; rintro e w' ⟨rfl, rfl⟩)
        go_round
        case rel => exact ⟨k + 1, by omega, by go_num, by rw [HK.out]; go_num⟩
        case measure => simp [intOf]; omega
      · replace h2 : hasI g y = false := by simpa using h2
        have HK := Lib.hid (thereTo_no (g := g) (ks := xs) (k := k) (by rw [HY.out]; exact h2))
        go_wp2_with (go_at_call 26; refine (rosterHas_any _ _ _ _ ⟨_, _, rfl, hy⟩ (by omega)).mono ?_; rintro e w' ⟨rfl, rfl⟩)
        go_round
        case rel => exact ⟨k + 1, by omega, by go_num, by rw [HK.out]⟩
        case measure => simp [intOf]; omega
    · obtain rfl : k = xs.length := by omega
      go_wp2
      all_goals
        go_ret
        exact ⟨ret_int (by unfold mostI; omega), rfl⟩

set_option maxHeartbeats 400000 in
theorem refMost_any (v1 v2 : Value) (g xs : List Int) (e q : Int) (w : World) (hv1 : Ints w v1 g) (hv2 : Ints w v2 xs) (hm2 : g.length ≤ 1000000) (hm : xs.length ≤ 1000000) (he : 0 ≤ e ∧ e ≤ 1000000) (hq : 0 ≤ q ∧ q ≤ 1000000) :
    Calls Try.prog 20 #[v1, v2, .int .i64 e, .int .i64 q] w fun e' w' => e' = .returned (.int .i64 (mostI g xs e q)) ∧ w = w' := by
  obtain ⟨ao, cap, rfl, hy⟩ := hv1
  obtain ⟨bo, cbp, rfl, hx⟩ := hv2
  have hp : 0 ≤ e * q := Int.mul_nonneg he.1 hq.1
  have hp2 : e * q ≤ 1000000 * 1000000 := Int.mul_le_mul he.2 hq.2 hq.1 (by omega)
  obtain ⟨e1, e2⟩ := he
  obtain ⟨q1, q2⟩ := hq
  go_enter Try.func20, Try.ntmps20
  go_wp2
  go_loop [9, 10] (fun v i => ∃ (k : Nat), k ≤ xs.length ∧ i = .int .i64 k ∧ v = .int .i64 (thereTo g xs k + e * q)) (fun _ i => xs.length - (intOf i).toNat)
  case atStart => exact ⟨0, by omega, rfl, by simp [thereTo]⟩
  case round =>
    obtain ⟨k, hk, rfl, rfl⟩ := hrel
    have hle := thereTo_le g xs k
    by_cases hlt : k < xs.length
    · obtain ⟨b, off, y, rfl, hck, HY⟩ := hx.get k hlt
      by_cases h2 : hasI g y = true
      · have HK := Lib.hid (thereTo_yes (g := g) (ks := xs) (k := k) (by rw [HY.out]; exact h2))
        go_wp2_with (go_at_call 22; refine (refHas_any _ _ _ _ ⟨_, _, rfl, hy⟩ (by omega)).mono ?_; rintro e w' ⟨rfl, rfl⟩)
        go_round
        case rel => exact ⟨k + 1, by omega, by go_num, by rw [HK.out]; go_num⟩
        case measure => simp [intOf]; omega
      · replace h2 : hasI g y = false := by simpa using h2
        have HK := Lib.hid (thereTo_no (g := g) (ks := xs) (k := k) (by rw [HY.out]; exact h2))
        go_wp2_with (go_at_call 22; refine (refHas_any _ _ _ _ ⟨_, _, rfl, hy⟩ (by omega)).mono ?_; rintro e w' ⟨rfl, rfl⟩)
        go_round
        case rel => exact ⟨k + 1, by omega, by go_num, by rw [HK.out]⟩
        case measure => simp [intOf]; omega
    · obtain rfl : k = xs.length := by omega
      go_wp2
      all_goals
        go_ret
        exact ⟨ret_int (by unfold mostI; omega), rfl⟩
end Go.Proofs.Ytgimodjkoincgaa
