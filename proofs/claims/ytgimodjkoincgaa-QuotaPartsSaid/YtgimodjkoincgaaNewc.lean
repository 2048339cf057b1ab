/- Newcomers, Fits, Most: contracts, no statement of the seat. -/
import Derived.Test.YtgimodjkoincgaaJoin
namespace Go.Proofs.Ytgimodjkoincgaa
open Go.RowKit

theorem newcTo_yes {xs old : List Int} {q : Int} {k : Nat} (h : ((newcTo xs old q k).length : Int) < q ∧ hasI old (xs.getD k 0) = false ∧ hasI (newcTo xs old q k) (xs.getD k 0) = false) : newcTo xs old q (k + 1) = newcTo xs old q k ++ [xs.getD k 0] := by rw [newcTo, if_pos h]
theorem newcTo_no {xs old : List Int} {q : Int} {k : Nat} (h : ¬ (((newcTo xs old q k).length : Int) < q ∧ hasI old (xs.getD k 0) = false ∧ hasI (newcTo xs old q k) (xs.getD k 0) = false)) : newcTo xs old q (k + 1) = newcTo xs old q k := by rw [newcTo, if_neg h]

set_option maxHeartbeats 1000000 in
theorem newcomers_any (v1 v2 : Value) (xs old : List Int) (q : Int) (w : World) (hv1 : Ints w v1 xs) (hv2 : Ints w v2 old) (hm : xs.length ≤ 1000000) (hm2 : old.length ≤ 9223372036854775807) :
    Calls Try.prog 12 #[v1, v2, .int .i64 q] w fun e w' => ∃ ro rc, e = .returned (.slice ro (newc xs old q).length rc) ∧ OwnI w' w.heap.size ro rc (newc xs old q) ∧ Ex w.heap.size none w w' := by
  obtain ⟨ao, cap, rfl, hx⟩ := hv1
  obtain ⟨bo, cbp, rfl, hy⟩ := hv2
  go_enter Try.func12, Try.ntmps12
  go_wp2
  go_loopw [7, 12] (fun v i wr => ∃ (k : Nat) (ro : Option Addr) (rc : Nat), k ≤ xs.length ∧ i = .int .i64 k ∧ v = .slice ro (newcTo xs old q k).length rc ∧ OwnI wr w.heap.size ro rc (newcTo xs old q k) ∧ Ex w.heap.size none w wr) (fun _ i _ => xs.length - (intOf i).toNat)
  case atStart => exact ⟨0, none, 0, by omega, rfl, rfl, OwnI.nil _ _, Ex.refl _ _ _⟩
  case round =>
    obtain ⟨k, ro, rc, hk, rfl, rfl, hown, hex⟩ := hrel
    have hle := newcTo_le xs old q k
    have hsz := hex.size
    have hx1 := hx.keep hex (Nat.le_refl _) (by simp)
    have hy1 := hy.keep hex (Nat.le_refl _) (by simp)
    have hz1 := hown.ints
    by_cases hlt : k < xs.length
    · obtain ⟨b, off, y, rfl, hck, HY⟩ := hx1.get k hlt
      have hck2 : ∀ o : Obj, (wr.alloc o).cell? ⟨b, off + k, none⟩ = some (.int .i64 y) := fun o => by rw [World.cell?_alloc_past _ _ _ (World.block_lt_of_cell? wr ⟨b, off + k, none⟩ hck)]; exact hck
      by_cases hq : q ≤ ((newcTo xs old q k).length : Int)
      · have HF := Lib.hid (newcTo_full hq xs.length (by omega))
        go_wp2
        go_ret
        exact ⟨ro, rc, by rw [newc, HF.out]; rfl, by rw [newc, HF.out]; exact hown, hex⟩
      · have hq' : ((newcTo xs old q k).length : Int) < q := by omega
        by_cases h2 : hasI old y = true
        · have h2' : hasI old (xs.getD k 0) = true := by rw [HY.out]; exact h2
          have HK := Lib.hid (newcTo_no (xs := xs) (old := old) (q := q) (k := k) (fun h => by rw [h.2.1] at h2'; cases h2'))
          go_wp2_with (first
            | (go_at_call 26; refine (rosterHas_any _ _ _ _ (by first | exact ⟨_, _, rfl, hy1⟩ | exact ⟨_, _, rfl, hz1⟩) (by omega)).mono ?_; rintro e w' ⟨rfl, rfl⟩)
            | (go_at_call 27; refine (contains_any _ _ _ _ ⟨_, _, rfl, hz1⟩ (by omega)).mono ?_; rintro e w' ⟨rfl, rfl⟩)
            | (at_builtin; refine wpList_appI rfl _ _ _ rfl Try.underlying22 Try.infoInt w.heap.size ro rc _ wr.heap.size y rfl rfl hown (Ex.new _ _) (by go_simp) (by omega) hsz ?_; intro ro' rc' w1 hown1 hex1))
          go_roundw
          case rel => exact ⟨k + 1, ro, rc, by omega, by go_num, by rw [HK.out], by rw [HK.out]; exact hown, hex⟩
          case measure => simp [intOf]; omega
        · replace h2 : hasI old y = false := by simpa using h2
          have h2' : hasI old (xs.getD k 0) = false := by rw [HY.out]; exact h2
          by_cases h3 : hasI (newcTo xs old q k) y = true
          · have h3' : hasI (newcTo xs old q k) (xs.getD k 0) = true := by rw [HY.out]; exact h3
            have HK := Lib.hid (newcTo_no (xs := xs) (old := old) (q := q) (k := k) (fun h => by rw [h.2.2] at h3'; cases h3'))
            go_wp2_with (first
              | (go_at_call 26; refine (rosterHas_any _ _ _ _ (by first | exact ⟨_, _, rfl, hy1⟩ | exact ⟨_, _, rfl, hz1⟩) (by omega)).mono ?_; rintro e w' ⟨rfl, rfl⟩)
              | (go_at_call 27; refine (contains_any _ _ _ _ ⟨_, _, rfl, hz1⟩ (by omega)).mono ?_; rintro e w' ⟨rfl, rfl⟩)
              | (at_builtin; refine wpList_appI rfl _ _ _ rfl Try.underlying22 Try.infoInt w.heap.size ro rc _ wr.heap.size y rfl rfl hown (Ex.new _ _) (by go_simp) (by omega) hsz ?_; intro ro' rc' w1 hown1 hex1))
            go_roundw
            case rel => exact ⟨k + 1, ro, rc, by omega, by go_num, by rw [HK.out], by rw [HK.out]; exact hown, hex⟩
            case measure => simp [intOf]; omega
          · replace h3 : hasI (newcTo xs old q k) y = false := by simpa using h3
            have h3' : hasI (newcTo xs old q k) (xs.getD k 0) = false := by rw [HY.out]; exact h3
            have HK := Lib.hid (newcTo_yes (xs := xs) (old := old) (q := q) (k := k) ⟨hq', h2', h3'⟩)
            go_wp2_with (first
              | (go_at_call 26; refine (rosterHas_any _ _ _ _ (by first | exact ⟨_, _, rfl, hy1⟩ | exact ⟨_, _, rfl, hz1⟩) (by omega)).mono ?_; rintro e w' ⟨rfl, rfl⟩)
              | (go_at_call 27; refine (contains_any _ _ _ _ ⟨_, _, rfl, hz1⟩ (by omega)).mono ?_; rintro e w' ⟨rfl, rfl⟩)
              | (at_builtin; refine wpList_appI rfl _ _ _ rfl Try.underlying22 Try.infoInt w.heap.size ro rc _ wr.heap.size y rfl rfl hown (Ex.new _ _) (by go_simp) (by omega) hsz ?_; intro ro' rc' w1 hown1 hex1))
            go_roundw
            case rel => exact ⟨k + 1, ro', rc', by omega, by go_num, by rw [HK.out, List.length_append]; rfl, by rw [HK.out, HY.out]; exact hown1, hex.trans hex1 (Nat.le_refl _) (by simp)⟩
            case measure => simp [intOf]; omega
    · obtain rfl : k = xs.length := by omega
      go_wp2
      go_ret
      exact ⟨ro, rc, rfl, hown, hex⟩

set_option maxHeartbeats 1000000 in
theorem refNewcomers_any (v1 v2 : Value) (xs old : List Int) (q : Int) (w : World) (hv1 : Ints w v1 xs) (hv2 : Ints w v2 old) (hm : xs.length ≤ 1000000) (hm2 : old.length ≤ 9223372036854775807) :
    Calls Try.prog 17 #[v1, v2, .int .i64 q] w fun e w' => ∃ ro rc, e = .returned (.slice ro (newc xs old q).length rc) ∧ OwnI w' w.heap.size ro rc (newc xs old q) ∧ Ex w.heap.size none w w' := by
  obtain ⟨ao, cap, rfl, hx⟩ := hv1
  obtain ⟨bo, cbp, rfl, hy⟩ := hv2
  go_enter Try.func17, Try.ntmps17
  go_wp2
  go_loopw [7, 8] (fun v i wr => ∃ (k : Nat) (ro : Option Addr) (rc : Nat), k ≤ xs.length ∧ i = .int .i64 k ∧ v = .slice ro (newcTo xs old q k).length rc ∧ OwnI wr w.heap.size ro rc (newcTo xs old q k) ∧ Ex w.heap.size none w wr) (fun _ i _ => xs.length - (intOf i).toNat)
  case atStart => exact ⟨0, none, 0, by omega, rfl, rfl, OwnI.nil _ _, Ex.refl _ _ _⟩
  case round =>
    obtain ⟨k, ro, rc, hk, rfl, rfl, hown, hex⟩ := hrel
    have hle := newcTo_le xs old q k
    have hsz := hex.size
    have hx1 := hx.keep hex (Nat.le_refl _) (by simp)
    have hy1 := hy.keep hex (Nat.le_refl _) (by simp)
    have hz1 := hown.ints
    by_cases hlt : k < xs.length
    · obtain ⟨b, off, y, rfl, hck, HY⟩ := hx1.get k hlt
      have hck2 : ∀ o : Obj, (wr.alloc o).cell? ⟨b, off + k, none⟩ = some (.int .i64 y) := fun o => by rw [World.cell?_alloc_past _ _ _ (World.block_lt_of_cell? wr ⟨b, off + k, none⟩ hck)]; exact hck
      by_cases hq : q ≤ ((newcTo xs old q k).length : Int)
      · have HF := Lib.hid (newcTo_full hq xs.length (by omega))
        go_wp2
        go_ret
        exact ⟨ro, rc, by rw [newc, HF.out]; rfl, by rw [newc, HF.out]; exact hown, hex⟩
      · have hq' : ((newcTo xs old q k).length : Int) < q := by omega
        by_cases h2 : hasI old y = true
        · have h2' : hasI old (xs.getD k 0) = true := by rw [HY.out]; exact h2
          have HK := Lib.hid (newcTo_no (xs := xs) (old := old) (q := q) (k := k) (fun h => by rw [h.2.1] at h2'; cases h2'))
          go_wp2_with (first
            | (go_at_call 22; refine (refHas_any _ _ _ _ (by first | exact ⟨_, _, rfl, hy1⟩ | exact ⟨_, _, rfl, hz1⟩) (by omega)).mono ?_; rintro e w' ⟨rfl, rfl⟩)
            | (at_builtin; refine wpList_appI rfl _ _ _ rfl Try.underlying22 Try.infoInt w.heap.size ro rc _ wr.heap.size y rfl rfl hown (Ex.new _ _) (by go_simp) (by omega) hsz ?_; intro ro' rc' w1 hown1 hex1))
          go_roundw
          case rel => exact ⟨k + 1, ro, rc, by omega, by go_num, by rw [HK.out], by rw [HK.out]; exact hown, hex⟩
          case measure => simp [intOf]; omega
        · replace h2 : hasI old y = false := by simpa using h2
          have h2' : hasI old (xs.getD k 0) = false := by rw [HY.out]; exact h2
          by_cases h3 : hasI (newcTo xs old q k) y = true
          · have h3' : hasI (newcTo xs old q k) (xs.getD k 0) = true := by rw [HY.out]; exact h3
            have HK := Lib.hid (newcTo_no (xs := xs) (old := old) (q := q) (k := k) (fun h => by rw [h.2.2] at h3'; cases h3'))
            go_wp2_with (first
              | (go_at_call 22; refine (refHas_any _ _ _ _ (by first | exact ⟨_, _, rfl, hy1⟩ | exact ⟨_, _, rfl, hz1⟩) (by omega)).mono ?_; rintro e w' ⟨rfl, rfl⟩)
              | (at_builtin; refine wpList_appI rfl _ _ _ rfl Try.underlying22 Try.infoInt w.heap.size ro rc _ wr.heap.size y rfl rfl hown (Ex.new _ _) (by go_simp) (by omega) hsz ?_; intro ro' rc' w1 hown1 hex1))
            go_roundw
            case rel => exact ⟨k + 1, ro, rc, by omega, by go_num, by rw [HK.out], by rw [HK.out]; exact hown, hex⟩
            case measure => simp [intOf]; omega
          · replace h3 : hasI (newcTo xs old q k) y = false := by simpa using h3
            have h3' : hasI (newcTo xs old q k) (xs.getD k 0) = false := by rw [HY.out]; exact h3
            have HK := Lib.hid (newcTo_yes (xs := xs) (old := old) (q := q) (k := k) ⟨hq', h2', h3'⟩)
            go_wp2_with (first
              | (go_at_call 22; refine (refHas_any _ _ _ _ (by first | exact ⟨_, _, rfl, hy1⟩ | exact ⟨_, _, rfl, hz1⟩) (by omega)).mono ?_; rintro e w' ⟨rfl, rfl⟩)
              | (at_builtin; refine wpList_appI rfl _ _ _ rfl Try.underlying22 Try.infoInt w.heap.size ro rc _ wr.heap.size y rfl rfl hown (Ex.new _ _) (by go_simp) (by omega) hsz ?_; intro ro' rc' w1 hown1 hex1))
            go_roundw
            case rel => exact ⟨k + 1, ro', rc', by omega, by go_num, by rw [HK.out, List.length_append]; rfl, by rw [HK.out, HY.out]; exact hown1, hex.trans hex1 (Nat.le_refl _) (by simp)⟩
            case measure => simp [intOf]; omega
    · obtain rfl : k = xs.length := by omega
      go_wp2
      go_ret
      exact ⟨ro, rc, rfl, hown, hex⟩
end Go.Proofs.Ytgimodjkoincgaa
