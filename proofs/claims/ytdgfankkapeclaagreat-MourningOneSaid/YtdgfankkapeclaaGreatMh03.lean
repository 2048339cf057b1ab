/- Minus: a contract, no statement of the seat. | Some: contracts, no statement of the seat. | mill.Keys: contracts, no statement of the seat. -/
import Derived.Test.YtdgfankkapeclaaGreatMg00
import Derived.Test.YtdgfankkapeclaaGreatMg01
namespace Go.Proofs.YtdgfankkapeclaaGreat
open Go.RowKit

set_option maxHeartbeats 400000 in
theorem minus_any (v1 v2 : Value) (xs ys : List Int) (w : World) (hv1 : Ints w v1 xs) (hv2 : Ints w v2 ys) (hm : xs.length ≤ 9223372036854775807) (hm2 : ys.length ≤ 9223372036854775807) :
    Calls Tryz.prog 53 #[v1, v2] w fun e w' => ∃ ro rc, e = .returned (.slice ro (minusI xs ys).length rc) ∧ OwnI w' w.heap.size ro rc (minusI xs ys) ∧ Ex w.heap.size none w w' := by
  obtain ⟨ao, cap, rfl, hx⟩ := hv1
  obtain ⟨bo, cbp, rfl, hy⟩ := hv2
  go_enter Tryz.func53, Tryz.ntmps53
  go_wp2
  go_loopw [5, 6] (fun v i wr => ∃ (k : Nat) (ro : Option Addr) (rc : Nat), k ≤ 64 ∧ i = .int .i64 k ∧ v = .slice ro (keysTo (fun k => hasI xs k && !hasI ys k) k).length rc ∧ OwnI wr w.heap.size ro rc (keysTo (fun k => hasI xs k && !hasI ys k) k) ∧ Ex w.heap.size none w wr) (fun _ i _ => 64 - (intOf i).toNat)
  case atStart => exact ⟨0, none, 0, by omega, rfl, rfl, OwnI.nil _ _, Ex.refl _ _ _⟩
  case round =>
    obtain ⟨k, ro, rc, hk, rfl, rfl, hown, hex⟩ := hrel
    have hle := keysTo_le (fun k => hasI xs k && !hasI ys k) k
    have hsz := hex.size
    have hx1 := hx.keep hex (Nat.le_refl _) (by simp)
    have hy1 := hy.keep hex (Nat.le_refl _) (by simp)
    by_cases hlt : k < 64
    · by_cases h2 : hasI xs (k : Int) = true
      · by_cases h3 : hasI ys (k : Int) = true
        · have HK := Lib.hid (keysTo_no (c := (fun k => hasI xs k && !hasI ys k)) (k := k) (by simp [h3]))
          go_wp2_with (first
            | (go_at_call 20; refine (refHas_any _ _ _ _ (by first | exact ⟨_, _, rfl, hx1⟩ | exact ⟨_, _, rfl, hy1⟩) (by first | exact hm | exact hm2)).mono ?_; rintro e w' ⟨rfl, rfl⟩)
            | (at_builtin; refine wpList_appI rfl _ _ _ rfl Tryz.underlying22 Tryz.infoInt w.heap.size ro rc _ wr.heap.size k rfl rfl hown (Ex.new _ _) (by go_simp) (by omega) hsz ?_; intro ro' rc' w1 hown1 hex1))
          go_roundw
          case rel => exact ⟨k + 1, ro, rc, by omega, by go_num, by rw [HK.out], by rw [HK.out]; exact hown, hex⟩
          case measure => simp [intOf]; omega
        · replace h3 : hasI ys (k : Int) = false := by simpa using h3
          have HK := Lib.hid (keysTo_yes (c := (fun k => hasI xs k && !hasI ys k)) (k := k) (by simp [h2, h3]))
          go_wp2_with (first
            | (go_at_call 20; refine (refHas_any _ _ _ _ (by first | exact ⟨_, _, rfl, hx1⟩ | exact ⟨_, _, rfl, hy1⟩) (by first | exact hm | exact hm2)).mono ?_; rintro e w' ⟨rfl, rfl⟩)
            | (at_builtin; refine wpList_appI rfl _ _ _ rfl Tryz.underlying22 Tryz.infoInt w.heap.size ro rc _ wr.heap.size k rfl rfl hown (Ex.new _ _) (by go_simp) (by omega) hsz ?_; intro ro' rc' w1 hown1 hex1))
          go_roundw
          case rel => exact ⟨k + 1, ro', rc', by omega, by go_num, by rw [HK.out, List.length_append]; rfl, by rw [HK.out]; exact hown1, hex.trans hex1 (Nat.le_refl _) (by simp)⟩
          case measure => simp [intOf]; omega
      · replace h2 : hasI xs (k : Int) = false := by simpa using h2
        have HK := Lib.hid (keysTo_no (c := (fun k => hasI xs k && !hasI ys k)) (k := k) (by simp [h2]))
        go_wp2_with (first
          | (go_at_call 20; refine (refHas_any _ _ _ _ (by first | exact ⟨_, _, rfl, hx1⟩ | exact ⟨_, _, rfl, hy1⟩) (by first | exact hm | exact hm2)).mono ?_; rintro e w' ⟨rfl, rfl⟩)
          | (at_builtin; refine wpList_appI rfl _ _ _ rfl Tryz.underlying22 Tryz.infoInt w.heap.size ro rc _ wr.heap.size k rfl rfl hown (Ex.new _ _) (by go_simp) (by omega) hsz ?_; intro ro' rc' w1 hown1 hex1))
        go_roundw
        case rel => exact ⟨k + 1, ro, rc, by omega, by go_num, by rw [HK.out], by rw [HK.out]; exact hown, hex⟩
        case measure => simp [intOf]; omega
    · obtain rfl : k = 64 := by omega
      go_wp2
      go_ret
      exact ⟨ro, rc, rfl, hown, hex⟩
end Go.Proofs.YtdgfankkapeclaaGreat

namespace Go.Proofs.YtdgfankkapeclaaGreat
open Go.RowKit

theorem someTo_yes {d : List Int} {k : Nat} (h : dVal (someTo d k).2 3 = 0) : (someTo d (k + 1)).1 = (someTo d k).1 ++ [(k : Int)] := by rw [someTo, if_pos h]
theorem someTo_no {d : List Int} {k : Nat} (h : ¬ dVal (someTo d k).2 3 = 0) : (someTo d (k + 1)).1 = (someTo d k).1 := by rw [someTo, if_neg h, List.append_nil]
theorem someTo_rest {d : List Int} {k : Nat} : (someTo d (k + 1)).2 = (someTo d k).2.tail := rfl

set_option maxHeartbeats 400000 in
theorem some_any (N p : Nat) (d : List Int) (n : Int) (w : World) (hd : DiceAt N w p d) (hN : N ≤ w.heap.size) (h0 : 0 ≤ n) (hn : n ≤ 100000) :
    Calls Tryz.prog 64 #[.pointer (some ⟨p, 0, none⟩), .int .i64 n] w fun e w' => ∃ ro rc, e = .returned (.slice ro (someTo d n.toNat).1.length rc) ∧
      OwnI w' w.heap.size ro rc (someTo d n.toNat).1 ∧ DiceAt N w' p (someTo d n.toNat).2 ∧ Ex w.heap.size (some p) w w' := by
  obtain ⟨m, rfl⟩ := Int.eq_ofNat_of_zero_le h0
  rw [Int.toNat_natCast]
  have hp := hd.lt
  have hm : m ≤ 100000 := by omega
  go_enter Tryz.func64, Tryz.ntmps64
  go_wp2
  go_loopw [5, 6] (fun v i wr => ∃ (k : Nat) (ro : Option Addr) (rc : Nat), k ≤ m ∧ i = .int .i64 k ∧ v = .slice ro (someTo d k).1.length rc ∧ OwnI wr w.heap.size ro rc (someTo d k).1 ∧ DiceAt N wr p (someTo d k).2 ∧ Ex w.heap.size (some p) w wr) (fun _ i _ => m - (intOf i).toNat)
  case atStart => exact ⟨0, none, 0, by omega, rfl, rfl, OwnI.nil _ _, hd, Ex.refl _ _ _⟩
  case round =>
    obtain ⟨k, ro, rc, hk, rfl, rfl, hown, hdr, hex⟩ := hrel
    have hle := someTo_le d k
    have hsz := hex.size
    by_cases hlt : k < m
    · by_cases hv : dVal (someTo d k).2 3 = 0
      · have HK := Lib.hid (someTo_yes hv)
        have hb : (dVal (someTo d k).2 3 == 0) = true := by simpa using hv
        clear hv
        go_wp2_with (first
          | (go_at_call 22; refine (next_any N p _ _ _ hdr (by omega)).mono ?_; rintro e w2 ⟨rfl, hd2, hex2⟩; have hsz2 := hex2.size; have hown2 := hown.keep hex2 (Nat.le_refl _) (fun q e => by cases e; omega))
          | (at_builtin; refine wpList_appI (w0 := w2) rfl _ _ _ rfl Tryz.underlying22 Tryz.infoInt w.heap.size ro rc _ w2.heap.size k rfl rfl hown2 (Ex.new _ _) (by go_simp) (by omega) (by omega) ?_; intro ro' rc' w1 hown1 hex1))
        go_roundw
        case rel => exact ⟨k + 1, ro', rc', by omega, by go_num, by rw [HK.out, List.length_append]; rfl, by rw [HK.out]; exact hown1, hd2.keep hex1 (by omega), (hex.trans hex2 hsz (fun q e _ => by cases e; rfl)).trans hex1 (Nat.le_refl _) (by simp)⟩
        case measure => simp [intOf]; omega
      · have HK := Lib.hid (someTo_no hv)
        have hb : (dVal (someTo d k).2 3 == 0) = false := by simpa using hv
        clear hv
        go_wp2_with (first
          | (go_at_call 22; refine (next_any N p _ _ _ hdr (by omega)).mono ?_; rintro e w2 ⟨rfl, hd2, hex2⟩; have hsz2 := hex2.size; have hown2 := hown.keep hex2 (Nat.le_refl _) (fun q e => by cases e; omega)))
        go_roundw
        case rel => exact ⟨k + 1, ro, rc, by omega, by go_num, by rw [HK.out], by rw [HK.out]; exact hown2, by rw [someTo_rest]; exact hd2, hex.trans hex2 hsz (fun q e _ => by cases e; rfl)⟩
        case measure => simp [intOf]; omega
    · obtain rfl : k = m := by omega
      go_wp2
      go_ret
      exact ⟨ro, rc, rfl, hown, hdr, hex⟩

end Go.Proofs.YtdgfankkapeclaaGreat

namespace Go.Proofs.YtdgfankkapeclaaGreat
open Go.RowKit

set_option maxHeartbeats 400000 in
theorem keys_any (N p : Nat) (d : List Int) (n : Int) (w : World) (hd : DiceAt N w p d) (hN : N ≤ w.heap.size) (h0 : 0 ≤ n) (hn : n ≤ 100000) :
    Calls Tryz.prog 18 #[.pointer (some ⟨p, 0, none⟩), .int .i64 n] w fun e w' => ∃ ro rc, e = .returned (.slice ro (keysD d n).1.length rc) ∧
      OwnI w' w.heap.size ro rc (keysD d n).1 ∧ DiceAt N w' p (keysD d n).2 ∧ Ex w.heap.size (some p) w w' := by
  have hp := hd.lt
  by_cases h : (someTo d n.toNat).1 = []
  · have HK : Hid (keysD d n = ([dVal (someTo d n.toNat).2 n], (someTo d n.toNat).2.tail)) := if_pos h
    have hl : (((someTo d n.toNat).1.length : Int) == 0) = true := by simp [h]
    clear h
    go_enter Tryz.func18, Tryz.ntmps18
    go_wp2_with (first
      | (go_at_call 64; refine (some_any N p _ _ _ hd hN h0 hn).mono ?_; rintro e w2 ⟨ro, rc, rfl, hown2, hd2, hex2⟩; have hsz2 := hex2.size)
      | (go_at_call 22; refine (next_any N p _ _ _ hd2 (by omega)).mono ?_; rintro e w3 ⟨rfl, hd3, hex3⟩; have hsz3 := hex3.size))
    go_ret
    refine ⟨some ⟨w3.heap.size, 0, none⟩, 1, by rw [HK.out]; rfl, ?_, by rw [HK.out]; exact hd3.keep (Ex.new _ _) (by omega), ((hex2.trans hex3 hsz2 (fun q e _ => by cases e; rfl)).alloc (by omega) _)⟩
    rw [HK.out]
    exact own_lit1 w3 (by omega) _
  · have HK : Hid (keysD d n = someTo d n.toNat) := if_neg h
    have hl : (((someTo d n.toNat).1.length : Int) == 0) = false := by simpa using h
    clear h
    go_enter Tryz.func18, Tryz.ntmps18
    go_wp2_with (first
      | (go_at_call 64; refine (some_any N p _ _ _ hd hN h0 hn).mono ?_; rintro e w2 ⟨ro, rc, rfl, hown2, hd2, hex2⟩; have hsz2 := hex2.size))
    go_ret
    exact ⟨ro, rc, by rw [HK.out]; rfl, by rw [HK.out]; exact hown2, by rw [HK.out]; exact hd2, hex2⟩
end Go.Proofs.YtdgfankkapeclaaGreat
