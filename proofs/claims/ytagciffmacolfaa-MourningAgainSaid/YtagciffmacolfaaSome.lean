/- Some: contracts, no statement of the seat. -/
import Derived.Test.YtagciffmacolfaaDice
namespace Go.Proofs.Ytagciffmacolfaa
open Go.RowKit

theorem someTo_yes {d : List Int} {k : Nat} (h : dVal (someTo d k).2 3 = 0) : (someTo d (k + 1)).1 = (someTo d k).1 ++ [(k : Int)] := by rw [someTo, if_pos h]
theorem someTo_no {d : List Int} {k : Nat} (h : ¬ dVal (someTo d k).2 3 = 0) : (someTo d (k + 1)).1 = (someTo d k).1 := by rw [someTo, if_neg h, List.append_nil]
theorem someTo_rest {d : List Int} {k : Nat} : (someTo d (k + 1)).2 = (someTo d k).2.tail := rfl

set_option maxHeartbeats 400000 in
theorem some_any (N p : Nat) (d : List Int) (n : Int) (w : World) (hd : DiceAt N w p d) (hN : N ≤ w.heap.size) (h0 : 0 ≤ n) (hn : n ≤ 100000) :
    Calls Try.prog 55 #[.pointer (some ⟨p, 0, none⟩), .int .i64 n] w fun e w' => ∃ ro rc, e = .returned (.slice ro (someTo d n.toNat).1.length rc) ∧
      OwnI w' w.heap.size ro rc (someTo d n.toNat).1 ∧ DiceAt N w' p (someTo d n.toNat).2 ∧ Ex w.heap.size (some p) w w' := by
  obtain ⟨m, rfl⟩ := Int.eq_ofNat_of_zero_le h0
  rw [Int.toNat_natCast]
  have hp := hd.lt
  have hm : m ≤ 100000 := by omega
  go_enter Try.func55, Try.ntmps55
  go_wp2
  go_loopw [5, 6] (fun v i wr => ∃ (k : Nat) (ro : Option Addr) (rc : Nat), k ≤ m ∧ i = .int .i64 k ∧ v = .slice ro (someTo d k).1.length rc ∧ OwnI wr w.heap.size ro rc (someTo d k).1 ∧ DiceAt N wr p (someTo d k).2 ∧ Ex w.heap.size (some p) w wr) (fun _ i _ => m - (intOf i).toNat)
  case atStart => exact ⟨0, none, 0, by omega, rfl, rfl, OwnI.nil _ _, hd, Ex.refl _ _ _⟩
  case round =>
    obtain ⟨k, ro, rc, hk, rfl, rfl, hown, hdr, hex⟩ := hrel
    have hle := someTo_le d k
    have hsz := hex.size
    by_cases hlt : k < m
    · by_cases hv : dVal (someTo d k).2 3 = 0
      · have HK := Lib.hid (someTo_yes hv)
        have hb : (dVal (someTo d k).2 3 == 0) = true := by simpa using hv
        clear hv
        go_wp2_with (first
          | (go_at_call 28; refine (next_any N p _ _ _ hdr (by omega)).mono ?_; rintro e w2 ⟨rfl, hd2, hex2⟩; have hsz2 := hex2.size; have hown2 := hown.keep hex2 (Nat.le_refl _) (fun q e => by cases e; omega))
          | (at_builtin; refine wpList_appI (w0 := w2) rfl _ _ _ rfl Try.underlying25 Try.infoInt w.heap.size ro rc _ w2.heap.size k rfl rfl hown2 (Ex.new _ _) (by go_simp) (by omega) (by omega) ?_; intro ro' rc' w1 hown1 hex1))
        go_roundw
        case rel => exact ⟨k + 1, ro', rc', by omega, by go_num, by rw [HK.out, List.length_append]; rfl, by rw [HK.out]; exact hown1, hd2.keep hex1 (by omega), (hex.trans hex2 hsz (fun q e _ => by cases e; rfl)).trans hex1 (Nat.le_refl _) (by simp)⟩
        case measure => simp [intOf]; omega
      · have HK := Lib.hid (someTo_no hv)
        have hb : (dVal (someTo d k).2 3 == 0) = false := by simpa using hv
        clear hv
        go_wp2_with (first
          | (go_at_call 28; refine (next_any N p _ _ _ hdr (by omega)).mono ?_; rintro e w2 ⟨rfl, hd2, hex2⟩; have hsz2 := hex2.size; have hown2 := hown.keep hex2 (Nat.le_refl _) (fun q e => by cases e; omega)))
        go_roundw
        case rel => exact ⟨k + 1, ro, rc, by omega, by go_num, by rw [HK.out], by rw [HK.out]; exact hown2, by rw [someTo_rest]; exact hd2, hex.trans hex2 hsz (fun q e _ => by cases e; rfl)⟩
        case measure => simp [intOf]; omega
    · obtain rfl : k = m := by omega
      go_wp2
      go_ret
      exact ⟨ro, rc, rfl, hown, hdr, hex⟩

end Go.Proofs.Ytagciffmacolfaa
