/- mill.Keys: contracts, no statement of the seat. -/
import Derived.Test.YtagciffmacolfaaSome
namespace Go.Proofs.Ytagciffmacolfaa
open Go.RowKit

set_option maxHeartbeats 400000 in
theorem keys_any (N p : Nat) (d : List Int) (n : Int) (w : World) (hd : DiceAt N w p d) (hN : N ≤ w.heap.size) (h0 : 0 ≤ n) (hn : n ≤ 100000) :
    Calls Try.prog 29 #[.pointer (some ⟨p, 0, none⟩), .int .i64 n] w fun e w' => ∃ ro rc, e = .returned (.slice ro (keysD d n).1.length rc) ∧
      OwnI w' w.heap.size ro rc (keysD d n).1 ∧ DiceAt N w' p (keysD d n).2 ∧ Ex w.heap.size (some p) w w' := by
  have hp := hd.lt
  by_cases h : (someTo d n.toNat).1 = []
  · have HK : Hid (keysD d n = ([dVal (someTo d n.toNat).2 n], (someTo d n.toNat).2.tail)) := if_pos h
    have hl : (((someTo d n.toNat).1.length : Int) == 0) = true := by simp [h]
    clear h
    go_enter Try.func29, Try.ntmps29
    go_wp2_with (first
      | (go_at_call 55; refine (some_any N p _ _ _ hd hN h0 hn).mono ?_; rintro e w2 ⟨ro, rc, rfl, hown2, hd2, hex2⟩; have hsz2 := hex2.size)
      | (go_at_call 28; refine (next_any N p _ _ _ hd2 (by omega)).mono ?_; rintro e w3 ⟨rfl, hd3, hex3⟩; have hsz3 := hex3.size))
    go_ret
    refine ⟨some ⟨w3.heap.size, 0, none⟩, 1, by rw [HK.out]; rfl, ?_, by rw [HK.out]; exact hd3.keep (Ex.new _ _) (by omega), ((hex2.trans hex3 hsz2 (fun q e _ => by cases e; rfl)).alloc (by omega) _)⟩
    rw [HK.out]
    exact own_lit1 w3 (by omega) _
  · have HK : Hid (keysD d n = someTo d n.toNat) := if_neg h
    have hl : (((someTo d n.toNat).1.length : Int) == 0) = false := by simpa using h
    clear h
    go_enter Try.func29, Try.ntmps29
    go_wp2_with (first
      | (go_at_call 55; refine (some_any N p _ _ _ hd hN h0 hn).mono ?_; rintro e w2 ⟨ro, rc, rfl, hown2, hd2, hex2⟩; have hsz2 := hex2.size))
    go_ret
    exact ⟨ro, rc, by rw [HK.out]; rfl, by rw [HK.out]; exact hown2, by rw [HK.out]; exact hd2, hex2⟩
end Go.Proofs.Ytagciffmacolfaa
