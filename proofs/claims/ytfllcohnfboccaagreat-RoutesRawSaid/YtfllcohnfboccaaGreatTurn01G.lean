/- ref01.turn, constants: contracts, no statement of the seat. -/
import Derived.Test.YtfllcohnfboccaaGreatMg06
import Derived.Outline
namespace Go.Proofs.YtfllcohnfboccaaGreat
open Go.RowKit Go.Sort

set_option maxHeartbeats 1000000 in
theorem turn01_any (x : UInt32) (n : Nat) (h1 : 1 ≤ n) (h2 : n ≤ 31) (w : World) : Calls Tryz.prog 187 #[.int .u32 x.toNat, .int .u64 n] w fun e w' => e = .returned (.int .u32 (turnU x n).toNat) ∧ w = w' := by
  go_enter Tryz.func187, Tryz.ntmps187
  go_wp2
  go_ret
  exact ⟨by rw [u_turn x n h1 h2]; rfl, rfl⟩
theorem turnZ_any (x : UInt32) (z : Int) (h1 : 1 ≤ z) (h2 : z ≤ 31) (w : World) : Calls Tryz.prog 187 #[.int .u32 x.toNat, .int .u64 z] w fun e w' => e = .returned (.int .u32 (turnU x z.toNat).toNat) ∧ w = w' := by
  have := turn01_any x z.toNat (by omega) (by omega) w
  rwa [show ((z.toNat : Nat) : Int) = z by omega] at this
set_option maxHeartbeats 1000000 in
theorem const01_any (w : World) : Calls Tryz.prog 172 #[] w fun e w' => e = .returned (.slice (some ⟨w.heap.size, 0, none⟩) 64 64) ∧ SlAt wdRep (fun b => w.heap.size ≤ b) w' (some ⟨w.heap.size, 0, none⟩) constU ∧ Ex w.heap.size none w w' := by
  go_enter Tryz.func172, Tryz.ntmps172
  go_wp2
  go_ret
  exact ⟨rfl, val_sl (Nat.le_refl _) (holdsK_flat wdE_len (fun j v hv => by rw [Nat.zero_add, cell_of_row _ _ _ _ _ _ (heap_alloc_new w _)]; rw [flat_wdE] at hv; simpa [constU] using hv) (fun j hj => by rw [Nat.zero_add]; unfold World.frozen?; rw [heap_alloc_new]; simp)), Ex.new _ _⟩
end Go.Proofs.YtfllcohnfboccaaGreat
