/- mourning.right, Draft. No statement of the seat. -/
import Derived.Test.YtdgfankkapeclaaGreatMg08
import Derived.Test.YtdgfankkapeclaaGreatRoundsPG
import Derived.Laws.ResultCell
import Derived.Deep.Cut
namespace Go.Proofs.YtdgfankkapeclaaGreat
open Go.RowKit Go.Sort

set_option maxHeartbeats 1000000 in
theorem keyYes_any (n : Int) (w : World) (h : 0 ≤ n ∧ n < 64) : Calls Tryz.prog 65 #[.int .i64 n] w fun e w' => e = .returned (.bool true) ∧ w = w' := by
  obtain ⟨h1, h2⟩ := h
  go_enter Tryz.func65, Tryz.ntmps65
  go_wp2
  go_ret
  exact ⟨by simp, rfl⟩
set_option maxHeartbeats 1000000 in
theorem rightYes_any (a b : Int) (w : World) (ha : 0 ≤ a ∧ a < 64) (hb : 0 ≤ b ∧ b < 64) (hne : a ≠ b) : Calls Tryz.prog 73 #[.agg #[.int .i64 a, .int .i64 b]] w fun e w' => e = .returned (.bool true) ∧ Ex w.heap.size none w w' := by
  have hd : (a != b) = true := by simp [hne]
  go_enter Tryz.func73, Tryz.ntmps73
  go_wp2_with fail
  refine (keyYes_any a _ ha).mono ?_
  rintro e w' ⟨rfl, rfl⟩
  go_wp2_with fail
  refine (keyYes_any b _ hb).mono ?_
  rintro e w' ⟨rfl, rfl⟩
  go_wp2
  go_ret
  exact ⟨rfl, Ex.new _ _⟩
theorem Tryz.sizeD : (Tryz.prog.info? 46).map (·.size) = some 6 := by kernel_rfl
set_option maxHeartbeats 2000000 in
set_option maxRecDepth 100000 in
theorem draftLoss_any (a b : Int) (w : World) (ha : 0 ≤ a ∧ a < 64) (hb : 0 ≤ b ∧ b < 64) (hne : a ≠ b) :
    Calls Tryz.prog 27 #[.agg #[.int .i64 a, .int .i64 b]] w fun e w' => e = .returned (.tuple #[.agg #[.int .i64 13, .int .i64 a, .int .i64 b, .int .i64 0, .slice none 0 0, .slice none 0 0], .int .i64 0]) ∧ Ex w.heap.size none w w' := by
  go_enter Tryz.func27, Tryz.ntmps27
  go_upto_region 1 with (fail)
  obtain ⟨w0, hw0⟩ : ∃ w0 : World, w0 = (w.alloc (.cells #[.int .i64 a, .int .i64 b] 34)).alloc (.cells #[.int .i64 0, .int .i64 0, .int .i64 0, .int .i64 0, .slice none 0 0, .slice none 0 0] 46) := ⟨_, rfl⟩
  have HE0 : Hid (Ex w.heap.size none w w0) := Lib.hid (by rw [hw0]; exact ex_two0 _ _)
  have hz0 : w0.heap.size = w.heap.size + 2 := by rw [hw0]; simp
  have HB : Hid (∀ w', Ex w0.heap.size none w0 w' → w'.heap[w.heap.size]? = some (.cells #[.int .i64 a, .int .i64 b] 34 (0, 0)) ∧ w'.heap[w.heap.size + 1]? = some (.cells #[.int .i64 0, .int .i64 0, .int .i64 0, .int .i64 0, .slice none 0 0, .slice none 0 0] 46 (0, 0))) := Lib.hid (fun w' h => by
    rw [hw0] at h hz0
    exact ⟨(h.block _ (by omega) (by simp)).trans (heap_alloc2_old _ _ _), (h.block _ (by omega) (by simp)).trans (heap_alloc2_new _ _ _)⟩)
  have c0 : w0.cell? ⟨w.heap.size, 0, none⟩ = some (.int .i64 a) := by rw [cell_of_row _ _ _ _ _ _ (HB.out _ (Ex.refl _ _ _)).1]; rfl
  have c1 : w0.cell? ⟨w.heap.size, 1, none⟩ = some (.int .i64 b) := by rw [cell_of_row _ _ _ _ _ _ (HB.out _ (Ex.refl _ _ _)).1]; rfl
  rw [← hw0]
  clear hw0
  go_wp2_with fail
  refine (rightYes_any a b _ ha hb hne).mono ?_
  rintro e w1 ⟨rfl, hex⟩
  have HE1 := Lib.hid hex
  have e0 : w1.cell? ⟨w.heap.size, 0, none⟩ = some (.int .i64 a) := by rw [cell_of_row _ _ _ _ _ _ (HB.out _ hex).1]; rfl
  have e1 : w1.cell? ⟨w.heap.size, 1, none⟩ = some (.int .i64 b) := by rw [cell_of_row _ _ _ _ _ _ (HB.out _ hex).1]; rfl
  have HR1 : Hid (w1.heap[w.heap.size + 1]? = some (.cells #[.int .i64 0, .int .i64 0, .int .i64 0, .int .i64 0, .slice none 0 0, .slice none 0 0] 46 (0, 0))) := Lib.hid (HB.out _ hex).2
  clear hex c0 c1 hne
  go_wp2_with (refine wpList_store_rowTo rfl 46 (.tmp 2) (.tmp 12) rfl rfl (w.heap.size + 1) #[.int .i64 13, .int .i64 a, .int .i64 b, .int .i64 0, .slice none 0 0, .slice none 0 0] (by rfl) (by rfl) 46 _ HR1.out Tryz.sizeD rfl (by simp [Value.oneCell']) ?_)
  have hr := run_loadVar_row (P := Tryz.prog) _ (w.heap.size + 1) 46 46 (#[.int .i64 13, .int .i64 a, .int .i64 b, .int .i64 0, .slice none 0 0, .slice none 0 0] : Array Value) (0, 0) _ (setRow_heap _ _ _ _ _ _ HR1.out) Tryz.underlying46 rfl Tryz.sizeD
  refine bodyPost_ret (v := .tuple #[.agg #[.int .i64 13, .int .i64 a, .int .i64 b, .int .i64 0, .slice none 0 0, .slice none 0 0], .int .i64 0]) ?_ rfl ?_
  · rw [results_cell_tmp Tryz.results27]
    show ((loadVar 46 ⟨w.heap.size + 1, 0, none⟩).run Tryz.prog _).andThen _ = _
    rw [hr]
    rfl
  exact ⟨rfl, (HE0.out.trans HE1.out (by omega) (by simp)).row _ _ (.inr (by omega))⟩
end Go.Proofs.YtdgfankkapeclaaGreat
