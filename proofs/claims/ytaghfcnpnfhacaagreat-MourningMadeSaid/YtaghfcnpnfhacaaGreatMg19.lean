/- mourning.Draft and ref35.Draft at whatever heir: contracts, no statement of the seat. | ref23.Order and SameDraft where no lists are: contracts, no statement of the seat. -/
import Derived.Test.YtaghfcnpnfhacaaGreatDraft34G
import Derived.Test.YtaghfcnpnfhacaaGreatMg06
import Derived.Test.YtaghfcnpnfhacaaGreatMg00
namespace Go.Proofs.YtaghfcnpnfhacaaGreat
open Go.RowKit Go.Sort

/-- What Draft hands back. -/
def draftV (a b : Int) : Value := if rightB a b = true then .tuple #[.agg #[.int .i64 13, .int .i64 a, .int .i64 b, .int .i64 0, .slice none 0 0, .slice none 0 0], .int .i64 0] else .tuple #[.agg #[.int .i64 0, .int .i64 0, .int .i64 0, .int .i64 0, .slice none 0 0, .slice none 0 0], .int .i64 4]
set_option maxHeartbeats 4000000 in
set_option maxRecDepth 100000 in
theorem draftP35_any (a b : Int) (w : World) :
    Calls Tryz.prog 16 #[.agg #[.int .i64 a, .int .i64 b]] w fun e w' => e = .returned (draftV a b) ∧ Ex w.heap.size none w w' := by
  go_enter Tryz.func16, Tryz.ntmps16
  go_upto_region 1 with (fail)
  obtain ⟨w0, hw0⟩ : ∃ w0 : World, w0 = (w.alloc (.cells #[.int .i64 a, .int .i64 b] 25)).alloc (.cells #[.int .i64 0, .int .i64 0, .int .i64 0, .int .i64 0, .slice none 0 0, .slice none 0 0] 34) := ⟨_, rfl⟩
  have HE0 : Hid (Ex w.heap.size none w w0) := Lib.hid (by rw [hw0]; exact ex_two0 _ _)
  have hz0 : w0.heap.size = w.heap.size + 2 := by rw [hw0]; simp
  have HB : Hid (∀ w', Ex w0.heap.size none w0 w' → w'.heap[w.heap.size]? = some (.cells #[.int .i64 a, .int .i64 b] 25 (0, 0)) ∧ w'.heap[w.heap.size + 1]? = some (.cells #[.int .i64 0, .int .i64 0, .int .i64 0, .int .i64 0, .slice none 0 0, .slice none 0 0] 34 (0, 0))) := Lib.hid (fun w' h => by
    rw [hw0] at h hz0
    exact ⟨(h.block _ (by omega) (by simp)).trans (heap_alloc2_old _ _ _), (h.block _ (by omega) (by simp)).trans (heap_alloc2_new _ _ _)⟩)
  have HQ : Hid (∀ w', Ex w0.heap.size none w0 w' → w'.cell? ⟨w.heap.size, 0, none⟩ = some (.int .i64 a) ∧ w'.cell? ⟨w.heap.size, 1, none⟩ = some (.int .i64 b)) := Lib.hid (fun w' h => by
    have k := (HB.out w' h).1
    refine ⟨?_, ?_⟩ <;> (rw [cell_of_row _ _ _ _ _ _ k]; rfl))
  rw [← hw0]
  clear hw0
  obtain ⟨d0, d1⟩ := HQ.out _ (Ex.refl _ _ w0)
  cases hv : rightB a b with
  | false =>
    go_upto_region 2 with (first | (go_at_call 67; refine (asB (rightP_any a b _) hv).mono ?_; rintro e w1 ⟨rfl, hex⟩; have HE1 := Lib.hid hex; have hz1 := hex.size; clear hex d0 d1; obtain ⟨d0, d1⟩ := HQ.out _ HE1.out) | fail)
    have hrb := (HB.out _ HE1.out).2
    go_wp2_with (first | (refine wpList_store_rowTo rfl 34 (.tmp 2) (.tmp 7) rfl rfl (w.heap.size + 1) #[.int .i64 0, .int .i64 0, .int .i64 0, .int .i64 0, .slice none 0 0, .slice none 0 0] (by rfl) (by rfl) 34 _ hrb Tryz.sizeDraft rfl (by simp [Value.oneCell']) ?_) | fail)
    have hr := run_loadVar_row (P := Tryz.prog) _ (w.heap.size + 1) 34 34 (#[.int .i64 0, .int .i64 0, .int .i64 0, .int .i64 0, .slice none 0 0, .slice none 0 0] : Array Value) (0, 0) _ (setRow_heap _ _ _ _ _ _ hrb) Tryz.underlying34 rfl Tryz.sizeDraft
    refine bodyPost_ret (v := .tuple #[.agg #[.int .i64 0, .int .i64 0, .int .i64 0, .int .i64 0, .slice none 0 0, .slice none 0 0], .int .i64 4]) ?_ rfl ?_
    · rw [results_cell_tmp Tryz.results16]
      show ((loadVar 34 ⟨w.heap.size + 1, 0, none⟩).run Tryz.prog _).andThen _ = _
      rw [hr]
      rfl
    exact ⟨by unfold draftV; rw [hv]; rfl, (HE0.out.trans HE1.out (by omega) (by simp)).setRow _ _ (.inr (by omega))⟩
  | true =>
    go_upto_region 3 with (first | (go_at_call 67; refine (asB (rightP_any a b _) hv).mono ?_; rintro e w1 ⟨rfl, hex⟩; have HE1 := Lib.hid hex; have hz1 := hex.size; clear hex d0 d1; obtain ⟨d0, d1⟩ := HQ.out _ HE1.out) | fail)
    have hrb := (HB.out _ HE1.out).2
    go_wp2_with (first | (refine wpList_store_rowTo rfl 34 (.tmp 2) (.tmp 12) rfl rfl (w.heap.size + 1) #[.int .i64 13, .int .i64 a, .int .i64 b, .int .i64 0, .slice none 0 0, .slice none 0 0] (by rfl) (by rfl) 34 _ hrb Tryz.sizeDraft rfl (by simp [Value.oneCell']) ?_) | fail)
    have hr := run_loadVar_row (P := Tryz.prog) _ (w.heap.size + 1) 34 34 (#[.int .i64 13, .int .i64 a, .int .i64 b, .int .i64 0, .slice none 0 0, .slice none 0 0] : Array Value) (0, 0) _ (setRow_heap _ _ _ _ _ _ hrb) Tryz.underlying34 rfl Tryz.sizeDraft
    refine bodyPost_ret (v := .tuple #[.agg #[.int .i64 13, .int .i64 a, .int .i64 b, .int .i64 0, .slice none 0 0, .slice none 0 0], .int .i64 0]) ?_ rfl ?_
    · rw [results_cell_tmp Tryz.results16]
      show ((loadVar 34 ⟨w.heap.size + 1, 0, none⟩).run Tryz.prog _).andThen _ = _
      rw [hr]
      rfl
    exact ⟨by unfold draftV; rw [hv]; rfl, (HE0.out.trans HE1.out (by omega) (by simp)).setRow _ _ (.inr (by omega))⟩

set_option maxHeartbeats 4000000 in
set_option maxRecDepth 100000 in
theorem draft35_any (a b : Int) (w : World) :
    Calls Tryz.prog 17 #[.agg #[.int .i64 a, .int .i64 b]] w fun e w' => e = .returned (draftV a b) ∧ Ex w.heap.size none w w' := by
  go_enter Tryz.func17, Tryz.ntmps17
  go_upto_region 1 with (fail)
  obtain ⟨w0, hw0⟩ : ∃ w0 : World, w0 = (w.alloc (.cells #[.int .i64 a, .int .i64 b] 25)).alloc (.cells #[.int .i64 0, .int .i64 0, .int .i64 0, .int .i64 0, .slice none 0 0, .slice none 0 0] 34) := ⟨_, rfl⟩
  have HE0 : Hid (Ex w.heap.size none w w0) := Lib.hid (by rw [hw0]; exact ex_two0 _ _)
  have hz0 : w0.heap.size = w.heap.size + 2 := by rw [hw0]; simp
  have HB : Hid (∀ w', Ex w0.heap.size none w0 w' → w'.heap[w.heap.size]? = some (.cells #[.int .i64 a, .int .i64 b] 25 (0, 0)) ∧ w'.heap[w.heap.size + 1]? = some (.cells #[.int .i64 0, .int .i64 0, .int .i64 0, .int .i64 0, .slice none 0 0, .slice none 0 0] 34 (0, 0))) := Lib.hid (fun w' h => by
    rw [hw0] at h hz0
    exact ⟨(h.block _ (by omega) (by simp)).trans (heap_alloc2_old _ _ _), (h.block _ (by omega) (by simp)).trans (heap_alloc2_new _ _ _)⟩)
  have HQ : Hid (∀ w', Ex w0.heap.size none w0 w' → w'.cell? ⟨w.heap.size, 0, none⟩ = some (.int .i64 a) ∧ w'.cell? ⟨w.heap.size, 1, none⟩ = some (.int .i64 b)) := Lib.hid (fun w' h => by
    have k := (HB.out w' h).1
    refine ⟨?_, ?_⟩ <;> (rw [cell_of_row _ _ _ _ _ _ k]; rfl))
  rw [← hw0]
  clear hw0
  obtain ⟨d0, d1⟩ := HQ.out _ (Ex.refl _ _ w0)
  cases hv : rightB a b with
  | false =>
    go_upto_region 2 with (first | (go_at_call 68; refine (asB (right35_any a b _) hv).mono ?_; rintro e w1 ⟨rfl, hex⟩; have HE1 := Lib.hid hex; have hz1 := hex.size; clear hex d0 d1; obtain ⟨d0, d1⟩ := HQ.out _ HE1.out) | fail)
    have hrb := (HB.out _ HE1.out).2
    go_wp2_with (first | (refine wpList_store_rowTo rfl 34 (.tmp 2) (.tmp 7) rfl rfl (w.heap.size + 1) #[.int .i64 0, .int .i64 0, .int .i64 0, .int .i64 0, .slice none 0 0, .slice none 0 0] (by rfl) (by rfl) 34 _ hrb Tryz.sizeDraft rfl (by simp [Value.oneCell']) ?_) | fail)
    have hr := run_loadVar_row (P := Tryz.prog) _ (w.heap.size + 1) 34 34 (#[.int .i64 0, .int .i64 0, .int .i64 0, .int .i64 0, .slice none 0 0, .slice none 0 0] : Array Value) (0, 0) _ (setRow_heap _ _ _ _ _ _ hrb) Tryz.underlying34 rfl Tryz.sizeDraft
    refine bodyPost_ret (v := .tuple #[.agg #[.int .i64 0, .int .i64 0, .int .i64 0, .int .i64 0, .slice none 0 0, .slice none 0 0], .int .i64 4]) ?_ rfl ?_
    · rw [results_cell_tmp Tryz.results17]
      show ((loadVar 34 ⟨w.heap.size + 1, 0, none⟩).run Tryz.prog _).andThen _ = _
      rw [hr]
      rfl
    exact ⟨by unfold draftV; rw [hv]; rfl, (HE0.out.trans HE1.out (by omega) (by simp)).setRow _ _ (.inr (by omega))⟩
  | true =>
    go_upto_region 3 with (first | (go_at_call 68; refine (asB (right35_any a b _) hv).mono ?_; rintro e w1 ⟨rfl, hex⟩; have HE1 := Lib.hid hex; have hz1 := hex.size; clear hex d0 d1; obtain ⟨d0, d1⟩ := HQ.out _ HE1.out) | fail)
    have hrb := (HB.out _ HE1.out).2
    go_wp2_with (first | (refine wpList_store_rowTo rfl 34 (.tmp 2) (.tmp 12) rfl rfl (w.heap.size + 1) #[.int .i64 13, .int .i64 a, .int .i64 b, .int .i64 0, .slice none 0 0, .slice none 0 0] (by rfl) (by rfl) 34 _ hrb Tryz.sizeDraft rfl (by simp [Value.oneCell']) ?_) | fail)
    have hr := run_loadVar_row (P := Tryz.prog) _ (w.heap.size + 1) 34 34 (#[.int .i64 13, .int .i64 a, .int .i64 b, .int .i64 0, .slice none 0 0, .slice none 0 0] : Array Value) (0, 0) _ (setRow_heap _ _ _ _ _ _ hrb) Tryz.underlying34 rfl Tryz.sizeDraft
    refine bodyPost_ret (v := .tuple #[.agg #[.int .i64 13, .int .i64 a, .int .i64 b, .int .i64 0, .slice none 0 0, .slice none 0 0], .int .i64 0]) ?_ rfl ?_
    · rw [results_cell_tmp Tryz.results17]
      show ((loadVar 34 ⟨w.heap.size + 1, 0, none⟩).run Tryz.prog _).andThen _ = _
      rw [hr]
      rfl
    exact ⟨by unfold draftV; rw [hv]; rfl, (HE0.out.trans HE1.out (by omega) (by simp)).setRow _ _ (.inr (by omega))⟩

end Go.Proofs.YtaghfcnpnfhacaaGreat

namespace Go.Proofs.YtaghfcnpnfhacaaGreat
open Go.RowKit Go.Sort

theorem cmp00_any (w : World) : Calls Tryz.prog 149 #[.int .i64 0, .int .i64 0] w fun e w' => e = .returned (.int .i64 0) ∧ w = w' := by
  go_enter Tryz.func149, Tryz.ntmps149
  go_wp2
  go_ret
  exact ⟨rfl, rfl⟩
set_option maxHeartbeats 4000000 in
set_option maxRecDepth 100000 in
theorem order00_any (w : World) : Calls Tryz.prog 69 #[.agg #[.slice none 0 0, .slice none 0 0], .agg #[.slice none 0 0, .slice none 0 0]] w fun e w' => e = .returned (.int .i64 0) ∧ Ex w.heap.size none w w' := by
  go_enter Tryz.func69, Tryz.ntmps69
  go_upto_region 1 with (fail)
  obtain ⟨w1, hw1⟩ : ∃ w1 : World, w1 = (w.alloc (.cells #[.slice none 0 0, .slice none 0 0] 78)).alloc (.cells #[.slice none 0 0, .slice none 0 0] 78) := ⟨_, rfl⟩
  have HE1 : Hid (Ex w.heap.size none w w1) := Lib.hid (by rw [hw1]; exact ex_two0 _ _)
  have k1 : w1.heap[w.heap.size]? = some (.cells #[.slice none 0 0, .slice none 0 0] 78 (0, 0)) := by rw [hw1]; exact heap_alloc2_old _ _ _
  have k2 : w1.heap[w.heap.size + 1]? = some (.cells #[.slice none 0 0, .slice none 0 0] 78 (0, 0)) := by rw [hw1]; exact heap_alloc2_new _ _ _
  obtain ⟨a0, a1, b0, b1⟩ : w1.cell? ⟨w.heap.size, 0, none⟩ = some (.slice none 0 0) ∧ w1.cell? ⟨w.heap.size, 1, none⟩ = some (.slice none 0 0) ∧ w1.cell? ⟨w.heap.size + 1, 0, none⟩ = some (.slice none 0 0) ∧ w1.cell? ⟨w.heap.size + 1, 1, none⟩ = some (.slice none 0 0) := by
    refine ⟨?_, ?_, ?_, ?_⟩ <;> first | (rw [cell_of_row _ _ _ _ _ _ k1]; rfl) | (rw [cell_of_row _ _ _ _ _ _ k2]; rfl)
  rw [← hw1]
  clear hw1 k1 k2
  go_wp2_with (fail)
  go_loopw [5, 6] (fun i _ wr => i = .int .i64 0 ∧ wr = w1) (fun _ _ _ => 0)
  case atStart => exact ⟨rfl, rfl⟩
  case round =>
    obtain ⟨rfl, rfl⟩ := hrel
    obtain ⟨w1, hw1⟩ : ∃ x : World, x = wr := ⟨_, rfl⟩
    subst hw1
    go_wp2_with (first | (go_at_call 149; refine (cmp00_any _).mono ?_; rintro e w' ⟨rfl, rfl⟩) | fail)
    go_loopw [8, 9, 10, 11, 12] (fun i _ _ _ _ wr => i = .int .i64 0 ∧ wr = w1) (fun _ _ _ _ _ _ => 0)
    case atStart => exact ⟨rfl, rfl⟩
    case round =>
      obtain ⟨rfl, rfl⟩ := hrel
      go_wp2_with (first | (go_at_call 149; refine (cmp00_any _).mono ?_; rintro e w' ⟨rfl, rfl⟩) | fail)
      go_ret
      exact ⟨rfl, HE1.out⟩
set_option maxHeartbeats 4000000 in
set_option maxRecDepth 100000 in
theorem sameDraft_any (k a b : Int) (w : World) : Calls Tryz.prog 18 #[.agg #[.int .i64 k, .int .i64 a, .int .i64 b, .int .i64 0, .slice none 0 0, .slice none 0 0], .agg #[.int .i64 k, .int .i64 a, .int .i64 b, .int .i64 0, .slice none 0 0, .slice none 0 0]] w fun e w' => e = .returned (.bool true) ∧ Ex w.heap.size none w w' := by
  have e1 : (k == k) = true := by simp
  have e2 : (a == a) = true := by simp
  have e3 : (b == b) = true := by simp
  go_enter Tryz.func18, Tryz.ntmps18
  go_upto_region 1 with (fail)
  obtain ⟨w1, hw1⟩ : ∃ w1 : World, w1 = (w.alloc (.cells #[.int .i64 k, .int .i64 a, .int .i64 b, .int .i64 0, .slice none 0 0, .slice none 0 0] 34)).alloc (.cells #[.int .i64 k, .int .i64 a, .int .i64 b, .int .i64 0, .slice none 0 0, .slice none 0 0] 34) := ⟨_, rfl⟩
  have HE1 : Hid (Ex w.heap.size none w w1) := Lib.hid (by rw [hw1]; exact ex_two0 _ _)
  have hz1 : w.heap.size ≤ w1.heap.size := HE1.out.size
  have k1 : w1.heap[w.heap.size]? = some (.cells #[.int .i64 k, .int .i64 a, .int .i64 b, .int .i64 0, .slice none 0 0, .slice none 0 0] 34 (0, 0)) := by rw [hw1]; exact heap_alloc2_old _ _ _
  have k2 : w1.heap[w.heap.size + 1]? = some (.cells #[.int .i64 k, .int .i64 a, .int .i64 b, .int .i64 0, .slice none 0 0, .slice none 0 0] 34 (0, 0)) := by rw [hw1]; exact heap_alloc2_new _ _ _
  obtain ⟨a0, a1, a2, a3, a4, a5, b0, b1, b2, b3, b4, b5⟩ : w1.cell? ⟨w.heap.size, 0, none⟩ = some (.int .i64 k) ∧ w1.cell? ⟨w.heap.size, 1, none⟩ = some (.int .i64 a) ∧ w1.cell? ⟨w.heap.size, 2, none⟩ = some (.int .i64 b) ∧ w1.cell? ⟨w.heap.size, 3, none⟩ = some (.int .i64 0) ∧ w1.cell? ⟨w.heap.size, 4, none⟩ = some (.slice none 0 0) ∧ w1.cell? ⟨w.heap.size, 5, none⟩ = some (.slice none 0 0) ∧ w1.cell? ⟨w.heap.size + 1, 0, none⟩ = some (.int .i64 k) ∧ w1.cell? ⟨w.heap.size + 1, 1, none⟩ = some (.int .i64 a) ∧ w1.cell? ⟨w.heap.size + 1, 2, none⟩ = some (.int .i64 b) ∧ w1.cell? ⟨w.heap.size + 1, 3, none⟩ = some (.int .i64 0) ∧ w1.cell? ⟨w.heap.size + 1, 4, none⟩ = some (.slice none 0 0) ∧ w1.cell? ⟨w.heap.size + 1, 5, none⟩ = some (.slice none 0 0) := by
    refine ⟨?_, ?_, ?_, ?_, ?_, ?_, ?_, ?_, ?_, ?_, ?_, ?_⟩ <;> first | (rw [cell_of_row _ _ _ _ _ _ k1]; rfl) | (rw [cell_of_row _ _ _ _ _ _ k2]; rfl)
  rw [← hw1]
  clear hw1 k1 k2
  go_wp2_with (first | (go_at_call 69; refine (order00_any _).mono ?_; rintro e w2 ⟨rfl, hex⟩; have HE2 := Lib.hid hex; clear hex) | fail)
  go_ret
  exact ⟨rfl, HE1.out.trans HE2.out hz1 (by simp)⟩
end Go.Proofs.YtaghfcnpnfhacaaGreat
