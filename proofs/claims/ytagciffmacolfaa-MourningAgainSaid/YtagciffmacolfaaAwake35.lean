/- awake of the Mourning laws: a contract, no statement of the seat. -/
import Derived.Test.YtagciffmacolfaaMournReplace
import Derived.Test.YtagciffmacolfaaSame23
namespace Go.Proofs.Ytagciffmacolfaa
open Go.RowKit Go.Sort

theorem heirs_lit (w : World) (xs : List (Int × Int)) (n : Nat) (hn : n = xs.length) (cs : Array Value) (hc : cs.toList = flatL encH xs) (t : TypeId) {g : Nat} (hg : g = w.heap.size) : Sl heirRep (fun b => b = w.heap.size) (w.alloc (.cells cs t)) (.slice (some ⟨g, 0, none⟩) n n) xs := by
  subst hn hg
  refine ⟨_, _, rfl, sl_holdsK rfl (holdsK_flat (enc := encH) (k := 2) (fun _ => rfl) (fun j v hv => ?_) (fun j hj => ?_))⟩
  · rw [Nat.zero_add, cell_of_row _ _ _ _ _ _ (heap_alloc_new w _)]
    rw [← hc] at hv; simpa using hv
  · rw [Nat.zero_add]; unfold World.frozen?; rw [heap_alloc_new]; simp

set_option maxHeartbeats 1000000 in
theorem awake35_any (w : World) : Calls Try.prog 18 #[] w fun e w' => e = .returned (.bool true) ∧ Ex w.heap.size none w w' := by
  have fv := heirs_lit w [(1, 4), (4, 6)] 2 rfl #[.int .i64 1, .int .i64 4, .int .i64 4, .int .i64 6] rfl 43 rfl
  go_enter Try.func18, Try.ntmps18
  have hA := Ex.refl w.heap.size none w
  go_wp2_with fail
  obtain ⟨w0, hw0⟩ : ∃ w0 : World, w0 = w.alloc (.cells #[.int .i64 1, .int .i64 4, .int .i64 4, .int .i64 6] 43) := ⟨_, rfl⟩
  have hE0 : Ex w.heap.size none w w0 := by rw [hw0]; exact Ex.new _ _
  have hS0 : w.heap.size + 1 = w0.heap.size := by rw [hw0]; simp
  rw [← hw0] at fv
  rw [← hw0]
  clear hw0
  replace hA := hE0
  have HS0 := Lib.hid hS0
  have hS0' : w.heap.size < w0.heap.size := by omega
  clear hS0
  refine (follow_any _ _ fv (by decide)).mono ?_
  rintro e w1 ⟨rfl, hex1⟩
  have hE1 : Ex w0.heap.size none w0 w1 := (Ex.weaken (by repeat (first | exact Ex.refl _ _ _ | refine Ex.alloc ?_ (by simp <;> omega) _ | refine Ex.drewN ?_ | refine Ex.drew ?_)) _).trans hex1 (by simp <;> omega) (by simp)
  have hS1 := hE1.size
  replace fv := fv.keep (by decide) (fun b _ hb => hE1.block b hb (by simp))
  replace hA := hA.trans hE1 (by omega) (by simp)
  clear hex1 hE1
  go_wp2_with fail
  refine (follow_any _ _ fv (by decide)).mono ?_
  rintro e w2 ⟨rfl, hex2⟩
  have hE2 : Ex w1.heap.size none w1 w2 := (Ex.weaken (by repeat (first | exact Ex.refl _ _ _ | refine Ex.alloc ?_ (by simp <;> omega) _ | refine Ex.drewN ?_ | refine Ex.drew ?_)) _).trans hex2 (by simp <;> omega) (by simp)
  have hS2 := hE2.size
  replace fv := fv.keep (by decide) (fun b _ hb => hE2.block b hb (by simp))
  replace hA := hA.trans hE2 (by omega) (by simp)
  clear hex2 hE2
  go_wp2_with fail
  refine (replace_any (l := [1, 2, 4]) _ (Ints.lit [1, 2, 4] (by simp) rfl) (fv.keep (by decide) (fun b _ hb => (Ex.new _ _).block b hb (by simp))) (by decide) (by decide)).mono ?_
  rintro e w3 ⟨ro, rc, rfl, hown, hex3⟩
  have hE3 : Ex w2.heap.size none w2 w3 := (Ex.weaken (by repeat (first | exact Ex.refl _ _ _ | refine Ex.alloc ?_ (by simp <;> omega) _ | refine Ex.drewN ?_ | refine Ex.drew ?_)) _).trans hex3 (by simp <;> omega) (by simp)
  have hS3 := hE3.size
  replace fv := fv.keep (by decide) (fun b _ hb => hE3.block b hb (by simp))
  replace hA := hA.trans hE3 (by omega) (by simp)
  have f1 : Ints w3 _ _ := ⟨ro, rc, rfl, hown⟩
  clear hown
  clear hex3 hE3
  go_wp2_with fail
  refine (asB (sameInts_any _ _ _ _ _ (f1.keep (Ex.new _ _) (Nat.le_refl _)) (Ints.lit [2, 6] (by simp) rfl) (by decide)) (b := true) (by decide)).mono ?_
  rintro e w4 ⟨rfl, hex4⟩
  have hE4 : Ex w3.heap.size none w3 w4 := (Ex.weaken (by repeat (first | exact Ex.refl _ _ _ | refine Ex.alloc ?_ (by simp <;> omega) _ | refine Ex.drewN ?_ | refine Ex.drew ?_)) _).trans hex4 (by simp <;> omega) (by simp)
  have hS4 := hE4.size
  replace fv := fv.keep (by decide) (fun b _ hb => hE4.block b hb (by simp))
  replace f1 := f1.keep hE4 (Nat.le_refl _)
  replace hA := hA.trans hE4 (by omega) (by simp)
  clear hex4 hE4
  go_wp2_with fail
  go_ret
  exact ⟨rfl, hA⟩
end Go.Proofs.Ytagciffmacolfaa
