/- The closures that the program's epoch hands about: contracts, no statement of the seat. -/
import Derived.Test.YtdmchekkcmjafaaEpochFns
import Derived.Sort.Grow
import Derived.Deep.RegionHeld3
import Derived.Deep.RegionLaw
import Derived.OwnWalk
import Derived.Outline
namespace Go.Proofs.Ytdmchekkcmjafaa
open Go.RowKit Go.Sort

/-- By time, author, number: what the program's Order compares by. -/
def byTime (x y : St × Sv × Sv) : Int := (([cmpI x.1.time y.1.time, cmpI x.1.author y.1.author, cmpI x.1.number y.1.number] : List Int).find? (· != 0)).getD 0
theorem cmpI_self (n : Int) : cmpI n n = 0 := cmpI_zero.2 rfl
theorem byTime_lt {x y : St × Sv × Sv} : byTime x y < 0 ↔ beforeB x.1 y.1 = true := by
  unfold byTime beforeB
  have a1 := @cmpI_zero x.1.time y.1.time
  have a2 := @cmpI_zero x.1.author y.1.author
  have a3 := @cmpI_zero x.1.number y.1.number
  have b1 := @cmpI_lt x.1.time y.1.time
  have b2 := @cmpI_lt x.1.author y.1.author
  have b3 := @cmpI_lt x.1.number y.1.number
  by_cases h1 : x.1.time = y.1.time
  · have e1 : (cmpI x.1.time y.1.time != 0) = false := by simp [a1.2 h1]
    by_cases h2 : x.1.author = y.1.author
    · have e2 : (cmpI x.1.author y.1.author != 0) = false := by simp [a2.2 h2]
      by_cases h3 : x.1.number = y.1.number
      · have e3 : (cmpI x.1.number y.1.number != 0) = false := by simp [a3.2 h3]
        simp [List.find?_cons, cmpI_self, h1, h2, h3]
      · have e3 : (cmpI x.1.number y.1.number != 0) = true := by simp; exact fun h => h3 (a3.1 h)
        simp [List.find?_cons, cmpI_self, e3, h1, h2, b3]
    · have e2 : (cmpI x.1.author y.1.author != 0) = true := by simp; exact fun h => h2 (a2.1 h)
      simp [List.find?_cons, cmpI_self, e2, h1, h2, b2]
  · have e1 : (cmpI x.1.time y.1.time != 0) = true := by simp; exact fun h => h1 (a1.1 h)
    simp [List.find?_cons, e1, h1, b1]

/-- The world has grown by draws and blocks. -/
def GrowsTo (w w' : World) : Prop := ∃ q os', w' = grow (w.drewN q) os'

set_option maxHeartbeats 2000000 in
set_option maxRecDepth 100000 in
theorem orderCmp_any (x y : St × Sv × Sv) (w : World) : Calls Try.prog 32 #[.agg (stE x).toArray, .agg (stE y).toArray] w fun e w' => e = .returned (.int .i64 (byTime x y)) ∧ GrowsTo w w' := by
  obtain ⟨s, ⟨lo, ln, lc⟩, ⟨po, pn, pc⟩⟩ := x
  obtain ⟨t, ⟨lo', ln', lc'⟩, ⟨po', pn', pc'⟩⟩ := y
  simp only [stE, Sv.v, byTime]
  go_enter Try.func32, Try.ntmps32
  go_wp2_with fail
  go_region_held3 (fun w' => w'.cell? ⟨w.heap.size, 3, none⟩ = some (.int .i64 s.time) ∧ w'.cell? ⟨w.heap.size + 1, 3, none⟩ = some (.int .i64 t.time) ∧ w'.cell? ⟨w.heap.size, 0, none⟩ = some (.int .i64 s.author) ∧ w'.cell? ⟨w.heap.size + 1, 0, none⟩ = some (.int .i64 t.author) ∧ w'.cell? ⟨w.heap.size, 1, none⟩ = some (.int .i64 s.number) ∧ w'.cell? ⟨w.heap.size + 1, 1, none⟩ = some (.int .i64 t.number)) (go_keep)
    (first
      | (go_at_call 34; refine (compare_any _ _ _).mono ?_; rintro e w' ⟨rfl, rfl⟩)
      | (go_at_call 33; refine (cmpOr_any _ [cmpI s.time t.time, cmpI s.author t.author, cmpI s.number t.number] _ (Ints.keep (Ints.lit [cmpI s.time t.time, cmpI s.author t.author, cmpI s.number t.number] (by simp) rfl) (Ex.refl _ none _).drew (Nat.le_refl _)) (by simp)).mono ?_; rintro e w' ⟨rfl, rfl⟩))
  go_wp2
  go_ret
  refine ⟨rfl, ?_⟩
  exact ⟨1, #[_, _, _], by rw [alloc_eq_grow, alloc_eq_grow, alloc_eq_grow, grow_grow, grow_grow]; rfl⟩

set_option maxHeartbeats 400000 in
theorem latestCmp_any (x y : St × Sv × Sv) (w : World) : Calls Try.prog 37 #[.agg (stE x).toArray, .agg (stE y).toArray] w fun e w' => e = .returned (.int .i64 (cmpI x.1.time y.1.time)) ∧ Ex w.heap.size none w w' := by
  obtain ⟨s, ⟨lo, ln, lc⟩, ⟨po, pn, pc⟩⟩ := x
  obtain ⟨t, ⟨lo', ln', lc'⟩, ⟨po', pn', pc'⟩⟩ := y
  simp only [stE, Sv.v]
  go_enter Try.func37, Try.ntmps37
  go_wp2_with (go_at_call 34; refine (compare_any _ _ _).mono ?_; rintro e w' ⟨rfl, rfl⟩)
  go_ret
  exact ⟨rfl, ex_two _ _⟩
set_option maxHeartbeats 400000 in
theorem allTest_any (x : St × Sv × Sv) (w : World) : Calls Try.prog 30 #[.agg (stE x).toArray] w fun e w' => e = .returned (.bool true) ∧ Ex w.heap.size none w w' := by
  obtain ⟨s, ⟨lo, ln, lc⟩, ⟨po, pn, pc⟩⟩ := x
  simp only [stE, Sv.v]
  go_enter Try.func30, Try.ntmps30
  go_wp2
  go_ret
  exact ⟨rfl, Ex.new _ _⟩
set_option maxHeartbeats 400000 in
theorem untilTest_any (x : St × Sv × Sv) (g : Nat) (t : Int) (w : World) (hc : w.cell? ⟨g, 0, none⟩ = some (.int .i64 t)) : Calls Try.prog 27 #[.agg (stE x).toArray, .pointer (some ⟨g, 0, none⟩)] w fun e w' => e = .returned (.bool (decide (x.1.time ≤ t))) ∧ Ex w.heap.size none w w' := by
  obtain ⟨s, ⟨lo, ln, lc⟩, ⟨po, pn, pc⟩⟩ := x
  simp only [stE, Sv.v]
  have hlt := World.block_lt_of_cell? w _ hc
  simp only at hlt
  go_enter Try.func27, Try.ntmps27
  go_wp2
  go_ret
  exact ⟨rfl, Ex.new _ _⟩
set_option maxHeartbeats 400000 in
theorem windowTest_any (x : St × Sv × Sv) (g g' : Nat) (t u : Int) (w : World) (hc : w.cell? ⟨g, 0, none⟩ = some (.int .i64 t)) (hc' : w.cell? ⟨g', 0, none⟩ = some (.int .i64 u)) : Calls Try.prog 29 #[.agg (stE x).toArray, .pointer (some ⟨g, 0, none⟩), .pointer (some ⟨g', 0, none⟩)] w fun e w' => e = .returned (.bool (decide (t ≤ x.1.time) && decide (x.1.time ≤ u))) ∧ Ex w.heap.size none w w' := by
  obtain ⟨s, ⟨lo, ln, lc⟩, ⟨po, pn, pc⟩⟩ := x
  simp only [stE, Sv.v]
  have hlt := World.block_lt_of_cell? w _ hc
  have hlt' := World.block_lt_of_cell? w _ hc'
  simp only at hlt hlt'
  by_cases h1 : t ≤ s.time
  · have d1 : decide (t ≤ s.time) = true := decide_eq_true h1
    have HK : Hid ((decide (t ≤ s.time) && decide (s.time ≤ u)) = decide (s.time ≤ u)) := by show _ = _; simp [h1]
    go_enter Try.func29, Try.ntmps29
    go_wp2
    go_ret
    exact ⟨by rw [HK.out]; rfl, Ex.new _ _⟩
  · have d1 : decide (t ≤ s.time) = false := decide_eq_false h1
    go_enter Try.func29, Try.ntmps29
    go_wp2
    go_ret
    exact ⟨rfl, Ex.new _ _⟩
end Go.Proofs.Ytdmchekkcmjafaa
