/- ref35.loss at whatever statement, the cases d: no statement of the seat. -/
import Derived.Test.YtaghfcnpnfhacaaGreatLoss35aG
namespace Go.Proofs.YtaghfcnpnfhacaaGreat
open Go.RowKit Go.Sort

set_option maxHeartbeats 16000000 in
set_option maxRecDepth 100000 in
theorem loss35_7 {P : Nat → Prop} (s : St) (lo po : Option Addr) (ln lc pn pc : Nat) (w : World) (hs : Lies P w (s, ⟨lo, ln, lc⟩, ⟨po, pn, pc⟩)) (hm : s.list.length ≤ 9223372036854775807 ∧ s.pins.length ≤ 9223372036854775807) (t1 : s.kind = 13) (t2 : s.c = 0) (t3 : ln = 0) (t4 : pn = 0) (t5 : s.body = ⟨#[]⟩) (t6 : rightB s.a s.b = true) (t7 : ¬ checkI s = 0) :
    Calls Tryz.prog 72 #[.agg #[.int .i64 s.author, .int .i64 s.number, .string s.prev, .int .i64 s.time, .int .i64 s.kind, .int .i64 s.a, .int .i64 s.b, .int .i64 s.c, .slice lo ln lc, .slice po pn pc, .string s.body, .int .i64 s.key, .string s.dig]] w fun e w' => e = .returned (.tuple #[.agg #[.int .i64 s.a, .int .i64 s.b], .bool (lossB s)]) ∧ Ex w.heap.size none w w' := by
  have T1 := Lib.hid t1
  clear t1
  have T2 := Lib.hid t2
  clear t2
  have T3 := Lib.hid t3
  clear t3
  have T4 := Lib.hid t4
  clear t4
  have T5 := Lib.hid t5
  clear t5
  have T6 := Lib.hid t6
  clear t6
  have T7 := Lib.hid t7
  clear t7
  have HLN : Hid (ln = s.list.length) := by obtain ⟨⟨_, _, e, _⟩, _⟩ := hs; simp only [Sv.v] at e; cases e; exact rfl
  have HPN : Hid (pn = s.pins.length) := by obtain ⟨_, ⟨_, _, e, _⟩⟩ := hs; simp only [Sv.v] at e; cases e; exact rfl
  have HLS := Lib.hid hs
  have HHM := Lib.hid hm
  clear hs hm
  go_enter Tryz.func72, Tryz.ntmps72
  go_upto_region 2 with (fail)
  obtain ⟨w1, hw1⟩ : ∃ w1 : World, w1 = ((w.alloc (.cells #[.int .i64 s.author, .int .i64 s.number, .string s.prev, .int .i64 s.time, .int .i64 s.kind, .int .i64 s.a, .int .i64 s.b, .int .i64 s.c, .slice lo ln lc, .slice po pn pc, .string s.body, .int .i64 s.key, .string s.dig] 48)).alloc (.cells #[.int .i64 0, .int .i64 0] 25)).alloc (.cells #[.int .i64 s.a, .int .i64 s.b] 25) := ⟨_, rfl⟩
  have HE1 : Hid (Ex w.heap.size none w w1) := Lib.hid (by rw [hw1]; exact (ex_two0 _ _).alloc (by simp; omega) _)
  have hz1 : w1.heap.size = w.heap.size + 3 := by rw [hw1]; simp
  have HB : Hid (∀ w', Ex w1.heap.size none w1 w' → w'.heap[w.heap.size]? = some (.cells #[.int .i64 s.author, .int .i64 s.number, .string s.prev, .int .i64 s.time, .int .i64 s.kind, .int .i64 s.a, .int .i64 s.b, .int .i64 s.c, .slice lo ln lc, .slice po pn pc, .string s.body, .int .i64 s.key, .string s.dig] 48 (0, 0)) ∧ w'.heap[w.heap.size + 1]? = some (.cells #[.int .i64 0, .int .i64 0] 25 (0, 0))) := Lib.hid (fun w' h => by
    rw [hw1] at h hz1
    exact ⟨(h.block _ (by omega) (by simp)).trans ((at_old' _ _ _ (by simp; omega)).trans (heap_alloc2_old _ _ _)), (h.block _ (by omega) (by simp)).trans ((at_old' _ _ _ (by simp)).trans (heap_alloc2_new _ _ _))⟩)
  have HB3 : Hid (w1.heap[w.heap.size + 2]? = some (.cells #[.int .i64 s.a, .int .i64 s.b] 25 (0, 0))) := Lib.hid (by
    have h := heap_alloc_new ((w.alloc (.cells #[.int .i64 s.author, .int .i64 s.number, .string s.prev, .int .i64 s.time, .int .i64 s.kind, .int .i64 s.a, .int .i64 s.b, .int .i64 s.c, .slice lo ln lc, .slice po pn pc, .string s.body, .int .i64 s.key, .string s.dig] 48)).alloc (.cells #[.int .i64 0, .int .i64 0] 25)) (.cells #[.int .i64 s.a, .int .i64 s.b] 25)
    rw [hw1]
    simpa using h)
  have HQX : Hid (∀ w' : World, w'.heap[w.heap.size]? = w1.heap[w.heap.size]? → w'.heap[w.heap.size + 2]? = w1.heap[w.heap.size + 2]? → w'.cell? ⟨w.heap.size, 0, none⟩ = some (.int .i64 s.author) ∧ w'.cell? ⟨w.heap.size, 1, none⟩ = some (.int .i64 s.number) ∧ w'.cell? ⟨w.heap.size, 2, none⟩ = some (.string s.prev) ∧ w'.cell? ⟨w.heap.size, 3, none⟩ = some (.int .i64 s.time) ∧ w'.cell? ⟨w.heap.size, 4, none⟩ = some (.int .i64 s.kind) ∧ w'.cell? ⟨w.heap.size, 5, none⟩ = some (.int .i64 s.a) ∧ w'.cell? ⟨w.heap.size, 6, none⟩ = some (.int .i64 s.b) ∧ w'.cell? ⟨w.heap.size, 7, none⟩ = some (.int .i64 s.c) ∧ w'.cell? ⟨w.heap.size, 8, none⟩ = some (.slice lo ln lc) ∧ w'.cell? ⟨w.heap.size, 9, none⟩ = some (.slice po pn pc) ∧ w'.cell? ⟨w.heap.size, 10, none⟩ = some (.string s.body) ∧ w'.cell? ⟨w.heap.size, 11, none⟩ = some (.int .i64 s.key) ∧ w'.cell? ⟨w.heap.size, 12, none⟩ = some (.string s.dig) ∧ w'.cell? ⟨w.heap.size + 2, 0, none⟩ = some (.int .i64 s.a) ∧ w'.cell? ⟨w.heap.size + 2, 1, none⟩ = some (.int .i64 s.b)) := Lib.hid (fun w' h1 h2 => by
    have k1 := h1.trans (HB.out _ (Ex.refl _ _ w1)).1
    have k2 := h2.trans HB3.out
    obtain ⟨⟨e0, e1, e2, e3, e4, e5, e6, e7, e8, e9, e10, e11, e12⟩, _⟩ := st_block k1
    exact ⟨e0, e1, e2, e3, e4, e5, e6, e7, e8, e9, e10, e11, e12, by rw [cell_of_row _ _ _ _ _ _ k2]; rfl, by rw [cell_of_row _ _ _ _ _ _ k2]; rfl⟩)
  rw [← hw1]
  clear hw1
  obtain ⟨q, hq⟩ : ∃ q, q = checkI s := ⟨_, rfl⟩
  have HCQ : Hid (checkI s = q) := Lib.hid hq.symm
  clear hq
  have t1 := T1.out
  have k1 : (s.kind == 13) = true := by simp [t1]
  have HT1 := Lib.hid t1
  clear t1
  have t2 := T2.out
  have k2 : (s.c == 0) = true := by simp [t2]
  have HT2 := Lib.hid t2
  clear t2
  have t3 := T3.out
  have k3 : ((ln : Int) == 0) = true := by simp [t3]
  have HT3 := Lib.hid t3
  clear t3
  have t4 := T4.out
  have k4 : ((pn : Int) == 0) = true := by simp [t4]
  have HT4 := Lib.hid t4
  clear t4
  have t5 := T5.out
  obtain ⟨k5a, k5b, k5c⟩ := empty_facts t5
  have HT5 := Lib.hid t5
  clear t5
  have t6 := T6.out
  have t7 := T7.out
  rw [HCQ.out] at t7
  have k7 : (q == 0) = false := by simpa using t7
  have HT7 := Lib.hid t7
  clear t7
  have HLB : Hid (lossB s = false) := Lib.hid (by simp only [lossB]; rw [show decide (checkI s = 0) = false from decide_eq_false (by rw [HCQ.out]; exact HT7.out)]; simp)
  have HBX := Lib.hid ((HB.out _ (Ex.refl _ _ w1)).2); have z0 : w1.cell? ⟨w.heap.size + 1, 0, none⟩ = some (.int .i64 0) := (by rw [cell_of_row _ _ _ _ _ _ HBX.out]; rfl); have z1 : w1.cell? ⟨w.heap.size + 1, 1, none⟩ = some (.int .i64 0) := (by rw [cell_of_row _ _ _ _ _ _ HBX.out]; rfl); have f0 := row_frozen_g (i := 0) HBX.out; have f1 := row_frozen_g (i := 1) HBX.out
  have hS := HQX.out w1 rfl rfl
  refine wp_region_held_drew (S := fun w' => w'.cell? ⟨w.heap.size, 0, none⟩ = some (.int .i64 s.author) ∧ w'.cell? ⟨w.heap.size, 1, none⟩ = some (.int .i64 s.number) ∧ w'.cell? ⟨w.heap.size, 2, none⟩ = some (.string s.prev) ∧ w'.cell? ⟨w.heap.size, 3, none⟩ = some (.int .i64 s.time) ∧ w'.cell? ⟨w.heap.size, 4, none⟩ = some (.int .i64 s.kind) ∧ w'.cell? ⟨w.heap.size, 5, none⟩ = some (.int .i64 s.a) ∧ w'.cell? ⟨w.heap.size, 6, none⟩ = some (.int .i64 s.b) ∧ w'.cell? ⟨w.heap.size, 7, none⟩ = some (.int .i64 s.c) ∧ w'.cell? ⟨w.heap.size, 8, none⟩ = some (.slice lo ln lc) ∧ w'.cell? ⟨w.heap.size, 9, none⟩ = some (.slice po pn pc) ∧ w'.cell? ⟨w.heap.size, 10, none⟩ = some (.string s.body) ∧ w'.cell? ⟨w.heap.size, 11, none⟩ = some (.int .i64 s.key) ∧ w'.cell? ⟨w.heap.size, 12, none⟩ = some (.string s.dig) ∧ w'.cell? ⟨w.heap.size + 2, 0, none⟩ = some (.int .i64 s.a) ∧ w'.cell? ⟨w.heap.size + 2, 1, none⟩ = some (.int .i64 s.b)) (by kernel_rfl) ?_ (fun hHeld => ?_)
  · exact HQX.out _ rfl rfl
  refine takeAt (i := 0) (d := some 10) (v := ?_) rfl rfl (by kernel_rfl) (by kernel_rfl) (by kernel_rfl) (fun _ _ _ h => h) (Or.inl ⟨by rfl, ?_⟩) (by assumption) ?_
  rotate_left
  · intro w' hSw; (try dsimp only at hSw); (go_simp <;> with_reducible rfl)
  (try simp only [Act.put, List.setIfInBounds_toArray, List.set_cons_zero, List.set_cons_succ])
  refine takeAt (i := 1) (d := some 11) (v := ?_) rfl rfl (by kernel_rfl) (by kernel_rfl) (by kernel_rfl) (fun _ _ _ h => h) (Or.inl ⟨by rfl, ?_⟩) (by assumption) ?_
  rotate_left
  · intro w' hSw; (try dsimp only at hSw); (go_simp <;> with_reducible rfl)
  (try simp only [Act.put, List.setIfInBounds_toArray, List.set_cons_zero, List.set_cons_succ])
  refine takeAt (i := 2) (d := some 12) (v := ?_) rfl rfl (by kernel_rfl) (by kernel_rfl) (by kernel_rfl) (fun _ _ _ h => h) (Or.inl ⟨by rfl, ?_⟩) (by assumption) ?_
  rotate_left
  · intro w' hSw; (try dsimp only at hSw); (go_simp <;> with_reducible rfl)
  (try simp only [Act.put, List.setIfInBounds_toArray, List.set_cons_zero, List.set_cons_succ])
  refine takeAt (i := 3) (d := some 13) (v := ?_) rfl rfl (by kernel_rfl) (by kernel_rfl) (by kernel_rfl) (fun _ _ _ h => h) (Or.inl ⟨by rfl, ?_⟩) (by assumption) ?_
  rotate_left
  · intro w' hSw; (try dsimp only at hSw); (go_simp <;> with_reducible rfl)
  (try simp only [Act.put, List.setIfInBounds_toArray, List.set_cons_zero, List.set_cons_succ])
  refine takeAt (i := 4) (d := some 14) (v := ?_) rfl rfl (by kernel_rfl) (by kernel_rfl) (by kernel_rfl) (fun _ _ _ h => h) (Or.inl ⟨by rfl, ?_⟩) (by assumption) ?_
  rotate_left
  · intro w' hSw; (try dsimp only at hSw); (go_simp <;> with_reducible rfl)
  (try simp only [Act.put, List.setIfInBounds_toArray, List.set_cons_zero, List.set_cons_succ])
  refine takeAt (i := 5) (d := some 15) (v := ?_) rfl rfl (by kernel_rfl) (by kernel_rfl) (by kernel_rfl) (fun _ _ _ h => h) (Or.inl ⟨by rfl, ?_⟩) (by assumption) ?_
  rotate_left
  · intro w' hSw; (try dsimp only at hSw); (go_simp <;> with_reducible rfl)
  (try simp only [Act.put, List.setIfInBounds_toArray, List.set_cons_zero, List.set_cons_succ])
  refine takeAt (i := 6) (d := some 16) (v := ?_) rfl rfl (by kernel_rfl) (by kernel_rfl) (by kernel_rfl) (fun _ _ _ h => h) (Or.inl ⟨by rfl, ?_⟩) (by assumption) ?_
  rotate_left
  · intro w' hSw; (try dsimp only at hSw); (go_simp <;> with_reducible rfl)
  (try simp only [Act.put, List.setIfInBounds_toArray, List.set_cons_zero, List.set_cons_succ])
  refine takeAt (i := 7) (d := some 17) (v := ?_) rfl rfl (by kernel_rfl) (by kernel_rfl) (by kernel_rfl) (fun _ _ _ h => h) (Or.inl ⟨by rfl, ?_⟩) (by assumption) ?_
  rotate_left
  · intro w' hSw; (try dsimp only at hSw); (go_simp <;> with_reducible rfl)
  (try simp only [Act.put, List.setIfInBounds_toArray, List.set_cons_zero, List.set_cons_succ])
  refine takeAt (i := 8) (d := some 18) (v := ?_) rfl rfl (by kernel_rfl) (by kernel_rfl) (by kernel_rfl) (fun _ _ _ h => h) (Or.inl ⟨by rfl, ?_⟩) (by assumption) ?_
  rotate_left
  · intro w' hSw; (try dsimp only at hSw); (go_simp <;> with_reducible rfl)
  (try simp only [Act.put, List.setIfInBounds_toArray, List.set_cons_zero, List.set_cons_succ])
  refine takeAt (i := 9) (d := some 19) (v := ?_) rfl rfl (by kernel_rfl) (by kernel_rfl) (by kernel_rfl) (fun _ _ _ h => h) (Or.inl ⟨by rfl, ?_⟩) (by assumption) ?_
  rotate_left
  · intro w' hSw; (try dsimp only at hSw); (go_simp <;> with_reducible rfl)
  (try simp only [Act.put, List.setIfInBounds_toArray, List.set_cons_zero, List.set_cons_succ])
  refine takeAt (i := 10) (d := some 20) (v := ?_) rfl rfl (by kernel_rfl) (by kernel_rfl) (by kernel_rfl) (fun _ _ _ h => h) (Or.inl ⟨by rfl, ?_⟩) (by assumption) ?_
  rotate_left
  · intro w' hSw; (try dsimp only at hSw); (go_simp <;> with_reducible rfl)
  (try simp only [Act.put, List.setIfInBounds_toArray, List.set_cons_zero, List.set_cons_succ])
  refine takeAt (i := 11) (d := some 21) (v := ?_) rfl rfl (by kernel_rfl) (by kernel_rfl) (by kernel_rfl) (fun _ _ _ h => h) (Or.inl ⟨by rfl, ?_⟩) (by assumption) ?_
  rotate_left
  · intro w' hSw; (try dsimp only at hSw); (go_simp <;> with_reducible rfl)
  (try simp only [Act.put, List.setIfInBounds_toArray, List.set_cons_zero, List.set_cons_succ])
  refine takeAt (i := 12) (d := some 22) (v := ?_) rfl rfl (by kernel_rfl) (by kernel_rfl) (by kernel_rfl) (fun _ _ _ h => h) (Or.inl ⟨by rfl, ?_⟩) (by assumption) ?_
  rotate_left
  · intro w' hSw; (try dsimp only at hSw); (go_simp <;> with_reducible rfl)
  (try simp only [Act.put, List.setIfInBounds_toArray, List.set_cons_zero, List.set_cons_succ])
  refine takeAt (i := 13) (d := some 23) (v := ?_) rfl rfl (by kernel_rfl) (by kernel_rfl) (by kernel_rfl) (fun _ _ _ h => h) (Or.inl ⟨by rfl, ?_⟩) (by assumption) ?_
  rotate_left
  · intro w' hSw; (try dsimp only at hSw); (go_simp <;> with_reducible rfl)
  (try simp only [Act.put, List.setIfInBounds_toArray, List.set_cons_zero, List.set_cons_succ])
  refine takeAt (i := 14) (d := some 24) (v := ?_) rfl rfl (by kernel_rfl) (by kernel_rfl) (by kernel_rfl) (fun _ _ _ h => h) (Or.inl ⟨by rfl, ?_⟩) (by assumption) ?_
  rotate_left
  · intro w' hSw; (try dsimp only at hSw); (go_simp <;> with_reducible rfl)
  (try simp only [Act.put, List.setIfInBounds_toArray, List.set_cons_zero, List.set_cons_succ])
  refine takeAt (i := 15) (d := some 25) (v := ?_) rfl rfl (by kernel_rfl) (by kernel_rfl) (by kernel_rfl) (fun _ _ _ h => h) (Or.inl ⟨by rfl, ?_⟩) (by assumption) ?_
  rotate_left
  · intro w' hSw; (try dsimp only at hSw); (go_simp <;> with_reducible rfl)
  (try simp only [Act.put, List.setIfInBounds_toArray, List.set_cons_zero, List.set_cons_succ])
  refine takeAt (i := 16) (d := some 26) (v := ?_) rfl rfl (by kernel_rfl) (by kernel_rfl) (by kernel_rfl) (fun _ _ _ h => h) (Or.inl ⟨by rfl, ?_⟩) (by assumption) ?_
  rotate_left
  · intro w' hSw; (try dsimp only at hSw); (go_simp <;> with_reducible rfl)
  (try simp only [Act.put, List.setIfInBounds_toArray, List.set_cons_zero, List.set_cons_succ])
  refine takeAt (i := 17) (d := some 27) (v := ?_) rfl rfl (by kernel_rfl) (by kernel_rfl) (by kernel_rfl) (fun _ _ _ h => h) (Or.inl ⟨by rfl, ?_⟩) (by assumption) ?_
  rotate_left
  · intro w' hSw; (try dsimp only at hSw); (go_simp <;> with_reducible rfl)
  (try simp only [Act.put, List.setIfInBounds_toArray, List.set_cons_zero, List.set_cons_succ])
  refine takeAt (i := 18) (d := some 28) (v := ?_) rfl rfl (by kernel_rfl) (by kernel_rfl) (by kernel_rfl) (fun _ _ _ h => h) (Or.inl ⟨by rfl, ?_⟩) (by assumption) ?_
  rotate_left
  · intro w' hSw; (try dsimp only at hSw); (go_simp <;> with_reducible rfl)
  (try simp only [Act.put, List.setIfInBounds_toArray, List.set_cons_zero, List.set_cons_succ])
  refine takeAt (i := 19) (d := some 29) (v := ?_) rfl rfl (by kernel_rfl) (by kernel_rfl) (by kernel_rfl) (fun _ _ _ h => h) (Or.inl ⟨by rfl, ?_⟩) (by assumption) ?_
  rotate_left
  · intro w' hSw; (try dsimp only at hSw); (go_simp <;> with_reducible rfl)
  (try simp only [Act.put, List.setIfInBounds_toArray, List.set_cons_zero, List.set_cons_succ])
  refine takeAt (i := 20) (d := some 30) (v := ?_) rfl rfl (by kernel_rfl) (by kernel_rfl) (by kernel_rfl) (fun _ _ _ h => h) (Or.inl ⟨by rfl, ?_⟩) (by assumption) ?_
  rotate_left
  · intro w' hSw; (try dsimp only at hSw); (go_simp <;> with_reducible rfl)
  (try simp only [Act.put, List.setIfInBounds_toArray, List.set_cons_zero, List.set_cons_succ])
  refine takeAt (i := 21) (d := some 31) (v := ?_) rfl rfl (by kernel_rfl) (by kernel_rfl) (by kernel_rfl) (fun _ _ _ h => h) (Or.inl ⟨by rfl, ?_⟩) (by assumption) ?_
  rotate_left
  · intro w' hSw; (try dsimp only at hSw); (go_simp <;> with_reducible rfl)
  (try simp only [Act.put, List.setIfInBounds_toArray, List.set_cons_zero, List.set_cons_succ])
  refine takeAt (i := 22) (d := some 32) (v := ?_) rfl rfl (by kernel_rfl) (by kernel_rfl) (by kernel_rfl) (fun _ _ _ h => h) (Or.inl ⟨by rfl, ?_⟩) (by assumption) ?_
  rotate_left
  · intro w' hSw; (try dsimp only at hSw); (go_simp <;> with_reducible rfl)
  (try simp only [Act.put, List.setIfInBounds_toArray, List.set_cons_zero, List.set_cons_succ])
  refine takeAt (i := 23) (d := some 33) (v := ?_) rfl rfl (by kernel_rfl) (by kernel_rfl) (by kernel_rfl) (fun _ _ _ h => h) (Or.inl ⟨by rfl, ?_⟩) (by assumption) ?_
  rotate_left
  · intro w' hSw; (try dsimp only at hSw); (go_simp <;> with_reducible rfl)
  (try simp only [Act.put, List.setIfInBounds_toArray, List.set_cons_zero, List.set_cons_succ])
  refine takeAt (i := 24) (d := some 34) (v := ?_) rfl rfl (by kernel_rfl) (by kernel_rfl) (by kernel_rfl) (fun _ _ _ h => h) (Or.inl ⟨by rfl, ?_⟩) (by assumption) ?_
  rotate_left
  · intro w' hSw; (try dsimp only at hSw); (go_simp <;> with_reducible rfl)
  (try simp only [Act.put, List.setIfInBounds_toArray, List.set_cons_zero, List.set_cons_succ])
  refine takeAt (i := 25) (d := some 35) (v := ?_) rfl rfl (by kernel_rfl) (by kernel_rfl) (by kernel_rfl) (fun _ _ _ h => h) (Or.inl ⟨by rfl, ?_⟩) (by assumption) ?_
  rotate_left
  · intro w' hSw; (try dsimp only at hSw); (go_simp <;> with_reducible rfl)
  (try simp only [Act.put, List.setIfInBounds_toArray, List.set_cons_zero, List.set_cons_succ])
  refine takeAt (i := 26) (d := some 36) (v := ?_) rfl rfl (by kernel_rfl) (by kernel_rfl) (by kernel_rfl) (fun _ _ _ h => h) (Or.inl ⟨by rfl, ?_⟩) (by assumption) ?_
  rotate_left
  · intro w' hSw; (try dsimp only at hSw); (go_simp <;> with_reducible rfl)
  (try simp only [Act.put, List.setIfInBounds_toArray, List.set_cons_zero, List.set_cons_succ])
  refine takeAt (i := 27) (d := some 37) (v := ?_) rfl rfl (by kernel_rfl) (by kernel_rfl) (by kernel_rfl) (fun _ _ _ h => h) (Or.inl ⟨by rfl, ?_⟩) (by assumption) ?_
  rotate_left
  · intro w' hSw; (try dsimp only at hSw); (go_simp <;> with_reducible rfl)
  (try simp only [Act.put, List.setIfInBounds_toArray, List.set_cons_zero, List.set_cons_succ])
  refine wpAnyH_ready (rs := [28]) (by kernel_rfl) (by simp) ?_
  refine AllReadyH.cons (o := _) rfl (fun K hK => ?_) AllReadyH.nil
  go_simp
  go_at_call 68
  refine (asB (right35_any s.a s.b _) t6).mono ?_
  rintro e wa ⟨rfl, hex⟩
  have HX1 : Hid (Ex w1.heap.size none w1 wa) := Lib.hid ((by repeat (first | with_reducible exact Ex.refl _ _ _ | with_reducible refine Ex.drew ?_) : Ex w1.heap.size none w1 _).trans hex (by first | exact Nat.le_refl _ | omega | (simp; omega)) (by simp))
  have HR1 : Hid (Ex (w.heap.size + 1) none w1 wa) := Lib.hid (HX1.out.mono (by omega))
  have hz1 : w1.heap.size ≤ wa.heap.size := HX1.out.size
  clear z0 z1 f0 f1 hex
  have HBX := Lib.hid ((HB.out _ HX1.out).2); have z0 : wa.cell? ⟨w.heap.size + 1, 0, none⟩ = some (.int .i64 0) := (by rw [cell_of_row _ _ _ _ _ _ HBX.out]; rfl); have z1 : wa.cell? ⟨w.heap.size + 1, 1, none⟩ = some (.int .i64 0) := (by rw [cell_of_row _ _ _ _ _ _ HBX.out]; rfl); have f0 := row_frozen_g (i := 0) HBX.out; have f1 := row_frozen_g (i := 1) HBX.out
  refine hK.out _ _ (HQX.out _ (by first | with_reducible rfl | with_reducible exact HX1.out.block _ (by omega) (by simp) | exact set_far (by omega) (set_far (by omega) (HX1.out.block _ (by omega) (by simp))) | exact set_far (by omega) (HX1.out.block _ (by omega) (by simp)) | exact HX1.out.block _ (by omega) (by simp) | rfl) (by first | with_reducible rfl | with_reducible exact HX1.out.block _ (by omega) (by simp) | exact set_far (by omega) (set_far (by omega) (HX1.out.block _ (by omega) (by simp))) | exact set_far (by omega) (HX1.out.block _ (by omega) (by simp)) | exact HX1.out.block _ (by omega) (by simp) | rfl)) (fun hHeld => ?_)
  clear hK K
  (try simp only [Act.put, List.setIfInBounds_toArray, List.set_cons_zero, List.set_cons_succ])
  refine takeAt (i := 29) (d := some 39) (v := ?_) rfl rfl (by kernel_rfl) (by kernel_rfl) (by kernel_rfl) (fun _ _ _ h => h) (Or.inl ⟨by rfl, ?_⟩) (by assumption) ?_
  rotate_left
  · intro w' hSw; (try dsimp only at hSw); (go_simp <;> with_reducible rfl)
  (try simp only [Act.put, List.setIfInBounds_toArray, List.set_cons_zero, List.set_cons_succ])
  refine takeAt (i := 30) (d := some 40) (v := ?_) rfl rfl (by kernel_rfl) (by kernel_rfl) (by kernel_rfl) (fun _ _ _ h => h) (Or.inl ⟨by rfl, ?_⟩) (by assumption) ?_
  rotate_left
  · intro w' hSw; (try dsimp only at hSw); (go_simp <;> with_reducible rfl)
  (try simp only [Act.put, List.setIfInBounds_toArray, List.set_cons_zero, List.set_cons_succ])
  refine takeAt (i := 31) (d := some 41) (v := ?_) rfl rfl (by kernel_rfl) (by kernel_rfl) (by kernel_rfl) (fun _ _ _ h => h) (Or.inl ⟨by rfl, ?_⟩) (by assumption) ?_
  rotate_left
  · intro w' hSw; (try dsimp only at hSw); (go_simp <;> with_reducible rfl)
  (try simp only [Act.put, List.setIfInBounds_toArray, List.set_cons_zero, List.set_cons_succ])
  refine wpAnyH_ready (rs := [32]) (by kernel_rfl) (by simp) ?_
  refine AllReadyH.cons (o := _) rfl (fun K hK => ?_) AllReadyH.nil
  go_simp
  go_at_call 150
  refine (check03_any s lo po ln lc pn pc _ (HLS.out.keep fun b _ hb => (Ex.block HX1.out b (by omega) (by simp)).trans (HE1.out.block b hb (by simp))) HHM.out).mono ?_
  rw [HCQ.out]
  rintro e wb ⟨rfl, hex⟩
  have HX2 : Hid (Ex w1.heap.size none w1 wb) := Lib.hid ((by repeat (first | with_reducible exact HX1.out | with_reducible refine Ex.drew ?_) : Ex w1.heap.size none w1 _).trans hex (by first | exact Nat.le_refl _ | omega | (simp; omega)) (by simp))
  have HR2 : Hid (Ex (w.heap.size + 1) none w1 wb) := Lib.hid (HX2.out.mono (by omega))
  have hz2 : w1.heap.size ≤ wb.heap.size := HX2.out.size
  clear z0 z1 f0 f1 hex
  have HBX := Lib.hid ((HB.out _ HX2.out).2); have z0 : wb.cell? ⟨w.heap.size + 1, 0, none⟩ = some (.int .i64 0) := (by rw [cell_of_row _ _ _ _ _ _ HBX.out]; rfl); have z1 : wb.cell? ⟨w.heap.size + 1, 1, none⟩ = some (.int .i64 0) := (by rw [cell_of_row _ _ _ _ _ _ HBX.out]; rfl); have f0 := row_frozen_g (i := 0) HBX.out; have f1 := row_frozen_g (i := 1) HBX.out
  refine hK.out _ _ (HQX.out _ (by first | with_reducible rfl | with_reducible exact HX1.out.block _ (by omega) (by simp) | with_reducible exact HX2.out.block _ (by omega) (by simp) | exact set_far (by omega) (set_far (by omega) (HX2.out.block _ (by omega) (by simp))) | exact set_far (by omega) (HX2.out.block _ (by omega) (by simp)) | exact HX1.out.block _ (by omega) (by simp) | exact HX2.out.block _ (by omega) (by simp) | rfl) (by first | with_reducible rfl | with_reducible exact HX1.out.block _ (by omega) (by simp) | with_reducible exact HX2.out.block _ (by omega) (by simp) | exact set_far (by omega) (set_far (by omega) (HX2.out.block _ (by omega) (by simp))) | exact set_far (by omega) (HX2.out.block _ (by omega) (by simp)) | exact HX1.out.block _ (by omega) (by simp) | exact HX2.out.block _ (by omega) (by simp) | rfl)) (fun hHeld => ?_)
  clear hK K
  (try simp only [Act.put, List.setIfInBounds_toArray, List.set_cons_zero, List.set_cons_succ])
  refine takeAt (i := 33) (d := some 43) (v := ?_) rfl rfl (by kernel_rfl) (by kernel_rfl) (by kernel_rfl) (fun _ _ _ h => h) (Or.inl ⟨by rfl, ?_⟩) (by assumption) ?_
  rotate_left
  · intro w' hSw; (try dsimp only at hSw); (go_simp <;> with_reducible rfl)
  (try simp only [Act.put, List.setIfInBounds_toArray, List.set_cons_zero, List.set_cons_succ])
  refine takeAt (i := 34) (d := some 44) (v := ?_) rfl rfl (by kernel_rfl) (by kernel_rfl) (by kernel_rfl) (fun _ _ _ h => h) (Or.inl ⟨by rfl, ?_⟩) (by assumption) ?_
  rotate_left
  · intro w' hSw; (try dsimp only at hSw); (go_simp <;> with_reducible rfl)
  (try simp only [Act.put, List.setIfInBounds_toArray, List.set_cons_zero, List.set_cons_succ])
  refine takeAt (i := 35) (d := some 45) (v := ?_) rfl rfl (by kernel_rfl) (by kernel_rfl) (by kernel_rfl) (fun _ _ _ h => h) (Or.inl ⟨by rfl, ?_⟩) (by assumption) ?_
  rotate_left
  · intro w' hSw; (try dsimp only at hSw); (go_simp <;> with_reducible rfl)
  (try simp only [Act.put, List.setIfInBounds_toArray, List.set_cons_zero, List.set_cons_succ])
  refine takeAt (i := 36) (d := some 46) (v := undef) rfl rfl (by kernel_rfl) (by kernel_rfl) (by kernel_rfl) (fun _ _ _ h => h) (Or.inr ⟨by rfl, rfl⟩) (by assumption) ?_
  (try simp only [Act.put, List.setIfInBounds_toArray, List.set_cons_zero, List.set_cons_succ])
  refine takeAt (i := 37) (d := some 47) (v := undef) rfl rfl (by kernel_rfl) (by kernel_rfl) (by kernel_rfl) (fun _ _ _ h => h) (Or.inr ⟨by rfl, rfl⟩) (by assumption) ?_
  (try simp only [Act.put, List.setIfInBounds_toArray, List.set_cons_zero, List.set_cons_succ])
  refine takeAt (i := 38) (d := some 48) (v := ?_) rfl rfl (by kernel_rfl) (by kernel_rfl) (by kernel_rfl) (fun _ _ _ h => h) (Or.inl ⟨by rfl, ?_⟩) (by assumption) ?_
  rotate_left
  · intro w' hSw; (try dsimp only at hSw); (go_simp <;> with_reducible rfl)
  (try simp only [Act.put, List.setIfInBounds_toArray, List.set_cons_zero, List.set_cons_succ])
  refine wpAnyH_ready (rs := [39]) (by kernel_rfl) (by simp) ?_
  refine AllReadyH.cons (o := _) rfl (fun K hK => ?_) AllReadyH.nil
  go_simp
  refine hK.out _ _ (HQX.out _ (by first | with_reducible rfl | with_reducible exact HX1.out.block _ (by omega) (by simp) | with_reducible exact HX2.out.block _ (by omega) (by simp) | exact set_far (by omega) (set_far (by omega) (HX2.out.block _ (by omega) (by simp))) | exact set_far (by omega) (HX2.out.block _ (by omega) (by simp)) | exact HX1.out.block _ (by omega) (by simp) | exact HX2.out.block _ (by omega) (by simp) | rfl) (by first | with_reducible rfl | with_reducible exact HX1.out.block _ (by omega) (by simp) | with_reducible exact HX2.out.block _ (by omega) (by simp) | exact set_far (by omega) (set_far (by omega) (HX2.out.block _ (by omega) (by simp))) | exact set_far (by omega) (HX2.out.block _ (by omega) (by simp)) | exact HX1.out.block _ (by omega) (by simp) | exact HX2.out.block _ (by omega) (by simp) | rfl)) (fun hHeld => ?_)
  clear hK K
  (try simp only [Act.put, List.setIfInBounds_toArray, List.set_cons_zero, List.set_cons_succ])
  refine takeAt (i := 40) (d := some 3) (v := ?_) rfl rfl (by kernel_rfl) (by kernel_rfl) (by kernel_rfl) (fun _ _ _ h => h) (Or.inl ⟨by rfl, ?_⟩) (by assumption) ?_
  rotate_left
  · intro w' hSw; (try dsimp only at hSw); (go_simp <;> with_reducible rfl)
  (try simp only [Act.put, List.setIfInBounds_toArray, List.set_cons_zero, List.set_cons_succ])
  refine wpAnyH_done (by kernel_rfl) ?_ _
  obtain ⟨w9, hw9⟩ : ∃ w9 : World, w9 = ((wb.setCell ⟨w.heap.size + 1, 0, none⟩ (.int .i64 s.a)).setCell ⟨w.heap.size + 1, 1, none⟩ (.int .i64 s.b)) := ⟨_, rfl⟩
  have hrb : w9.heap[w.heap.size + 1]? = some (.cells #[.int .i64 s.a, .int .i64 s.b] 25 (0, 0)) := by
    rw [hw9]
    show ((_ : World).setCell _ _).heap[_]? = _
    rw [heap_setCell_same _ _ _ _ _ _ (heap_setCell_same _ _ _ _ _ _ HBX.out)]; rfl
  have HE9 : Hid (Ex w.heap.size none w w9) := Lib.hid (by
    rw [hw9]
    exact (Ex.setCell (Ex.setCell (HE1.out.trans (HX2.out) (by omega) (by simp)) _ none _ (.inr (by omega))) _ none _ (.inr (by omega))))
  rw [← hw9]
  clear hw9
  go_wp2_with (fail)
  have hr := run_loadVar_row (P := Tryz.prog) _ (w.heap.size + 1) 25 25 (#[.int .i64 s.a, .int .i64 s.b] : Array Value) (0, 0) _ hrb Tryz.underlying25 rfl Tryz.sizeHeir2
  refine bodyPost_ret (v := .tuple #[.agg #[.int .i64 s.a, .int .i64 s.b], .bool false]) ?_ rfl ?_
  · rw [results_cell_tmp Tryz.results72]
    show ((loadVar 25 ⟨w.heap.size + 1, 0, none⟩).run Tryz.prog _).andThen _ = _
    rw [hr]
    rfl
  exact ⟨by rw [HLB.out], HE9.out⟩
set_option maxHeartbeats 16000000 in
set_option maxRecDepth 100000 in
theorem loss35_8 {P : Nat → Prop} (s : St) (lo po : Option Addr) (ln lc pn pc : Nat) (w : World) (hs : Lies P w (s, ⟨lo, ln, lc⟩, ⟨po, pn, pc⟩)) (hm : s.list.length ≤ 9223372036854775807 ∧ s.pins.length ≤ 9223372036854775807) (t1 : s.kind = 13) (t2 : s.c = 0) (t3 : ln = 0) (t4 : pn = 0) (t5 : s.body = ⟨#[]⟩) (t6 : rightB s.a s.b = true) (t7 : checkI s = 0) (t8 : sealedB s = false) :
    Calls Tryz.prog 72 #[.agg #[.int .i64 s.author, .int .i64 s.number, .string s.prev, .int .i64 s.time, .int .i64 s.kind, .int .i64 s.a, .int .i64 s.b, .int .i64 s.c, .slice lo ln lc, .slice po pn pc, .string s.body, .int .i64 s.key, .string s.dig]] w fun e w' => e = .returned (.tuple #[.agg #[.int .i64 s.a, .int .i64 s.b], .bool (lossB s)]) ∧ Ex w.heap.size none w w' := by
  have T1 := Lib.hid t1
  clear t1
  have T2 := Lib.hid t2
  clear t2
  have T3 := Lib.hid t3
  clear t3
  have T4 := Lib.hid t4
  clear t4
  have T5 := Lib.hid t5
  clear t5
  have T6 := Lib.hid t6
  clear t6
  have T7 := Lib.hid t7
  clear t7
  have T8 := Lib.hid t8
  clear t8
  have HLN : Hid (ln = s.list.length) := by obtain ⟨⟨_, _, e, _⟩, _⟩ := hs; simp only [Sv.v] at e; cases e; exact rfl
  have HPN : Hid (pn = s.pins.length) := by obtain ⟨_, ⟨_, _, e, _⟩⟩ := hs; simp only [Sv.v] at e; cases e; exact rfl
  have HLS := Lib.hid hs
  have HHM := Lib.hid hm
  clear hs hm
  go_enter Tryz.func72, Tryz.ntmps72
  go_upto_region 2 with (fail)
  obtain ⟨w1, hw1⟩ : ∃ w1 : World, w1 = ((w.alloc (.cells #[.int .i64 s.author, .int .i64 s.number, .string s.prev, .int .i64 s.time, .int .i64 s.kind, .int .i64 s.a, .int .i64 s.b, .int .i64 s.c, .slice lo ln lc, .slice po pn pc, .string s.body, .int .i64 s.key, .string s.dig] 48)).alloc (.cells #[.int .i64 0, .int .i64 0] 25)).alloc (.cells #[.int .i64 s.a, .int .i64 s.b] 25) := ⟨_, rfl⟩
  have HE1 : Hid (Ex w.heap.size none w w1) := Lib.hid (by rw [hw1]; exact (ex_two0 _ _).alloc (by simp; omega) _)
  have hz1 : w1.heap.size = w.heap.size + 3 := by rw [hw1]; simp
  have HB : Hid (∀ w', Ex w1.heap.size none w1 w' → w'.heap[w.heap.size]? = some (.cells #[.int .i64 s.author, .int .i64 s.number, .string s.prev, .int .i64 s.time, .int .i64 s.kind, .int .i64 s.a, .int .i64 s.b, .int .i64 s.c, .slice lo ln lc, .slice po pn pc, .string s.body, .int .i64 s.key, .string s.dig] 48 (0, 0)) ∧ w'.heap[w.heap.size + 1]? = some (.cells #[.int .i64 0, .int .i64 0] 25 (0, 0))) := Lib.hid (fun w' h => by
    rw [hw1] at h hz1
    exact ⟨(h.block _ (by omega) (by simp)).trans ((at_old' _ _ _ (by simp; omega)).trans (heap_alloc2_old _ _ _)), (h.block _ (by omega) (by simp)).trans ((at_old' _ _ _ (by simp)).trans (heap_alloc2_new _ _ _))⟩)
  have HB3 : Hid (w1.heap[w.heap.size + 2]? = some (.cells #[.int .i64 s.a, .int .i64 s.b] 25 (0, 0))) := Lib.hid (by
    have h := heap_alloc_new ((w.alloc (.cells #[.int .i64 s.author, .int .i64 s.number, .string s.prev, .int .i64 s.time, .int .i64 s.kind, .int .i64 s.a, .int .i64 s.b, .int .i64 s.c, .slice lo ln lc, .slice po pn pc, .string s.body, .int .i64 s.key, .string s.dig] 48)).alloc (.cells #[.int .i64 0, .int .i64 0] 25)) (.cells #[.int .i64 s.a, .int .i64 s.b] 25)
    rw [hw1]
    simpa using h)
  have HQX : Hid (∀ w' : World, w'.heap[w.heap.size]? = w1.heap[w.heap.size]? → w'.heap[w.heap.size + 2]? = w1.heap[w.heap.size + 2]? → w'.cell? ⟨w.heap.size, 0, none⟩ = some (.int .i64 s.author) ∧ w'.cell? ⟨w.heap.size, 1, none⟩ = some (.int .i64 s.number) ∧ w'.cell? ⟨w.heap.size, 2, none⟩ = some (.string s.prev) ∧ w'.cell? ⟨w.heap.size, 3, none⟩ = some (.int .i64 s.time) ∧ w'.cell? ⟨w.heap.size, 4, none⟩ = some (.int .i64 s.kind) ∧ w'.cell? ⟨w.heap.size, 5, none⟩ = some (.int .i64 s.a) ∧ w'.cell? ⟨w.heap.size, 6, none⟩ = some (.int .i64 s.b) ∧ w'.cell? ⟨w.heap.size, 7, none⟩ = some (.int .i64 s.c) ∧ w'.cell? ⟨w.heap.size, 8, none⟩ = some (.slice lo ln lc) ∧ w'.cell? ⟨w.heap.size, 9, none⟩ = some (.slice po pn pc) ∧ w'.cell? ⟨w.heap.size, 10, none⟩ = some (.string s.body) ∧ w'.cell? ⟨w.heap.size, 11, none⟩ = some (.int .i64 s.key) ∧ w'.cell? ⟨w.heap.size, 12, none⟩ = some (.string s.dig) ∧ w'.cell? ⟨w.heap.size + 2, 0, none⟩ = some (.int .i64 s.a) ∧ w'.cell? ⟨w.heap.size + 2, 1, none⟩ = some (.int .i64 s.b)) := Lib.hid (fun w' h1 h2 => by
    have k1 := h1.trans (HB.out _ (Ex.refl _ _ w1)).1
    have k2 := h2.trans HB3.out
    obtain ⟨⟨e0, e1, e2, e3, e4, e5, e6, e7, e8, e9, e10, e11, e12⟩, _⟩ := st_block k1
    exact ⟨e0, e1, e2, e3, e4, e5, e6, e7, e8, e9, e10, e11, e12, by rw [cell_of_row _ _ _ _ _ _ k2]; rfl, by rw [cell_of_row _ _ _ _ _ _ k2]; rfl⟩)
  rw [← hw1]
  clear hw1
  obtain ⟨q, hq⟩ : ∃ q, q = checkI s := ⟨_, rfl⟩
  have HCQ : Hid (checkI s = q) := Lib.hid hq.symm
  clear hq
  have t1 := T1.out
  have k1 : (s.kind == 13) = true := by simp [t1]
  have HT1 := Lib.hid t1
  clear t1
  have t2 := T2.out
  have k2 : (s.c == 0) = true := by simp [t2]
  have HT2 := Lib.hid t2
  clear t2
  have t3 := T3.out
  have k3 : ((ln : Int) == 0) = true := by simp [t3]
  have HT3 := Lib.hid t3
  clear t3
  have t4 := T4.out
  have k4 : ((pn : Int) == 0) = true := by simp [t4]
  have HT4 := Lib.hid t4
  clear t4
  have t5 := T5.out
  obtain ⟨k5a, k5b, k5c⟩ := empty_facts t5
  have HT5 := Lib.hid t5
  clear t5
  have t6 := T6.out
  have t7 := T7.out
  rw [HCQ.out] at t7
  subst t7
  have HT := Lib.hid (checkI_right HCQ.out)
  have t8 := T8.out
  have HLB : Hid (lossB s = false) := Lib.hid (by simp [lossB, t8])
  have HBX := Lib.hid ((HB.out _ (Ex.refl _ _ w1)).2); have z0 : w1.cell? ⟨w.heap.size + 1, 0, none⟩ = some (.int .i64 0) := (by rw [cell_of_row _ _ _ _ _ _ HBX.out]; rfl); have z1 : w1.cell? ⟨w.heap.size + 1, 1, none⟩ = some (.int .i64 0) := (by rw [cell_of_row _ _ _ _ _ _ HBX.out]; rfl); have f0 := row_frozen_g (i := 0) HBX.out; have f1 := row_frozen_g (i := 1) HBX.out
  have hS := HQX.out w1 rfl rfl
  refine wp_region_held_drew (S := fun w' => w'.cell? ⟨w.heap.size, 0, none⟩ = some (.int .i64 s.author) ∧ w'.cell? ⟨w.heap.size, 1, none⟩ = some (.int .i64 s.number) ∧ w'.cell? ⟨w.heap.size, 2, none⟩ = some (.string s.prev) ∧ w'.cell? ⟨w.heap.size, 3, none⟩ = some (.int .i64 s.time) ∧ w'.cell? ⟨w.heap.size, 4, none⟩ = some (.int .i64 s.kind) ∧ w'.cell? ⟨w.heap.size, 5, none⟩ = some (.int .i64 s.a) ∧ w'.cell? ⟨w.heap.size, 6, none⟩ = some (.int .i64 s.b) ∧ w'.cell? ⟨w.heap.size, 7, none⟩ = some (.int .i64 s.c) ∧ w'.cell? ⟨w.heap.size, 8, none⟩ = some (.slice lo ln lc) ∧ w'.cell? ⟨w.heap.size, 9, none⟩ = some (.slice po pn pc) ∧ w'.cell? ⟨w.heap.size, 10, none⟩ = some (.string s.body) ∧ w'.cell? ⟨w.heap.size, 11, none⟩ = some (.int .i64 s.key) ∧ w'.cell? ⟨w.heap.size, 12, none⟩ = some (.string s.dig) ∧ w'.cell? ⟨w.heap.size + 2, 0, none⟩ = some (.int .i64 s.a) ∧ w'.cell? ⟨w.heap.size + 2, 1, none⟩ = some (.int .i64 s.b)) (by kernel_rfl) ?_ (fun hHeld => ?_)
  · exact HQX.out _ rfl rfl
  refine takeAt (i := 0) (d := some 10) (v := ?_) rfl rfl (by kernel_rfl) (by kernel_rfl) (by kernel_rfl) (fun _ _ _ h => h) (Or.inl ⟨by rfl, ?_⟩) (by assumption) ?_
  rotate_left
  · intro w' hSw; (try dsimp only at hSw); (go_simp <;> with_reducible rfl)
  (try simp only [Act.put, List.setIfInBounds_toArray, List.set_cons_zero, List.set_cons_succ])
  refine takeAt (i := 1) (d := some 11) (v := ?_) rfl rfl (by kernel_rfl) (by kernel_rfl) (by kernel_rfl) (fun _ _ _ h => h) (Or.inl ⟨by rfl, ?_⟩) (by assumption) ?_
  rotate_left
  · intro w' hSw; (try dsimp only at hSw); (go_simp <;> with_reducible rfl)
  (try simp only [Act.put, List.setIfInBounds_toArray, List.set_cons_zero, List.set_cons_succ])
  refine takeAt (i := 2) (d := some 12) (v := ?_) rfl rfl (by kernel_rfl) (by kernel_rfl) (by kernel_rfl) (fun _ _ _ h => h) (Or.inl ⟨by rfl, ?_⟩) (by assumption) ?_
  rotate_left
  · intro w' hSw; (try dsimp only at hSw); (go_simp <;> with_reducible rfl)
  (try simp only [Act.put, List.setIfInBounds_toArray, List.set_cons_zero, List.set_cons_succ])
  refine takeAt (i := 3) (d := some 13) (v := ?_) rfl rfl (by kernel_rfl) (by kernel_rfl) (by kernel_rfl) (fun _ _ _ h => h) (Or.inl ⟨by rfl, ?_⟩) (by assumption) ?_
  rotate_left
  · intro w' hSw; (try dsimp only at hSw); (go_simp <;> with_reducible rfl)
  (try simp only [Act.put, List.setIfInBounds_toArray, List.set_cons_zero, List.set_cons_succ])
  refine takeAt (i := 4) (d := some 14) (v := ?_) rfl rfl (by kernel_rfl) (by kernel_rfl) (by kernel_rfl) (fun _ _ _ h => h) (Or.inl ⟨by rfl, ?_⟩) (by assumption) ?_
  rotate_left
  · intro w' hSw; (try dsimp only at hSw); (go_simp <;> with_reducible rfl)
  (try simp only [Act.put, List.setIfInBounds_toArray, List.set_cons_zero, List.set_cons_succ])
  refine takeAt (i := 5) (d := some 15) (v := ?_) rfl rfl (by kernel_rfl) (by kernel_rfl) (by kernel_rfl) (fun _ _ _ h => h) (Or.inl ⟨by rfl, ?_⟩) (by assumption) ?_
  rotate_left
  · intro w' hSw; (try dsimp only at hSw); (go_simp <;> with_reducible rfl)
  (try simp only [Act.put, List.setIfInBounds_toArray, List.set_cons_zero, List.set_cons_succ])
  refine takeAt (i := 6) (d := some 16) (v := ?_) rfl rfl (by kernel_rfl) (by kernel_rfl) (by kernel_rfl) (fun _ _ _ h => h) (Or.inl ⟨by rfl, ?_⟩) (by assumption) ?_
  rotate_left
  · intro w' hSw; (try dsimp only at hSw); (go_simp <;> with_reducible rfl)
  (try simp only [Act.put, List.setIfInBounds_toArray, List.set_cons_zero, List.set_cons_succ])
  refine takeAt (i := 7) (d := some 17) (v := ?_) rfl rfl (by kernel_rfl) (by kernel_rfl) (by kernel_rfl) (fun _ _ _ h => h) (Or.inl ⟨by rfl, ?_⟩) (by assumption) ?_
  rotate_left
  · intro w' hSw; (try dsimp only at hSw); (go_simp <;> with_reducible rfl)
  (try simp only [Act.put, List.setIfInBounds_toArray, List.set_cons_zero, List.set_cons_succ])
  refine takeAt (i := 8) (d := some 18) (v := ?_) rfl rfl (by kernel_rfl) (by kernel_rfl) (by kernel_rfl) (fun _ _ _ h => h) (Or.inl ⟨by rfl, ?_⟩) (by assumption) ?_
  rotate_left
  · intro w' hSw; (try dsimp only at hSw); (go_simp <;> with_reducible rfl)
  (try simp only [Act.put, List.setIfInBounds_toArray, List.set_cons_zero, List.set_cons_succ])
  refine takeAt (i := 9) (d := some 19) (v := ?_) rfl rfl (by kernel_rfl) (by kernel_rfl) (by kernel_rfl) (fun _ _ _ h => h) (Or.inl ⟨by rfl, ?_⟩) (by assumption) ?_
  rotate_left
  · intro w' hSw; (try dsimp only at hSw); (go_simp <;> with_reducible rfl)
  (try simp only [Act.put, List.setIfInBounds_toArray, List.set_cons_zero, List.set_cons_succ])
  refine takeAt (i := 10) (d := some 20) (v := ?_) rfl rfl (by kernel_rfl) (by kernel_rfl) (by kernel_rfl) (fun _ _ _ h => h) (Or.inl ⟨by rfl, ?_⟩) (by assumption) ?_
  rotate_left
  · intro w' hSw; (try dsimp only at hSw); (go_simp <;> with_reducible rfl)
  (try simp only [Act.put, List.setIfInBounds_toArray, List.set_cons_zero, List.set_cons_succ])
  refine takeAt (i := 11) (d := some 21) (v := ?_) rfl rfl (by kernel_rfl) (by kernel_rfl) (by kernel_rfl) (fun _ _ _ h => h) (Or.inl ⟨by rfl, ?_⟩) (by assumption) ?_
  rotate_left
  · intro w' hSw; (try dsimp only at hSw); (go_simp <;> with_reducible rfl)
  (try simp only [Act.put, List.setIfInBounds_toArray, List.set_cons_zero, List.set_cons_succ])
  refine takeAt (i := 12) (d := some 22) (v := ?_) rfl rfl (by kernel_rfl) (by kernel_rfl) (by kernel_rfl) (fun _ _ _ h => h) (Or.inl ⟨by rfl, ?_⟩) (by assumption) ?_
  rotate_left
  · intro w' hSw; (try dsimp only at hSw); (go_simp <;> with_reducible rfl)
  (try simp only [Act.put, List.setIfInBounds_toArray, List.set_cons_zero, List.set_cons_succ])
  refine takeAt (i := 13) (d := some 23) (v := ?_) rfl rfl (by kernel_rfl) (by kernel_rfl) (by kernel_rfl) (fun _ _ _ h => h) (Or.inl ⟨by rfl, ?_⟩) (by assumption) ?_
  rotate_left
  · intro w' hSw; (try dsimp only at hSw); (go_simp <;> with_reducible rfl)
  (try simp only [Act.put, List.setIfInBounds_toArray, List.set_cons_zero, List.set_cons_succ])
  refine takeAt (i := 14) (d := some 24) (v := ?_) rfl rfl (by kernel_rfl) (by kernel_rfl) (by kernel_rfl) (fun _ _ _ h => h) (Or.inl ⟨by rfl, ?_⟩) (by assumption) ?_
  rotate_left
  · intro w' hSw; (try dsimp only at hSw); (go_simp <;> with_reducible rfl)
  (try simp only [Act.put, List.setIfInBounds_toArray, List.set_cons_zero, List.set_cons_succ])
  refine takeAt (i := 15) (d := some 25) (v := ?_) rfl rfl (by kernel_rfl) (by kernel_rfl) (by kernel_rfl) (fun _ _ _ h => h) (Or.inl ⟨by rfl, ?_⟩) (by assumption) ?_
  rotate_left
  · intro w' hSw; (try dsimp only at hSw); (go_simp <;> with_reducible rfl)
  (try simp only [Act.put, List.setIfInBounds_toArray, List.set_cons_zero, List.set_cons_succ])
  refine takeAt (i := 16) (d := some 26) (v := ?_) rfl rfl (by kernel_rfl) (by kernel_rfl) (by kernel_rfl) (fun _ _ _ h => h) (Or.inl ⟨by rfl, ?_⟩) (by assumption) ?_
  rotate_left
  · intro w' hSw; (try dsimp only at hSw); (go_simp <;> with_reducible rfl)
  (try simp only [Act.put, List.setIfInBounds_toArray, List.set_cons_zero, List.set_cons_succ])
  refine takeAt (i := 17) (d := some 27) (v := ?_) rfl rfl (by kernel_rfl) (by kernel_rfl) (by kernel_rfl) (fun _ _ _ h => h) (Or.inl ⟨by rfl, ?_⟩) (by assumption) ?_
  rotate_left
  · intro w' hSw; (try dsimp only at hSw); (go_simp <;> with_reducible rfl)
  (try simp only [Act.put, List.setIfInBounds_toArray, List.set_cons_zero, List.set_cons_succ])
  refine takeAt (i := 18) (d := some 28) (v := ?_) rfl rfl (by kernel_rfl) (by kernel_rfl) (by kernel_rfl) (fun _ _ _ h => h) (Or.inl ⟨by rfl, ?_⟩) (by assumption) ?_
  rotate_left
  · intro w' hSw; (try dsimp only at hSw); (go_simp <;> with_reducible rfl)
  (try simp only [Act.put, List.setIfInBounds_toArray, List.set_cons_zero, List.set_cons_succ])
  refine takeAt (i := 19) (d := some 29) (v := ?_) rfl rfl (by kernel_rfl) (by kernel_rfl) (by kernel_rfl) (fun _ _ _ h => h) (Or.inl ⟨by rfl, ?_⟩) (by assumption) ?_
  rotate_left
  · intro w' hSw; (try dsimp only at hSw); (go_simp <;> with_reducible rfl)
  (try simp only [Act.put, List.setIfInBounds_toArray, List.set_cons_zero, List.set_cons_succ])
  refine takeAt (i := 20) (d := some 30) (v := ?_) rfl rfl (by kernel_rfl) (by kernel_rfl) (by kernel_rfl) (fun _ _ _ h => h) (Or.inl ⟨by rfl, ?_⟩) (by assumption) ?_
  rotate_left
  · intro w' hSw; (try dsimp only at hSw); (go_simp <;> with_reducible rfl)
  (try simp only [Act.put, List.setIfInBounds_toArray, List.set_cons_zero, List.set_cons_succ])
  refine takeAt (i := 21) (d := some 31) (v := ?_) rfl rfl (by kernel_rfl) (by kernel_rfl) (by kernel_rfl) (fun _ _ _ h => h) (Or.inl ⟨by rfl, ?_⟩) (by assumption) ?_
  rotate_left
  · intro w' hSw; (try dsimp only at hSw); (go_simp <;> with_reducible rfl)
  (try simp only [Act.put, List.setIfInBounds_toArray, List.set_cons_zero, List.set_cons_succ])
  refine takeAt (i := 22) (d := some 32) (v := ?_) rfl rfl (by kernel_rfl) (by kernel_rfl) (by kernel_rfl) (fun _ _ _ h => h) (Or.inl ⟨by rfl, ?_⟩) (by assumption) ?_
  rotate_left
  · intro w' hSw; (try dsimp only at hSw); (go_simp <;> with_reducible rfl)
  (try simp only [Act.put, List.setIfInBounds_toArray, List.set_cons_zero, List.set_cons_succ])
  refine takeAt (i := 23) (d := some 33) (v := ?_) rfl rfl (by kernel_rfl) (by kernel_rfl) (by kernel_rfl) (fun _ _ _ h => h) (Or.inl ⟨by rfl, ?_⟩) (by assumption) ?_
  rotate_left
  · intro w' hSw; (try dsimp only at hSw); (go_simp <;> with_reducible rfl)
  (try simp only [Act.put, List.setIfInBounds_toArray, List.set_cons_zero, List.set_cons_succ])
  refine takeAt (i := 24) (d := some 34) (v := ?_) rfl rfl (by kernel_rfl) (by kernel_rfl) (by kernel_rfl) (fun _ _ _ h => h) (Or.inl ⟨by rfl, ?_⟩) (by assumption) ?_
  rotate_left
  · intro w' hSw; (try dsimp only at hSw); (go_simp <;> with_reducible rfl)
  (try simp only [Act.put, List.setIfInBounds_toArray, List.set_cons_zero, List.set_cons_succ])
  refine takeAt (i := 25) (d := some 35) (v := ?_) rfl rfl (by kernel_rfl) (by kernel_rfl) (by kernel_rfl) (fun _ _ _ h => h) (Or.inl ⟨by rfl, ?_⟩) (by assumption) ?_
  rotate_left
  · intro w' hSw; (try dsimp only at hSw); (go_simp <;> with_reducible rfl)
  (try simp only [Act.put, List.setIfInBounds_toArray, List.set_cons_zero, List.set_cons_succ])
  refine takeAt (i := 26) (d := some 36) (v := ?_) rfl rfl (by kernel_rfl) (by kernel_rfl) (by kernel_rfl) (fun _ _ _ h => h) (Or.inl ⟨by rfl, ?_⟩) (by assumption) ?_
  rotate_left
  · intro w' hSw; (try dsimp only at hSw); (go_simp <;> with_reducible rfl)
  (try simp only [Act.put, List.setIfInBounds_toArray, List.set_cons_zero, List.set_cons_succ])
  refine takeAt (i := 27) (d := some 37) (v := ?_) rfl rfl (by kernel_rfl) (by kernel_rfl) (by kernel_rfl) (fun _ _ _ h => h) (Or.inl ⟨by rfl, ?_⟩) (by assumption) ?_
  rotate_left
  · intro w' hSw; (try dsimp only at hSw); (go_simp <;> with_reducible rfl)
  (try simp only [Act.put, List.setIfInBounds_toArray, List.set_cons_zero, List.set_cons_succ])
  refine wpAnyH_ready (rs := [28]) (by kernel_rfl) (by simp) ?_
  refine AllReadyH.cons (o := _) rfl (fun K hK => ?_) AllReadyH.nil
  go_simp
  go_at_call 68
  refine (asB (right35_any s.a s.b _) t6).mono ?_
  rintro e wa ⟨rfl, hex⟩
  have HX1 : Hid (Ex w1.heap.size none w1 wa) := Lib.hid ((by repeat (first | with_reducible exact Ex.refl _ _ _ | with_reducible refine Ex.drew ?_) : Ex w1.heap.size none w1 _).trans hex (by first | exact Nat.le_refl _ | omega | (simp; omega)) (by simp))
  have HR1 : Hid (Ex (w.heap.size + 1) none w1 wa) := Lib.hid (HX1.out.mono (by omega))
  have hz1 : w1.heap.size ≤ wa.heap.size := HX1.out.size
  clear z0 z1 f0 f1 hex
  have HBX := Lib.hid ((HB.out _ HX1.out).2); have z0 : wa.cell? ⟨w.heap.size + 1, 0, none⟩ = some (.int .i64 0) := (by rw [cell_of_row _ _ _ _ _ _ HBX.out]; rfl); have z1 : wa.cell? ⟨w.heap.size + 1, 1, none⟩ = some (.int .i64 0) := (by rw [cell_of_row _ _ _ _ _ _ HBX.out]; rfl); have f0 := row_frozen_g (i := 0) HBX.out; have f1 := row_frozen_g (i := 1) HBX.out
  refine hK.out _ _ (HQX.out _ (by first | with_reducible rfl | with_reducible exact HX1.out.block _ (by omega) (by simp) | exact set_far (by omega) (set_far (by omega) (HX1.out.block _ (by omega) (by simp))) | exact set_far (by omega) (HX1.out.block _ (by omega) (by simp)) | exact HX1.out.block _ (by omega) (by simp) | rfl) (by first | with_reducible rfl | with_reducible exact HX1.out.block _ (by omega) (by simp) | exact set_far (by omega) (set_far (by omega) (HX1.out.block _ (by omega) (by simp))) | exact set_far (by omega) (HX1.out.block _ (by omega) (by simp)) | exact HX1.out.block _ (by omega) (by simp) | rfl)) (fun hHeld => ?_)
  clear hK K
  (try simp only [Act.put, List.setIfInBounds_toArray, List.set_cons_zero, List.set_cons_succ])
  refine takeAt (i := 29) (d := some 39) (v := ?_) rfl rfl (by kernel_rfl) (by kernel_rfl) (by kernel_rfl) (fun _ _ _ h => h) (Or.inl ⟨by rfl, ?_⟩) (by assumption) ?_
  rotate_left
  · intro w' hSw; (try dsimp only at hSw); (go_simp <;> with_reducible rfl)
  (try simp only [Act.put, List.setIfInBounds_toArray, List.set_cons_zero, List.set_cons_succ])
  refine takeAt (i := 30) (d := some 40) (v := ?_) rfl rfl (by kernel_rfl) (by kernel_rfl) (by kernel_rfl) (fun _ _ _ h => h) (Or.inl ⟨by rfl, ?_⟩) (by assumption) ?_
  rotate_left
  · intro w' hSw; (try dsimp only at hSw); (go_simp <;> with_reducible rfl)
  (try simp only [Act.put, List.setIfInBounds_toArray, List.set_cons_zero, List.set_cons_succ])
  refine takeAt (i := 31) (d := some 41) (v := ?_) rfl rfl (by kernel_rfl) (by kernel_rfl) (by kernel_rfl) (fun _ _ _ h => h) (Or.inl ⟨by rfl, ?_⟩) (by assumption) ?_
  rotate_left
  · intro w' hSw; (try dsimp only at hSw); (go_simp <;> with_reducible rfl)
  (try simp only [Act.put, List.setIfInBounds_toArray, List.set_cons_zero, List.set_cons_succ])
  refine wpAnyH_ready (rs := [32]) (by kernel_rfl) (by simp) ?_
  refine AllReadyH.cons (o := _) rfl (fun K hK => ?_) AllReadyH.nil
  go_simp
  go_at_call 150
  refine (check03_any s lo po ln lc pn pc _ (HLS.out.keep fun b _ hb => (Ex.block HX1.out b (by omega) (by simp)).trans (HE1.out.block b hb (by simp))) HHM.out).mono ?_
  rw [HCQ.out]
  rintro e wb ⟨rfl, hex⟩
  have HX2 : Hid (Ex w1.heap.size none w1 wb) := Lib.hid ((by repeat (first | with_reducible exact HX1.out | with_reducible refine Ex.drew ?_) : Ex w1.heap.size none w1 _).trans hex (by first | exact Nat.le_refl _ | omega | (simp; omega)) (by simp))
  have HR2 : Hid (Ex (w.heap.size + 1) none w1 wb) := Lib.hid (HX2.out.mono (by omega))
  have hz2 : w1.heap.size ≤ wb.heap.size := HX2.out.size
  clear z0 z1 f0 f1 hex
  have HBX := Lib.hid ((HB.out _ HX2.out).2); have z0 : wb.cell? ⟨w.heap.size + 1, 0, none⟩ = some (.int .i64 0) := (by rw [cell_of_row _ _ _ _ _ _ HBX.out]; rfl); have z1 : wb.cell? ⟨w.heap.size + 1, 1, none⟩ = some (.int .i64 0) := (by rw [cell_of_row _ _ _ _ _ _ HBX.out]; rfl); have f0 := row_frozen_g (i := 0) HBX.out; have f1 := row_frozen_g (i := 1) HBX.out
  refine hK.out _ _ (HQX.out _ (by first | with_reducible rfl | with_reducible exact HX1.out.block _ (by omega) (by simp) | with_reducible exact HX2.out.block _ (by omega) (by simp) | exact set_far (by omega) (set_far (by omega) (HX2.out.block _ (by omega) (by simp))) | exact set_far (by omega) (HX2.out.block _ (by omega) (by simp)) | exact HX1.out.block _ (by omega) (by simp) | exact HX2.out.block _ (by omega) (by simp) | rfl) (by first | with_reducible rfl | with_reducible exact HX1.out.block _ (by omega) (by simp) | with_reducible exact HX2.out.block _ (by omega) (by simp) | exact set_far (by omega) (set_far (by omega) (HX2.out.block _ (by omega) (by simp))) | exact set_far (by omega) (HX2.out.block _ (by omega) (by simp)) | exact HX1.out.block _ (by omega) (by simp) | exact HX2.out.block _ (by omega) (by simp) | rfl)) (fun hHeld => ?_)
  clear hK K
  (try simp only [Act.put, List.setIfInBounds_toArray, List.set_cons_zero, List.set_cons_succ])
  refine takeAt (i := 33) (d := some 43) (v := ?_) rfl rfl (by kernel_rfl) (by kernel_rfl) (by kernel_rfl) (fun _ _ _ h => h) (Or.inl ⟨by rfl, ?_⟩) (by assumption) ?_
  rotate_left
  · intro w' hSw; (try dsimp only at hSw); (go_simp <;> with_reducible rfl)
  (try simp only [Act.put, List.setIfInBounds_toArray, List.set_cons_zero, List.set_cons_succ])
  refine takeAt (i := 34) (d := some 44) (v := ?_) rfl rfl (by kernel_rfl) (by kernel_rfl) (by kernel_rfl) (fun _ _ _ h => h) (Or.inl ⟨by rfl, ?_⟩) (by assumption) ?_
  rotate_left
  · intro w' hSw; (try dsimp only at hSw); (go_simp <;> with_reducible rfl)
  (try simp only [Act.put, List.setIfInBounds_toArray, List.set_cons_zero, List.set_cons_succ])
  refine takeAt (i := 35) (d := some 45) (v := ?_) rfl rfl (by kernel_rfl) (by kernel_rfl) (by kernel_rfl) (fun _ _ _ h => h) (Or.inl ⟨by rfl, ?_⟩) (by assumption) ?_
  rotate_left
  · intro w' hSw; (try dsimp only at hSw); (go_simp <;> with_reducible rfl)
  (try simp only [Act.put, List.setIfInBounds_toArray, List.set_cons_zero, List.set_cons_succ])
  refine takeAt (i := 36) (d := some 46) (v := ?_) rfl rfl (by kernel_rfl) (by kernel_rfl) (by kernel_rfl) (fun _ _ _ h => h) (Or.inl ⟨by rfl, ?_⟩) (by assumption) ?_
  rotate_left
  · intro w' hSw; (try dsimp only at hSw); (go_simp <;> with_reducible rfl)
  (try simp only [Act.put, List.setIfInBounds_toArray, List.set_cons_zero, List.set_cons_succ])
  refine wpAnyH_ready (rs := [37]) (by kernel_rfl) (by simp) ?_
  refine AllReadyH.cons (o := _) rfl (fun K hK => ?_) AllReadyH.nil
  go_simp
  go_at_call 53
  refine (asB (sealed03_any s lo po ln lc pn pc _ (HLS.out.keep fun b _ hb => (Ex.block HX2.out b (by omega) (by simp)).trans (HE1.out.block b hb (by simp))) HT.out.tame) t8).mono ?_
  rintro e wc ⟨rfl, hex⟩
  have HX3 : Hid (Ex w1.heap.size none w1 wc) := Lib.hid ((by repeat (first | with_reducible exact HX2.out | with_reducible refine Ex.drew ?_) : Ex w1.heap.size none w1 _).trans hex (by first | exact Nat.le_refl _ | omega | (simp; omega)) (by simp))
  have HR3 : Hid (Ex (w.heap.size + 1) none w1 wc) := Lib.hid (HX3.out.mono (by omega))
  have hz3 : w1.heap.size ≤ wc.heap.size := HX3.out.size
  clear z0 z1 f0 f1 hex
  have HBX := Lib.hid ((HB.out _ HX3.out).2); have z0 : wc.cell? ⟨w.heap.size + 1, 0, none⟩ = some (.int .i64 0) := (by rw [cell_of_row _ _ _ _ _ _ HBX.out]; rfl); have z1 : wc.cell? ⟨w.heap.size + 1, 1, none⟩ = some (.int .i64 0) := (by rw [cell_of_row _ _ _ _ _ _ HBX.out]; rfl); have f0 := row_frozen_g (i := 0) HBX.out; have f1 := row_frozen_g (i := 1) HBX.out
  refine hK.out _ _ (HQX.out _ (by first | with_reducible rfl | with_reducible exact HX1.out.block _ (by omega) (by simp) | with_reducible exact HX2.out.block _ (by omega) (by simp) | with_reducible exact HX3.out.block _ (by omega) (by simp) | exact set_far (by omega) (set_far (by omega) (HX3.out.block _ (by omega) (by simp))) | exact set_far (by omega) (HX3.out.block _ (by omega) (by simp)) | exact HX1.out.block _ (by omega) (by simp) | exact HX2.out.block _ (by omega) (by simp) | exact HX3.out.block _ (by omega) (by simp) | rfl) (by first | with_reducible rfl | with_reducible exact HX1.out.block _ (by omega) (by simp) | with_reducible exact HX2.out.block _ (by omega) (by simp) | with_reducible exact HX3.out.block _ (by omega) (by simp) | exact set_far (by omega) (set_far (by omega) (HX3.out.block _ (by omega) (by simp))) | exact set_far (by omega) (HX3.out.block _ (by omega) (by simp)) | exact HX1.out.block _ (by omega) (by simp) | exact HX2.out.block _ (by omega) (by simp) | exact HX3.out.block _ (by omega) (by simp) | rfl)) (fun hHeld => ?_)
  clear hK K
  (try simp only [Act.put, List.setIfInBounds_toArray, List.set_cons_zero, List.set_cons_succ])
  refine takeAt (i := 38) (d := some 48) (v := ?_) rfl rfl (by kernel_rfl) (by kernel_rfl) (by kernel_rfl) (fun _ _ _ h => h) (Or.inl ⟨by rfl, ?_⟩) (by assumption) ?_
  rotate_left
  · intro w' hSw; (try dsimp only at hSw); (go_simp <;> with_reducible rfl)
  (try simp only [Act.put, List.setIfInBounds_toArray, List.set_cons_zero, List.set_cons_succ])
  refine wpAnyH_ready (rs := [39]) (by kernel_rfl) (by simp) ?_
  refine AllReadyH.cons (o := _) rfl (fun K hK => ?_) AllReadyH.nil
  go_simp
  refine hK.out _ _ (HQX.out _ (by first | with_reducible rfl | with_reducible exact HX1.out.block _ (by omega) (by simp) | with_reducible exact HX2.out.block _ (by omega) (by simp) | with_reducible exact HX3.out.block _ (by omega) (by simp) | exact set_far (by omega) (set_far (by omega) (HX3.out.block _ (by omega) (by simp))) | exact set_far (by omega) (HX3.out.block _ (by omega) (by simp)) | exact HX1.out.block _ (by omega) (by simp) | exact HX2.out.block _ (by omega) (by simp) | exact HX3.out.block _ (by omega) (by simp) | rfl) (by first | with_reducible rfl | with_reducible exact HX1.out.block _ (by omega) (by simp) | with_reducible exact HX2.out.block _ (by omega) (by simp) | with_reducible exact HX3.out.block _ (by omega) (by simp) | exact set_far (by omega) (set_far (by omega) (HX3.out.block _ (by omega) (by simp))) | exact set_far (by omega) (HX3.out.block _ (by omega) (by simp)) | exact HX1.out.block _ (by omega) (by simp) | exact HX2.out.block _ (by omega) (by simp) | exact HX3.out.block _ (by omega) (by simp) | rfl)) (fun hHeld => ?_)
  clear hK K
  (try simp only [Act.put, List.setIfInBounds_toArray, List.set_cons_zero, List.set_cons_succ])
  refine takeAt (i := 40) (d := some 3) (v := ?_) rfl rfl (by kernel_rfl) (by kernel_rfl) (by kernel_rfl) (fun _ _ _ h => h) (Or.inl ⟨by rfl, ?_⟩) (by assumption) ?_
  rotate_left
  · intro w' hSw; (try dsimp only at hSw); (go_simp <;> with_reducible rfl)
  (try simp only [Act.put, List.setIfInBounds_toArray, List.set_cons_zero, List.set_cons_succ])
  refine wpAnyH_done (by kernel_rfl) ?_ _
  obtain ⟨w9, hw9⟩ : ∃ w9 : World, w9 = ((wc.setCell ⟨w.heap.size + 1, 0, none⟩ (.int .i64 s.a)).setCell ⟨w.heap.size + 1, 1, none⟩ (.int .i64 s.b)) := ⟨_, rfl⟩
  have hrb : w9.heap[w.heap.size + 1]? = some (.cells #[.int .i64 s.a, .int .i64 s.b] 25 (0, 0)) := by
    rw [hw9]
    show ((_ : World).setCell _ _).heap[_]? = _
    rw [heap_setCell_same _ _ _ _ _ _ (heap_setCell_same _ _ _ _ _ _ HBX.out)]; rfl
  have HE9 : Hid (Ex w.heap.size none w w9) := Lib.hid (by
    rw [hw9]
    exact (Ex.setCell (Ex.setCell (HE1.out.trans (HX3.out) (by omega) (by simp)) _ none _ (.inr (by omega))) _ none _ (.inr (by omega))))
  rw [← hw9]
  clear hw9
  go_wp2_with (fail)
  have hr := run_loadVar_row (P := Tryz.prog) _ (w.heap.size + 1) 25 25 (#[.int .i64 s.a, .int .i64 s.b] : Array Value) (0, 0) _ hrb Tryz.underlying25 rfl Tryz.sizeHeir2
  refine bodyPost_ret (v := .tuple #[.agg #[.int .i64 s.a, .int .i64 s.b], .bool false]) ?_ rfl ?_
  · rw [results_cell_tmp Tryz.results72]
    show ((loadVar 25 ⟨w.heap.size + 1, 0, none⟩).run Tryz.prog _).andThen _ = _
    rw [hr]
    rfl
  exact ⟨by rw [HLB.out], HE9.out⟩
end Go.Proofs.YtaghfcnpnfhacaaGreat
