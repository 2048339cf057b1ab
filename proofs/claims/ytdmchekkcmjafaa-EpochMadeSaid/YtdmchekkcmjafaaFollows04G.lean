/- ref04.Follows: a contract, no statement of the seat. -/
import Derived.Test.YtdmchekkcmjafaaSeal03G
import Derived.Test.YtdmchekkcmjafaaMg03
namespace Go.Proofs.Ytdmchekkcmjafaa
open Go.RowKit Go.Sort

/-- t follows s. -/
def followsB (s t : St) : Bool := decide (t.author = s.author) && decide (s.number < t.number) && decide (t.number = wrap64 (s.number + 1)) && decide (t.prev = sha (stB s)) && decide (s.time ≤ t.time)
theorem followsB_iff {s t : St} : followsB s t = true ↔ t.author = s.author ∧ s.number < t.number ∧ t.number = wrap64 (s.number + 1) ∧ t.prev = sha (stB s) ∧ s.time ≤ t.time := by
  simp only [followsB, Bool.and_eq_true, decide_eq_true_eq, and_assoc]
set_option maxHeartbeats 8000000 in
set_option maxRecDepth 100000 in
theorem follows04_any {P : Nat → Prop} (s t : St) (lo po lo' po' : Option Addr) (ln lc pn pc ln' lc' pn' pc' : Nat) (w : World) (hs : Lies P w (s, ⟨lo, ln, lc⟩, ⟨po, pn, pc⟩)) (ht : Tame s) :
    Calls Try.prog 52 #[.agg #[.int .i64 s.author, .int .i64 s.number, .string s.prev, .int .i64 s.time, .int .i64 s.kind, .int .i64 s.a, .int .i64 s.b, .int .i64 s.c, .slice lo ln lc, .slice po pn pc, .string s.body, .int .i64 s.key, .string s.dig], .agg #[.int .i64 t.author, .int .i64 t.number, .string t.prev, .int .i64 t.time, .int .i64 t.kind, .int .i64 t.a, .int .i64 t.b, .int .i64 t.c, .slice lo' ln' lc', .slice po' pn' pc', .string t.body, .int .i64 t.key, .string t.dig]] w fun e w' => e = .returned (.bool (followsB s t)) ∧ Ex w.heap.size none w w' := by
  have HT := Lib.hid ht
  have HLS := Lib.hid hs
  clear hs ht
  obtain ⟨w0, hw0⟩ : ∃ w0 : World, w0 = (w.alloc (.cells #[.int .i64 s.author, .int .i64 s.number, .string s.prev, .int .i64 s.time, .int .i64 s.kind, .int .i64 s.a, .int .i64 s.b, .int .i64 s.c, .slice lo ln lc, .slice po pn pc, .string s.body, .int .i64 s.key, .string s.dig] 30)).alloc (.cells #[.int .i64 t.author, .int .i64 t.number, .string t.prev, .int .i64 t.time, .int .i64 t.kind, .int .i64 t.a, .int .i64 t.b, .int .i64 t.c, .slice lo' ln' lc', .slice po' pn' pc', .string t.body, .int .i64 t.key, .string t.dig] 30) := ⟨_, rfl⟩
  have hz0 : w0.heap.size = w.heap.size + 2 := by rw [hw0]; simp
  have HE0 : Hid (Ex w.heap.size none w w0) := by rw [hw0]; exact ex_two0 _ _
  have HB0 : Hid (w0.heap[w.heap.size]? = some (.cells #[.int .i64 s.author, .int .i64 s.number, .string s.prev, .int .i64 s.time, .int .i64 s.kind, .int .i64 s.a, .int .i64 s.b, .int .i64 s.c, .slice lo ln lc, .slice po pn pc, .string s.body, .int .i64 s.key, .string s.dig] 30 (0, 0)) ∧ w0.heap[w.heap.size + 1]? = some (.cells #[.int .i64 t.author, .int .i64 t.number, .string t.prev, .int .i64 t.time, .int .i64 t.kind, .int .i64 t.a, .int .i64 t.b, .int .i64 t.c, .slice lo' ln' lc', .slice po' pn' pc', .string t.body, .int .i64 t.key, .string t.dig] 30 (0, 0))) := Lib.hid (by
    rw [hw0]
    exact ⟨((Ex.new _ _).block w.heap.size (by simp) (by simp)).trans (heap_alloc_new w _), by have := heap_alloc_new (w.alloc (.cells #[.int .i64 s.author, .int .i64 s.number, .string s.prev, .int .i64 s.time, .int .i64 s.kind, .int .i64 s.a, .int .i64 s.b, .int .i64 s.c, .slice lo ln lc, .slice po pn pc, .string s.body, .int .i64 s.key, .string s.dig] 30)) (.cells #[.int .i64 t.author, .int .i64 t.number, .string t.prev, .int .i64 t.time, .int .i64 t.kind, .int .i64 t.a, .int .i64 t.b, .int .i64 t.c, .slice lo' ln' lc', .slice po' pn' pc', .string t.body, .int .i64 t.key, .string t.dig] 30); simpa using this⟩)
  have hq := fun p0 : ExW w0 => (st_block ((p0.ex.block w.heap.size (by omega) (by simp)).trans HB0.out.1)).1
  have hq' := fun p0 : ExW w0 => (st_block ((p0.ex.block (w.heap.size + 1) (by omega) (by simp)).trans HB0.out.2)).1
  have HD : Hid (∀ p0 : ExW w0, Calls Try.prog 65 #[.agg #[.int .i64 s.author, .int .i64 s.number, .string s.prev, .int .i64 s.time, .int .i64 s.kind, .int .i64 s.a, .int .i64 s.b, .int .i64 s.c, .slice lo ln lc, .slice po pn pc, .string s.body, .int .i64 s.key, .string s.dig]] p0.w' fun e w' => e = .returned (.string (sha (stB s))) ∧ Ex p0.w'.heap.size none p0.w' w') := fun p0 => digest03_any s lo po ln lc pn pc _ (HLS.out.keep fun b _ hb => (HE0.out.trans p0.ex (by omega) (by simp)).block b hb (by simp)) HT.out
  have HQ := Lib.hid hq
  have HQ' := Lib.hid hq'
  clear hq hq'
  go_enter Try.func52, Try.ntmps52
  go_upto_region 1 with (fail)
  rw [← hw0]
  clear hw0
  have hq := HQ.out
  have hq' := HQ'.out
  by_cases c1 : t.author = s.author
  · have c1d : (t.author == s.author) = true := by simp [c1]
    have Kc1 : Hid (decide (t.author = s.author) = true) := Lib.hid (decide_eq_true c1)
    clear c1
    by_cases c2 : s.number < t.number
    · have c2d : decide (s.number < t.number) = true := decide_eq_true c2
      have Kc2 : Hid (decide (s.number < t.number) = true) := Lib.hid (decide_eq_true c2)
      clear c2
      by_cases c3 : t.number = wrap64 (s.number + 1)
      · have c3d : (t.number == wrap64 (s.number + 1)) = true := by rw [c3]; simp
        have Kc3 : Hid (decide (t.number = wrap64 (s.number + 1)) = true) := Lib.hid (decide_eq_true c3)
        clear c3
        by_cases c4 : t.prev = sha (stB s)
        · have c4d : (t.prev.toList == (sha (stB s)).toList) = true := (bytes_beq c4).2
          have Kc4 : Hid (decide (t.prev = sha (stB s)) = true) := Lib.hid (decide_eq_true c4)
          clear c4
          have HR : Hid (followsB s t = decide (s.time ≤ t.time)) := Lib.hid (by simp only [followsB, Kc1.out, Kc2.out, Kc3.out, Kc4.out, Bool.true_and, Bool.and_true])
          refine wp_region_quiet_ex (by kernel_rfl) (by kernel_rfl) ?_
          repeat (go_big_quiet_step ((go_at_call 65; refine calls_ex_of (HD.out _))))
          refine wpQuiet_nil ?_
          intro _ hw'
          obtain ⟨p9, hw''⟩ := hw'
          subst hw''
          clear hq hq'
          go_wp2
          go_ret
          exact ⟨by rw [HR.out]; rfl, HE0.out.trans p9.ex (by omega) (by simp)⟩
        · have c4d : (t.prev.toList == (sha (stB s)).toList) = false := (bytes_nbeq c4).2
          have Kc4 : Hid (decide (t.prev = sha (stB s)) = false) := Lib.hid (decide_eq_false c4)
          clear c4
          have HR : Hid (followsB s t = false) := Lib.hid (by simp only [followsB, Kc1.out, Kc2.out, Kc3.out, Kc4.out, Bool.and_true, Bool.false_and, Bool.and_false])
          refine wp_region_quiet_ex (by kernel_rfl) (by kernel_rfl) ?_
          repeat (go_big_quiet_step ((go_at_call 65; refine calls_ex_of (HD.out _))))
          refine wpQuiet_nil ?_
          intro _ hw'
          obtain ⟨p9, hw''⟩ := hw'
          subst hw''
          clear hq hq'
          go_wp2
          go_ret
          exact ⟨by rw [HR.out]; rfl, HE0.out.trans p9.ex (by omega) (by simp)⟩
      · have c3d : (t.number == wrap64 (s.number + 1)) = false := by simp [c3]
        have Kc3 : Hid (decide (t.number = wrap64 (s.number + 1)) = false) := Lib.hid (decide_eq_false c3)
        clear c3
        have HR : Hid (followsB s t = false) := Lib.hid (by simp only [followsB, Kc1.out, Kc2.out, Kc3.out, Bool.and_true, Bool.false_and, Bool.and_false])
        refine wp_region_quiet_ex (by kernel_rfl) (by kernel_rfl) ?_
        repeat (go_big_quiet_step (fail))
        refine wpQuiet_nil ?_
        intro _ hw'
        obtain ⟨p9, hw''⟩ := hw'
        subst hw''
        clear hq hq'
        go_wp2
        go_ret
        exact ⟨by rw [HR.out]; rfl, HE0.out.trans p9.ex (by omega) (by simp)⟩
    · have c2d : decide (s.number < t.number) = false := decide_eq_false c2
      have Kc2 : Hid (decide (s.number < t.number) = false) := Lib.hid (decide_eq_false c2)
      clear c2
      have HR : Hid (followsB s t = false) := Lib.hid (by simp only [followsB, Kc1.out, Kc2.out, Bool.false_and, Bool.and_false])
      refine wp_region_quiet_ex (by kernel_rfl) (by kernel_rfl) ?_
      repeat (go_big_quiet_step (fail))
      refine wpQuiet_nil ?_
      intro _ hw'
      obtain ⟨p9, hw''⟩ := hw'
      subst hw''
      clear hq hq'
      go_wp2
      go_ret
      exact ⟨by rw [HR.out]; rfl, HE0.out.trans p9.ex (by omega) (by simp)⟩
  · have c1d : (t.author == s.author) = false := by simp [c1]
    have Kc1 : Hid (decide (t.author = s.author) = false) := Lib.hid (decide_eq_false c1)
    clear c1
    have HR : Hid (followsB s t = false) := Lib.hid (by simp only [followsB, Kc1.out, Bool.false_and])
    refine wp_region_quiet_ex (by kernel_rfl) (by kernel_rfl) ?_
    repeat (go_big_quiet_step (fail))
    refine wpQuiet_nil ?_
    intro _ hw'
    obtain ⟨p9, hw''⟩ := hw'
    subst hw''
    clear hq hq'
    go_wp2
    go_ret
    exact ⟨by rw [HR.out]; rfl, HE0.out.trans p9.ex (by omega) (by simp)⟩
end Go.Proofs.Ytdmchekkcmjafaa
