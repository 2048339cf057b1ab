/- Small functions of the mourning layer and the statement layer's. No statement of the seat. | statement.Check and Sealed at a statement of a loss. No statement of the seat. -/
import Derived.Test.YtfllcohnfboccaaSeal03G
import Derived.IntWalk
import Derived.Deep.Cut
namespace Go.Proofs.Ytfllcohnfboccaa
open Go.RowKit Go.Sort

set_option maxHeartbeats 1000000 in
theorem listsIn_any (n lo hi : Int) (w : World) : Calls Try.prog 76 #[.int .i64 n, .int .i64 lo, .int .i64 hi] w fun e w' => e = .returned (.bool (decide (lo ≤ n) && decide (n ≤ hi))) ∧ w = w' := by
  by_cases h1 : lo ≤ n
  · have d1 : decide (lo ≤ n) = true := decide_eq_true h1
    go_enter Try.func76, Try.ntmps76
    go_wp2
    go_ret
    exact ⟨by rw [d1, Bool.true_and]; rfl, rfl⟩
  · have d1 : decide (lo ≤ n) = false := decide_eq_false h1
    go_enter Try.func76, Try.ntmps76
    go_wp2
    go_ret
    exact ⟨rfl, rfl⟩
theorem listsIn_yes (n lo hi : Int) (w : World) (h : lo ≤ n ∧ n ≤ hi) : Calls Try.prog 76 #[.int .i64 n, .int .i64 lo, .int .i64 hi] w fun e w' => e = .returned (.bool true) ∧ w = w' :=
  (listsIn_any n lo hi w).mono fun _ _ h' => ⟨by rw [h'.1, decide_eq_true h.1, decide_eq_true h.2]; rfl, h'.2⟩
set_option maxHeartbeats 1000000 in
theorem valueP_any (n : Int) (w : World) (h : 0 ≤ n ∧ n ≤ 1099511627776) : Calls Try.prog 91 #[.int .i64 n] w fun e w' => e = .returned (.bool true) ∧ w = w' := by
  go_enter Try.func91, Try.ntmps91
  go_wp2_with (go_at_call 76; refine (listsIn_yes _ _ _ _ h).mono ?_; rintro e w' ⟨rfl, rfl⟩)
  go_ret
  exact ⟨rfl, rfl⟩
set_option maxHeartbeats 1000000 in
theorem indexNone_any (ao : Option Addr) (cap : Nat) (f : Value) (w : World) : Calls Try.prog 79 #[.slice ao 0 cap, f] w fun e w' => e = .returned (.int .i64 (-1)) ∧ w = w' := by
  go_enter Try.func79, Try.ntmps79
  go_wp2
  go_loopw [5, 8] (fun _ i wr => i = .int .i64 0 ∧ wr = w) (fun _ _ _ => 0)
  case atStart => exact ⟨rfl, rfl⟩
  case round =>
    obtain ⟨rfl, rfl⟩ := hrel
    go_wp2
    go_ret
    exact ⟨rfl, rfl⟩
set_option maxHeartbeats 1000000 in
theorem containsNone_any (ao : Option Addr) (cap : Nat) (f : Value) (w : World) : Calls Try.prog 50 #[.slice ao 0 cap, f] w fun e w' => e = .returned (.bool false) ∧ w = w' := by
  go_enter Try.func50, Try.ntmps50
  go_wp2_with (go_at_call 79; refine (indexNone_any _ _ _ _).mono ?_; rintro e w' ⟨rfl, rfl⟩)
  go_ret
  exact ⟨rfl, rfl⟩
set_option maxHeartbeats 1000000 in
theorem pinnedNone_any (ao : Option Addr) (cap : Nat) (w : World) : Calls Try.prog 94 #[.slice ao 0 cap] w fun e w' => e = .returned (.bool true) ∧ w = w' := by
  go_enter Try.func94, Try.ntmps94
  go_wp2
  go_loopw [3, 4, 7] (fun _ _ i wr => i = .int .i64 0 ∧ wr = w) (fun _ _ _ _ => 0)
  case atStart => exact ⟨rfl, rfl⟩
  case round =>
    obtain ⟨rfl, rfl⟩ := hrel
    go_wp2
    go_ret
    exact ⟨rfl, rfl⟩
end Go.Proofs.Ytfllcohnfboccaa

namespace Go.Proofs.Ytfllcohnfboccaa
open Go.RowKit Go.Sort

/-- A statement of a loss that is right. -/
structure LossOK (s : St) : Prop where
  author : 0 ≤ s.author ∧ s.author ≤ 63
  number : 0 ≤ s.number ∧ s.number ≤ 199
  time : 0 ≤ s.time ∧ s.time ≤ 2147483648
  kind : s.kind = 13
  a : 0 ≤ s.a ∧ s.a ≤ 63
  b : 0 ≤ s.b ∧ s.b ≤ 63
  ne : s.a ≠ s.b
  c : s.c = 0
  list : s.list = []
  pins : s.pins = []
  body : s.body = ⟨#[]⟩
  prev : (s.number = 0 ∧ s.prev = ⟨#[]⟩) ∨ (0 < s.number ∧ s.prev.size = 32)

set_option maxHeartbeats 2000000 in
set_option maxRecDepth 100000 in
theorem meantOther_any (s : St) (lo po : Option Addr) (ln lc pn pc : Nat) (w : World) (hk : s.kind = 13) :
    Calls Try.prog 92 #[.agg #[.int .i64 s.author, .int .i64 s.number, .string s.prev, .int .i64 s.time, .int .i64 s.kind, .int .i64 s.a, .int .i64 s.b, .int .i64 s.c, .slice lo ln lc, .slice po pn pc, .string s.body, .int .i64 s.key, .string s.dig]] w fun e w' => e = .returned (.bool true) ∧ Ex w.heap.size none w w' := by
  have k1 : (s.kind == 1) = false := by rw [hk]; rfl
  have k2 : (s.kind == 2) = false := by rw [hk]; rfl
  have k3 : (s.kind == 3) = false := by rw [hk]; rfl
  clear hk
  go_enter Try.func92, Try.ntmps92
  go_wp2
  go_ret
  exact ⟨rfl, Ex.new _ _⟩

set_option maxHeartbeats 8000000 in
set_option maxRecDepth 100000 in
theorem checkLoss_any (s : St) (lo po : Option Addr) (lc pc : Nat) (w : World) (hs : LossOK s) :
    Calls Try.prog 64 #[.agg #[.int .i64 s.author, .int .i64 s.number, .string s.prev, .int .i64 s.time, .int .i64 s.kind, .int .i64 s.a, .int .i64 s.b, .int .i64 s.c, .slice lo 0 lc, .slice po 0 pc, .string s.body, .int .i64 s.key, .string s.dig]] w fun e w' => e = .returned (.int .i64 0) ∧ Ex w.heap.size none w w' := by
  have hb : s.body = ⟨#[]⟩ := hs.body
  have hc : s.c = 0 := hs.c
  have hk1 : decide (s.kind ≤ 3) = false := by rw [hs.kind]; rfl
  have HS := Lib.hid hs
  rw [hb, hc]
  clear hs hb hc
  go_enter Try.func64, Try.ntmps64
  go_upto_region 1 with (fail)
  obtain ⟨w0, hw0⟩ : ∃ w0 : World, w0 = w.alloc (.cells #[.int .i64 s.author, .int .i64 s.number, .string s.prev, .int .i64 s.time, .int .i64 s.kind, .int .i64 s.a, .int .i64 s.b, .int .i64 0, .slice lo 0 lc, .slice po 0 pc, .string ⟨#[]⟩, .int .i64 s.key, .string s.dig] 40) := ⟨_, rfl⟩
  have HE0 : Hid (Ex w.heap.size none w w0) := Lib.hid (by rw [hw0]; exact Ex.new w _)
  have HB0 : Hid (∀ w', Ex w0.heap.size none w0 w' → w'.heap[w.heap.size]? = some (.cells #[.int .i64 s.author, .int .i64 s.number, .string s.prev, .int .i64 s.time, .int .i64 s.kind, .int .i64 s.a, .int .i64 s.b, .int .i64 0, .slice lo 0 lc, .slice po 0 pc, .string ⟨#[]⟩, .int .i64 s.key, .string s.dig] 40 (0, 0))) := Lib.hid (fun w' h => by
    refine (h.block _ (by rw [hw0]; simp) (by simp)).trans ?_
    rw [hw0]; exact heap_alloc_new w _)
  rw [← hw0]
  clear hw0
  obtain ⟨s2, hs2⟩ : ∃ s2 : St, s2 = { s with c := 0, body := ⟨#[]⟩ } := ⟨_, rfl⟩
  have HQ : Hid (∀ w', Ex w0.heap.size none w0 w' → w'.cell? ⟨w.heap.size, 0, none⟩ = some (.int .i64 s.author) ∧ w'.cell? ⟨w.heap.size, 1, none⟩ = some (.int .i64 s.number) ∧ w'.cell? ⟨w.heap.size, 2, none⟩ = some (.string s.prev) ∧ w'.cell? ⟨w.heap.size, 3, none⟩ = some (.int .i64 s.time) ∧ w'.cell? ⟨w.heap.size, 4, none⟩ = some (.int .i64 s.kind) ∧ w'.cell? ⟨w.heap.size, 5, none⟩ = some (.int .i64 s.a) ∧ w'.cell? ⟨w.heap.size, 6, none⟩ = some (.int .i64 s.b) ∧ w'.cell? ⟨w.heap.size, 7, none⟩ = some (.int .i64 0) ∧ w'.cell? ⟨w.heap.size, 8, none⟩ = some (.slice lo 0 lc) ∧ w'.cell? ⟨w.heap.size, 9, none⟩ = some (.slice po 0 pc) ∧ w'.cell? ⟨w.heap.size, 10, none⟩ = some (.string ⟨#[]⟩) ∧ w'.cell? ⟨w.heap.size, 11, none⟩ = some (.int .i64 s.key) ∧ w'.cell? ⟨w.heap.size, 12, none⟩ = some (.string s.dig)) := Lib.hid (fun w' h => by
    have k := HB0.out w' h
    refine ⟨?_, ?_, ?_, ?_, ?_, ?_, ?_, ?_, ?_, ?_, ?_, ?_, ?_⟩ <;> (rw [cell_of_row _ _ _ _ _ _ k]; rfl))
  clear hs2
  obtain ⟨d0, d1, d2, d3, d4, d5, d6, d7, d8, d9, d10, d11, d12⟩ := HQ.out _ (Ex.refl _ _ w0)
  have hn0 : decide (s.number < 0) = false := decide_eq_false (by have := HS.out.number.1; omega)
  clear hn0
  go_wp2_with fail
  refine (listsIn_yes s.author 0 63 _ HS.out.author).mono ?_
  rintro e w' ⟨rfl, rfl⟩
  go_wp2_with fail
  refine (listsIn_any s.kind 1 3 _).mono ?_
  rw [hk1, Bool.and_false]
  rintro e w' ⟨rfl, rfl⟩
  go_wp2_with fail
  refine (listsIn_yes s.kind 10 31 _ (by rw [HS.out.kind]; decide)).mono ?_
  rintro e w' ⟨rfl, rfl⟩
  go_wp2_with fail
  refine (listsIn_yes s.time 0 2147483648 _ HS.out.time).mono ?_
  rintro e w' ⟨rfl, rfl⟩
  go_wp2_with fail
  refine (listsIn_yes s.number 0 199 _ HS.out.number).mono ?_
  rintro e w' ⟨rfl, rfl⟩
  go_wp2_with fail
  refine (valueP_any s.a _ (by have := HS.out.a; omega)).mono ?_
  rintro e w' ⟨rfl, rfl⟩
  go_wp2_with fail
  refine (valueP_any s.b _ (by have := HS.out.b; omega)).mono ?_
  rintro e w' ⟨rfl, rfl⟩
  go_wp2_with fail
  refine (valueP_any 0 _ (by omega)).mono ?_
  rintro e w' ⟨rfl, rfl⟩
  go_wp2_with fail
  refine (meantOther_any { s with c := 0, body := ⟨#[]⟩ } lo po 0 lc 0 pc w0 HS.out.kind).mono ?_
  rintro e w1 ⟨rfl, hex⟩
  have HE1 := Lib.hid hex
  clear hex d0 d1 d2 d3 d4 d5 d6 d7 d8 d9 d10 d11 d12
  obtain ⟨d0, d1, d2, d3, d4, d5, d6, d7, d8, d9, d10, d11, d12⟩ := HQ.out _ HE1.out
  go_wp2_with fail
  refine (containsNone_any _ _ _ _).mono ?_
  rintro e w' ⟨rfl, rfl⟩
  rcases HS.out.prev with ⟨p1, p2⟩ | ⟨p1, p2⟩
  · have p1d : (s.number == 0) = true := by simp [p1]
    have p2c : s.prev.toList = [] := by rw [p2]; first | decide | simp | (simp [ByteArray.toList, ByteArray.toList.loop]) | (unfold ByteArray.toList; unfold ByteArray.toList.loop; rfl)
    have p3d : decide (0 < s.number) = false := decide_eq_false (by omega)
    clear p1 p2
    go_wp2_with fail
    refine (pinnedNone_any _ _ _).mono ?_
    rintro e w' ⟨rfl, rfl⟩
    go_wp2_with fail
    go_ret
    exact ⟨rfl, HE0.out.trans HE1.out HE0.out.size (by simp)⟩
  · have p1d : (s.number == 0) = false := by simp; omega
    have p3d : decide (0 < s.number) = true := decide_eq_true p1
    have p4 : ((s.prev.size : Int) != 32) = false := by rw [p2]; rfl
    clear p1
    go_wp2_with fail
    refine (pinnedNone_any _ _ _).mono ?_
    rintro e w' ⟨rfl, rfl⟩
    go_wp2_with fail
    go_ret
    exact ⟨rfl, HE0.out.trans HE1.out HE0.out.size (by simp)⟩
end Go.Proofs.Ytfllcohnfboccaa
