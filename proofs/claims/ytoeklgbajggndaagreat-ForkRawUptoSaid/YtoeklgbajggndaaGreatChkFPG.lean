/- fork.Check: a contract. No statement of the seat. -/
import Derived.Test.YtoeklgbajggndaaGreatMg13
import Derived.Test.YtoeklgbajggndaaGreatMg09
import Derived.Deep.RegionHeld3
import Derived.Deep.MidRow
import Derived.BigQuiet
namespace Go.Proofs.YtoeklgbajggndaaGreat
open Go.RowKit Go.Sort
attribute [local go_sem ↓] rowStore_st rowLoad_st

theorem Tryz.idxF0 (a0 a1 a2 a3 a4 a5 a6 a7 a8 a9 a10 a11 a12 a13 a14 a15 a16 a17 a18 a19 a20 a21 a22 a23 a24 a25 : Value) (w : World) : (Instr.index 74 (.agg #[a0, a1, a2, a3, a4, a5, a6, a7, a8, a9, a10, a11, a12, a13, a14, a15, a16, a17, a18, a19, a20, a21, a22, a23, a24, a25]) (.int .i64 0)).run Tryz.prog w = .ok (.agg #[a0, a1, a2, a3, a4, a5, a6, a7, a8, a9, a10, a11, a12]) w := by kernel_rfl
theorem Tryz.idxF1 (a0 a1 a2 a3 a4 a5 a6 a7 a8 a9 a10 a11 a12 a13 a14 a15 a16 a17 a18 a19 a20 a21 a22 a23 a24 a25 : Value) (w : World) : (Instr.index 74 (.agg #[a0, a1, a2, a3, a4, a5, a6, a7, a8, a9, a10, a11, a12, a13, a14, a15, a16, a17, a18, a19, a20, a21, a22, a23, a24, a25]) (.int .i64 1)).run Tryz.prog w = .ok (.agg #[a13, a14, a15, a16, a17, a18, a19, a20, a21, a22, a23, a24, a25]) w := by kernel_rfl
set_option maxHeartbeats 16000000 in
set_option maxRecDepth 100000 in
theorem checkFP_any {P : Nat → Prop} (s t : St) (lo po : Option Addr) (ln lc pn pc : Nat) (lb pb : Option Addr) (nb cb mp cq : Nat) (w : World) (hs : Lies P w (s, ⟨lo, ln, lc⟩, ⟨po, pn, pc⟩)) (ht : Lies P w (t, ⟨lb, nb, cb⟩, ⟨pb, mp, cq⟩)) (hts : Tame s) (htt : Tame t) :
    Calls Tryz.prog 15 #[.agg #[.int .i64 s.author, .int .i64 s.number, .string s.prev, .int .i64 s.time, .int .i64 s.kind, .int .i64 s.a, .int .i64 s.b, .int .i64 s.c, .slice lo ln lc, .slice po pn pc, .string s.body, .int .i64 s.key, .string s.dig, .int .i64 t.author, .int .i64 t.number, .string t.prev, .int .i64 t.time, .int .i64 t.kind, .int .i64 t.a, .int .i64 t.b, .int .i64 t.c, .slice lb nb cb, .slice pb mp cq, .string t.body, .int .i64 t.key, .string t.dig]] w fun e w' => e = .returned (.int .i64 (forkCheckI s t)) ∧ Ex w.heap.size none w w' := by
  obtain ⟨w0, hw0⟩ : ∃ w0 : World, w0 = w.alloc (.cells #[.int .i64 s.author, .int .i64 s.number, .string s.prev, .int .i64 s.time, .int .i64 s.kind, .int .i64 s.a, .int .i64 s.b, .int .i64 s.c, .slice lo ln lc, .slice po pn pc, .string s.body, .int .i64 s.key, .string s.dig, .int .i64 t.author, .int .i64 t.number, .string t.prev, .int .i64 t.time, .int .i64 t.kind, .int .i64 t.a, .int .i64 t.b, .int .i64 t.c, .slice lb nb cb, .slice pb mp cq, .string t.body, .int .i64 t.key, .string t.dig] 29) := ⟨_, rfl⟩
  have hz0 : w.heap.size < w0.heap.size := by rw [hw0]; simp
  have HE0 : Hid (Ex w.heap.size none w w0) := by rw [hw0]; exact Ex.new w _
  have HB0 : Hid (w0.heap[w.heap.size]? = some (.cells #[.int .i64 s.author, .int .i64 s.number, .string s.prev, .int .i64 s.time, .int .i64 s.kind, .int .i64 s.a, .int .i64 s.b, .int .i64 s.c, .slice lo ln lc, .slice po pn pc, .string s.body, .int .i64 s.key, .string s.dig, .int .i64 t.author, .int .i64 t.number, .string t.prev, .int .i64 t.time, .int .i64 t.kind, .int .i64 t.a, .int .i64 t.b, .int .i64 t.c, .slice lb nb cb, .slice pb mp cq, .string t.body, .int .i64 t.key, .string t.dig] 29 (0, 0))) := Lib.hid (by rw [hw0]; exact heap_alloc_new w _)
  have HL1 : Hid (∀ w', Ex w0.heap.size none w0 w' → (rowLoad 27 ⟨w.heap.size, 0, none⟩).run Tryz.prog w' = .ok (.agg #[.int .i64 s.author, .int .i64 s.number, .string s.prev, .int .i64 s.time, .int .i64 s.kind, .int .i64 s.a, .int .i64 s.b, .int .i64 s.c, .slice lo ln lc, .slice po pn pc, .string s.body, .int .i64 s.key, .string s.dig]) w' ∧ (rowLoad 27 ⟨w.heap.size, 13, none⟩).run Tryz.prog w' = .ok (.agg #[.int .i64 t.author, .int .i64 t.number, .string t.prev, .int .i64 t.time, .int .i64 t.kind, .int .i64 t.a, .int .i64 t.b, .int .i64 t.c, .slice lb nb cb, .slice pb mp cq, .string t.body, .int .i64 t.key, .string t.dig]) w') := Lib.hid (fun w' h => by
    have hb := (h.block w.heap.size hz0 (by simp)).trans HB0.out
    have r1 : w'.rangeAt w.heap.size 0 [.int .i64 s.author, .int .i64 s.number, .string s.prev, .int .i64 s.time, .int .i64 s.kind, .int .i64 s.a, .int .i64 s.b, .int .i64 s.c, .slice lo ln lc, .slice po pn pc, .string s.body, .int .i64 s.key, .string s.dig] := fun j v hv => by
      rw [cell_of_row _ _ _ _ _ _ hb]
      match j, hv with
      | 0, hv | 1, hv | 2, hv | 3, hv | 4, hv | 5, hv | 6, hv | 7, hv | 8, hv | 9, hv | 10, hv | 11, hv | 12, hv => exact hv
      | j + 13, hv => exact absurd (List.getElem?_eq_some_iff.1 hv).1 (by simp)
    have r2 : w'.rangeAt w.heap.size 13 [.int .i64 t.author, .int .i64 t.number, .string t.prev, .int .i64 t.time, .int .i64 t.kind, .int .i64 t.a, .int .i64 t.b, .int .i64 t.c, .slice lb nb cb, .slice pb mp cq, .string t.body, .int .i64 t.key, .string t.dig] := fun j v hv => by
      rw [cell_of_row _ _ _ _ _ _ hb]
      match j, hv with
      | 0, hv | 1, hv | 2, hv | 3, hv | 4, hv | 5, hv | 6, hv | 7, hv | 8, hv | 9, hv | 10, hv | 11, hv | 12, hv => exact hv
      | j + 13, hv => exact absurd (List.getElem?_eq_some_iff.1 hv).1 (by simp)
    exact ⟨run_loadVar_mid w' w.heap.size 0 27 [.int .i64 s.author, .int .i64 s.number, .string s.prev, .int .i64 s.time, .int .i64 s.kind, .int .i64 s.a, .int .i64 s.b, .int .i64 s.c, .slice lo ln lc, .slice po pn pc, .string s.body, .int .i64 s.key, .string s.dig] _ r1 Tryz.underlying27 rfl Tryz.sizeStm, run_loadVar_mid w' w.heap.size 13 27 [.int .i64 t.author, .int .i64 t.number, .string t.prev, .int .i64 t.time, .int .i64 t.kind, .int .i64 t.a, .int .i64 t.b, .int .i64 t.c, .slice lb nb cb, .slice pb mp cq, .string t.body, .int .i64 t.key, .string t.dig] _ r2 Tryz.underlying27 rfl Tryz.sizeStm⟩)
  obtain ⟨l1, l2⟩ := HL1.out _ (Ex.refl _ _ _)
  obtain ⟨W2, hW2⟩ : ∃ W2 : World, W2 = ((w0.alloc (.cells #[.int .i64 0, .int .i64 0, .string ⟨#[]⟩, .int .i64 0, .int .i64 0, .int .i64 0, .int .i64 0, .int .i64 0, .slice none 0 0, .slice none 0 0, .string ⟨#[]⟩, .int .i64 0, .string ⟨#[]⟩] 27)).alloc (.cells #[.int .i64 0, .int .i64 0, .string ⟨#[]⟩, .int .i64 0, .int .i64 0, .int .i64 0, .int .i64 0, .int .i64 0, .slice none 0 0, .slice none 0 0, .string ⟨#[]⟩, .int .i64 0, .string ⟨#[]⟩] 27)).drew := ⟨_, rfl⟩
  have hx2 : Ex w0.heap.size none w0 W2 := by rw [hW2]; exact (((Ex.new w0 _).trans (Ex.new _ _) (by simp) (by simp)).drew)
  have hzw2 : W2.heap.size = w0.heap.size + 2 := by rw [hW2]; simp
  have hn0 : W2.heap[w0.heap.size]? = some (.cells #[.int .i64 0, .int .i64 0, .string ⟨#[]⟩, .int .i64 0, .int .i64 0, .int .i64 0, .int .i64 0, .int .i64 0, .slice none 0 0, .slice none 0 0, .string ⟨#[]⟩, .int .i64 0, .string ⟨#[]⟩] 27 (0, 0)) := by rw [hW2]; exact ((Ex.new (w0.alloc (.cells #[.int .i64 0, .int .i64 0, .string ⟨#[]⟩, .int .i64 0, .int .i64 0, .int .i64 0, .int .i64 0, .int .i64 0, .slice none 0 0, .slice none 0 0, .string ⟨#[]⟩, .int .i64 0, .string ⟨#[]⟩] 27)) (.cells #[.int .i64 0, .int .i64 0, .string ⟨#[]⟩, .int .i64 0, .int .i64 0, .int .i64 0, .int .i64 0, .int .i64 0, .slice none 0 0, .slice none 0 0, .string ⟨#[]⟩, .int .i64 0, .string ⟨#[]⟩] 27)).drew.block w0.heap.size (by simp) (by simp)).trans (heap_alloc_new w0 _)
  have hn1 : W2.heap[w0.heap.size + 1]? = some (.cells #[.int .i64 0, .int .i64 0, .string ⟨#[]⟩, .int .i64 0, .int .i64 0, .int .i64 0, .int .i64 0, .int .i64 0, .slice none 0 0, .slice none 0 0, .string ⟨#[]⟩, .int .i64 0, .string ⟨#[]⟩] 27 (0, 0)) := by rw [hW2]; have := heap_alloc_new (w0.alloc (.cells #[.int .i64 0, .int .i64 0, .string ⟨#[]⟩, .int .i64 0, .int .i64 0, .int .i64 0, .int .i64 0, .int .i64 0, .slice none 0 0, .slice none 0 0, .string ⟨#[]⟩, .int .i64 0, .string ⟨#[]⟩] 27)) (.cells #[.int .i64 0, .int .i64 0, .string ⟨#[]⟩, .int .i64 0, .int .i64 0, .int .i64 0, .int .i64 0, .int .i64 0, .slice none 0 0, .slice none 0 0, .string ⟨#[]⟩, .int .i64 0, .string ⟨#[]⟩] 27); rw [World.size_alloc] at this; exact this
  have one1 : (#[.int .i64 s.author, .int .i64 s.number, .string s.prev, .int .i64 s.time, .int .i64 s.kind, .int .i64 s.a, .int .i64 s.b, .int .i64 s.c, .slice lo ln lc, .slice po pn pc, .string s.body, .int .i64 s.key, .string s.dig] : Array Value).all (·.oneCell') = true := by simp [Value.oneCell']
  have one2 : (#[.int .i64 t.author, .int .i64 t.number, .string t.prev, .int .i64 t.time, .int .i64 t.kind, .int .i64 t.a, .int .i64 t.b, .int .i64 t.c, .slice lb nb cb, .slice pb mp cq, .string t.body, .int .i64 t.key, .string t.dig] : Array Value).all (·.oneCell') = true := by simp [Value.oneCell']
  -- the first way: s lies ahead
  have hA0 := run_rowStore (P := Tryz.prog) W2 w0.heap.size 27 27 #[.int .i64 0, .int .i64 0, .string ⟨#[]⟩, .int .i64 0, .int .i64 0, .int .i64 0, .int .i64 0, .int .i64 0, .slice none 0 0, .slice none 0 0, .string ⟨#[]⟩, .int .i64 0, .string ⟨#[]⟩] #[.int .i64 s.author, .int .i64 s.number, .string s.prev, .int .i64 s.time, .int .i64 s.kind, .int .i64 s.a, .int .i64 s.b, .int .i64 s.c, .slice lo ln lc, .slice po pn pc, .string s.body, .int .i64 s.key, .string s.dig] hn0 Tryz.sizeStm rfl one1
  obtain ⟨wA0, hwA0⟩ : ∃ wA0, wA0 = W2.setRow w0.heap.size #[.int .i64 s.author, .int .i64 s.number, .string s.prev, .int .i64 s.time, .int .i64 s.kind, .int .i64 s.a, .int .i64 s.b, .int .i64 s.c, .slice lo ln lc, .slice po pn pc, .string s.body, .int .i64 s.key, .string s.dig] := ⟨_, rfl⟩
  rw [← hwA0] at hA0
  have hxA0 : Ex W2.heap.size (some w0.heap.size) W2 wA0 := by rw [hwA0]; exact (Ex.refl _ _ _).setRow _ _ (.inl rfl)
  have hrA0 : wA0.heap[w0.heap.size]? = some (.cells #[.int .i64 s.author, .int .i64 s.number, .string s.prev, .int .i64 s.time, .int .i64 s.kind, .int .i64 s.a, .int .i64 s.b, .int .i64 s.c, .slice lo ln lc, .slice po pn pc, .string s.body, .int .i64 s.key, .string s.dig] 27 (0, 0)) := by rw [hwA0]; exact setRow_heap _ _ _ _ _ _ hn0
  have hB0 := run_rowStore (P := Tryz.prog) wA0 (w0.heap.size + 1) 27 27 #[.int .i64 0, .int .i64 0, .string ⟨#[]⟩, .int .i64 0, .int .i64 0, .int .i64 0, .int .i64 0, .int .i64 0, .slice none 0 0, .slice none 0 0, .string ⟨#[]⟩, .int .i64 0, .string ⟨#[]⟩] #[.int .i64 t.author, .int .i64 t.number, .string t.prev, .int .i64 t.time, .int .i64 t.kind, .int .i64 t.a, .int .i64 t.b, .int .i64 t.c, .slice lb nb cb, .slice pb mp cq, .string t.body, .int .i64 t.key, .string t.dig] ((hxA0.block _ (by omega) (by intro e; have := Option.some.inj e; omega)).trans hn1) Tryz.sizeStm rfl one2
  obtain ⟨wB0, hwB0⟩ : ∃ wB0, wB0 = wA0.setRow (w0.heap.size + 1) #[.int .i64 t.author, .int .i64 t.number, .string t.prev, .int .i64 t.time, .int .i64 t.kind, .int .i64 t.a, .int .i64 t.b, .int .i64 t.c, .slice lb nb cb, .slice pb mp cq, .string t.body, .int .i64 t.key, .string t.dig] := ⟨_, rfl⟩
  rw [← hwB0] at hB0
  have hxB0 : Ex wA0.heap.size (some (w0.heap.size + 1)) wA0 wB0 := by rw [hwB0]; exact (Ex.refl _ _ _).setRow _ _ (.inl rfl)
  have hzA0 := hxA0.size
  have HAB0 : Hid (wB0.heap[w0.heap.size]? = some (.cells #[.int .i64 s.author, .int .i64 s.number, .string s.prev, .int .i64 s.time, .int .i64 s.kind, .int .i64 s.a, .int .i64 s.b, .int .i64 s.c, .slice lo ln lc, .slice po pn pc, .string s.body, .int .i64 s.key, .string s.dig] 27 (0, 0)) ∧ wB0.heap[w0.heap.size + 1]? = some (.cells #[.int .i64 t.author, .int .i64 t.number, .string t.prev, .int .i64 t.time, .int .i64 t.kind, .int .i64 t.a, .int .i64 t.b, .int .i64 t.c, .slice lb nb cb, .slice pb mp cq, .string t.body, .int .i64 t.key, .string t.dig] 27 (0, 0)) ∧ Ex w0.heap.size none w0 wB0 ∧ w0.heap.size + 2 ≤ wB0.heap.size) := Lib.hid ⟨(hxB0.block _ (by omega) (by intro e; have := Option.some.inj e; omega)).trans hrA0, by rw [hwB0]; exact setRow_heap _ _ _ _ _ _ ((hxA0.block _ (by omega) (by intro e; have := Option.some.inj e; omega)).trans hn1), by rw [hwB0, hwA0]; exact (hx2.setRow _ _ (.inr (Nat.le_refl _))).setRow _ _ (.inr (by omega)), by have := hxB0.size; omega⟩
  have HKA0 : Hid (Ex w0.heap.size none w0 wA0) := Lib.hid (by rw [hwA0]; exact hx2.setRow _ _ (.inr (Nat.le_refl _)))
  -- the other way
  have hA1 := run_rowStore (P := Tryz.prog) W2 (w0.heap.size + 1) 27 27 #[.int .i64 0, .int .i64 0, .string ⟨#[]⟩, .int .i64 0, .int .i64 0, .int .i64 0, .int .i64 0, .int .i64 0, .slice none 0 0, .slice none 0 0, .string ⟨#[]⟩, .int .i64 0, .string ⟨#[]⟩] #[.int .i64 s.author, .int .i64 s.number, .string s.prev, .int .i64 s.time, .int .i64 s.kind, .int .i64 s.a, .int .i64 s.b, .int .i64 s.c, .slice lo ln lc, .slice po pn pc, .string s.body, .int .i64 s.key, .string s.dig] hn1 Tryz.sizeStm rfl one1
  obtain ⟨wA1, hwA1⟩ : ∃ wA1, wA1 = W2.setRow (w0.heap.size + 1) #[.int .i64 s.author, .int .i64 s.number, .string s.prev, .int .i64 s.time, .int .i64 s.kind, .int .i64 s.a, .int .i64 s.b, .int .i64 s.c, .slice lo ln lc, .slice po pn pc, .string s.body, .int .i64 s.key, .string s.dig] := ⟨_, rfl⟩
  rw [← hwA1] at hA1
  have hxA1 : Ex W2.heap.size (some (w0.heap.size + 1)) W2 wA1 := by rw [hwA1]; exact (Ex.refl _ _ _).setRow _ _ (.inl rfl)
  have hrA1 : wA1.heap[w0.heap.size + 1]? = some (.cells #[.int .i64 s.author, .int .i64 s.number, .string s.prev, .int .i64 s.time, .int .i64 s.kind, .int .i64 s.a, .int .i64 s.b, .int .i64 s.c, .slice lo ln lc, .slice po pn pc, .string s.body, .int .i64 s.key, .string s.dig] 27 (0, 0)) := by rw [hwA1]; exact setRow_heap _ _ _ _ _ _ hn1
  have hB1 := run_rowStore (P := Tryz.prog) wA1 w0.heap.size 27 27 #[.int .i64 0, .int .i64 0, .string ⟨#[]⟩, .int .i64 0, .int .i64 0, .int .i64 0, .int .i64 0, .int .i64 0, .slice none 0 0, .slice none 0 0, .string ⟨#[]⟩, .int .i64 0, .string ⟨#[]⟩] #[.int .i64 t.author, .int .i64 t.number, .string t.prev, .int .i64 t.time, .int .i64 t.kind, .int .i64 t.a, .int .i64 t.b, .int .i64 t.c, .slice lb nb cb, .slice pb mp cq, .string t.body, .int .i64 t.key, .string t.dig] ((hxA1.block _ (by omega) (by intro e; have := Option.some.inj e; omega)).trans hn0) Tryz.sizeStm rfl one2
  obtain ⟨wB1, hwB1⟩ : ∃ wB1, wB1 = wA1.setRow w0.heap.size #[.int .i64 t.author, .int .i64 t.number, .string t.prev, .int .i64 t.time, .int .i64 t.kind, .int .i64 t.a, .int .i64 t.b, .int .i64 t.c, .slice lb nb cb, .slice pb mp cq, .string t.body, .int .i64 t.key, .string t.dig] := ⟨_, rfl⟩
  rw [← hwB1] at hB1
  have hxB1 : Ex wA1.heap.size (some w0.heap.size) wA1 wB1 := by rw [hwB1]; exact (Ex.refl _ _ _).setRow _ _ (.inl rfl)
  have hzA1 := hxA1.size
  have HAB1 : Hid (wB1.heap[w0.heap.size + 1]? = some (.cells #[.int .i64 s.author, .int .i64 s.number, .string s.prev, .int .i64 s.time, .int .i64 s.kind, .int .i64 s.a, .int .i64 s.b, .int .i64 s.c, .slice lo ln lc, .slice po pn pc, .string s.body, .int .i64 s.key, .string s.dig] 27 (0, 0)) ∧ wB1.heap[w0.heap.size]? = some (.cells #[.int .i64 t.author, .int .i64 t.number, .string t.prev, .int .i64 t.time, .int .i64 t.kind, .int .i64 t.a, .int .i64 t.b, .int .i64 t.c, .slice lb nb cb, .slice pb mp cq, .string t.body, .int .i64 t.key, .string t.dig] 27 (0, 0)) ∧ Ex w0.heap.size none w0 wB1 ∧ w0.heap.size + 2 ≤ wB1.heap.size) := Lib.hid ⟨(hxB1.block _ (by omega) (by intro e; have := Option.some.inj e; omega)).trans hrA1, by rw [hwB1]; exact setRow_heap _ _ _ _ _ _ ((hxA1.block _ (by omega) (by intro e; have := Option.some.inj e; omega)).trans hn0), by rw [hwB1, hwA1]; exact (hx2.setRow _ _ (.inr (by omega))).setRow _ _ (.inr (Nat.le_refl _)), by have := hxB1.size; omega⟩
  have HKA1 : Hid (Ex w0.heap.size none w0 wA1) := Lib.hid (by rw [hwA1]; exact hx2.setRow _ _ (.inr (by omega)))
  rw [hW2] at hA0 hA1
  clear hW2 hx2 hzw2 hn0 hn1 one1 one2 hwA0 hxA0 hrA0 hwB0 hxB0 hzA0 hwA1 hxA1 hrA1 hwB1 hxB1 hzA1
  have HLS := Lib.hid hs
  have HLT := Lib.hid ht
  have HTS := Lib.hid hts
  have HTT := Lib.hid htt
  clear hs ht hts htt
  go_enter Tryz.func15, Tryz.ntmps15
  go_upto_region 1 with (fail)
  rw [← hw0]
  clear hw0
  go_region_held3 (fun w' => (rowLoad 27 ⟨w.heap.size, 0, none⟩).run Tryz.prog w' = .ok (.agg #[.int .i64 s.author, .int .i64 s.number, .string s.prev, .int .i64 s.time, .int .i64 s.kind, .int .i64 s.a, .int .i64 s.b, .int .i64 s.c, .slice lo ln lc, .slice po pn pc, .string s.body, .int .i64 s.key, .string s.dig]) w' ∧ (rowLoad 27 ⟨w.heap.size, 13, none⟩).run Tryz.prog w' = .ok (.agg #[.int .i64 t.author, .int .i64 t.number, .string t.prev, .int .i64 t.time, .int .i64 t.kind, .int .i64 t.a, .int .i64 t.b, .int .i64 t.c, .slice lb nb cb, .slice pb mp cq, .string t.body, .int .i64 t.key, .string t.dig]) w')
    (first | exact HL1.out _ (Ex.refl _ _ _) | exact HL1.out _ (Ex.drew (Ex.refl _ _ _)) | exact HL1.out _ HKA0.out | exact HL1.out _ HKA1.out | exact HL1.out _ HAB0.out.2.2.1 | exact HL1.out _ HAB1.out.2.2.1 | exact HL1.out _ (by repeat (first | exact Ex.refl _ _ _ | refine Ex.drew ?_ | refine Ex.alloc ?_ (by first | omega | (simp; done) | (simp; omega)) _)))
    (fail)
  · obtain ⟨ha, hb, hx, hz⟩ := HAB0.out
    obtain ⟨A, hA⟩ : ∃ A, A = w0.heap.size := ⟨_, rfl⟩
    obtain ⟨B, hB⟩ : ∃ B, B = w0.heap.size + 1 := ⟨_, rfl⟩
    rw [← hA] at ha
    rw [← hB] at hb
    rw [← hB, ← hA]
    have hAl : A < wB0.heap.size := by omega
    have hBl : B < wB0.heap.size := by omega
    have HX1 := Lib.hid hx
    have HAX := Lib.hid ha
    have HBX := Lib.hid hb
    clear hA hB ha hb hx l1 l2 hA0 hB0 hA1 hB1 HAB0 HAB1 HKA0 HKA1
    have HLD : Hid (∀ w', Ex wB0.heap.size none wB0 w' → (rowLoad 27 ⟨A, 0, none⟩).run Tryz.prog w' = .ok (.agg #[.int .i64 s.author, .int .i64 s.number, .string s.prev, .int .i64 s.time, .int .i64 s.kind, .int .i64 s.a, .int .i64 s.b, .int .i64 s.c, .slice lo ln lc, .slice po pn pc, .string s.body, .int .i64 s.key, .string s.dig]) w' ∧ (rowLoad 27 ⟨B, 0, none⟩).run Tryz.prog w' = .ok (.agg #[.int .i64 t.author, .int .i64 t.number, .string t.prev, .int .i64 t.time, .int .i64 t.kind, .int .i64 t.a, .int .i64 t.b, .int .i64 t.c, .slice lb nb cb, .slice pb mp cq, .string t.body, .int .i64 t.key, .string t.dig]) w') := Lib.hid (fun w' h => ⟨run_rowLoad w' A 27 27 #[.int .i64 s.author, .int .i64 s.number, .string s.prev, .int .i64 s.time, .int .i64 s.kind, .int .i64 s.a, .int .i64 s.b, .int .i64 s.c, .slice lo ln lc, .slice po pn pc, .string s.body, .int .i64 s.key, .string s.dig] (0, 0) _ ((h.block A hAl (by simp)).trans HAX.out) Tryz.underlying27 rfl Tryz.sizeStm, run_rowLoad w' B 27 27 #[.int .i64 t.author, .int .i64 t.number, .string t.prev, .int .i64 t.time, .int .i64 t.kind, .int .i64 t.a, .int .i64 t.b, .int .i64 t.c, .slice lb nb cb, .slice pb mp cq, .string t.body, .int .i64 t.key, .string t.dig] (0, 0) _ ((h.block B hBl (by simp)).trans HBX.out) Tryz.underlying27 rfl Tryz.sizeStm⟩)
    have HLL : Hid (∀ w', Ex wB0.heap.size none wB0 w' → Lies P w' (s, ⟨lo, ln, lc⟩, ⟨po, pn, pc⟩) ∧ Lies P w' (t, ⟨lb, nb, cb⟩, ⟨pb, mp, cq⟩)) := Lib.hid (fun w' h => by
      have hk : ∀ b, b < w.heap.size → w'.heap[b]? = w.heap[b]? := fun b hb => (h.block b (by omega) (by simp)).trans ((HX1.out.block b (by omega) (by simp)).trans (HE0.out.block b hb (by simp)))
      exact ⟨HLS.out.keep fun b _ hb => hk b hb, HLT.out.keep fun b _ hb => hk b hb⟩)
    obtain ⟨q, hq⟩ : ∃ q, q = checkI s := ⟨_, rfl⟩
    obtain ⟨r, hr⟩ : ∃ r, r = checkI t := ⟨_, rfl⟩
    have HSZ1 : Hid (ln ≤ 9223372036854775807 ∧ pn ≤ 9223372036854775807) := Lib.hid (by
      have h1 := HTS.out.list
      have h2 := HTS.out.pins
      obtain ⟨⟨_, _, e1, _⟩, ⟨_, _, e2, _⟩⟩ := HLS.out
      simp only [Sv.v, Value.slice.injEq] at e1 e2
      omega)
    have HSZ2 : Hid (nb ≤ 9223372036854775807 ∧ mp ≤ 9223372036854775807) := Lib.hid (by
      have h1 := HTT.out.list
      have h2 := HTT.out.pins
      obtain ⟨⟨_, _, e1, _⟩, ⟨_, _, e2, _⟩⟩ := HLT.out
      simp only [Sv.v, Value.slice.injEq] at e1 e2
      omega)
    have HC1 : Hid (∀ w', Ex wB0.heap.size none wB0 w' → Calls Tryz.prog 26 #[.agg #[.int .i64 s.author, .int .i64 s.number, .string s.prev, .int .i64 s.time, .int .i64 s.kind, .int .i64 s.a, .int .i64 s.b, .int .i64 s.c, .slice lo ln lc, .slice po pn pc, .string s.body, .int .i64 s.key, .string s.dig]] w' fun e w'' => e = .returned (.int .i64 q) ∧ Ex w'.heap.size none w' w'') := Lib.hid (fun w' h => by rw [hq]; exact checkP_any s lo po ln lc pn pc w' (HLL.out w' h).1 HSZ1.out)
    have HC2 : Hid (∀ w', Ex wB0.heap.size none wB0 w' → Calls Tryz.prog 26 #[.agg #[.int .i64 t.author, .int .i64 t.number, .string t.prev, .int .i64 t.time, .int .i64 t.kind, .int .i64 t.a, .int .i64 t.b, .int .i64 t.c, .slice lb nb cb, .slice pb mp cq, .string t.body, .int .i64 t.key, .string t.dig]] w' fun e w'' => e = .returned (.int .i64 r) ∧ Ex w'.heap.size none w' w'') := Lib.hid (fun w' h => by rw [hr]; exact checkP_any t lb pb nb cb mp cq w' (HLL.out w' h).2 HSZ2.out)
    have HS1 : Hid (∀ b w', sealedB s = b → Ex wB0.heap.size none wB0 w' → Calls Tryz.prog 27 #[.agg #[.int .i64 s.author, .int .i64 s.number, .string s.prev, .int .i64 s.time, .int .i64 s.kind, .int .i64 s.a, .int .i64 s.b, .int .i64 s.c, .slice lo ln lc, .slice po pn pc, .string s.body, .int .i64 s.key, .string s.dig]] w' fun e w'' => e = .returned (.bool b) ∧ Ex w'.heap.size none w' w'') := Lib.hid (fun b w' hb h => asB (sealedP_any s lo po ln lc pn pc w' (HLL.out w' h).1 HTS.out) hb)
    have HS2 : Hid (∀ b w', sealedB t = b → Ex wB0.heap.size none wB0 w' → Calls Tryz.prog 27 #[.agg #[.int .i64 t.author, .int .i64 t.number, .string t.prev, .int .i64 t.time, .int .i64 t.kind, .int .i64 t.a, .int .i64 t.b, .int .i64 t.c, .slice lb nb cb, .slice pb mp cq, .string t.body, .int .i64 t.key, .string t.dig]] w' fun e w'' => e = .returned (.bool b) ∧ Ex w'.heap.size none w' w'') := Lib.hid (fun b w' hb h => asB (sealedP_any t lb pb nb cb mp cq w' (HLL.out w' h).2 HTT.out) hb)
    have HD1 : Hid (∀ w', sealedB s = true → Ex wB0.heap.size none wB0 w' → Calls Tryz.prog 43 #[.agg #[.int .i64 s.author, .int .i64 s.number, .string s.prev, .int .i64 s.time, .int .i64 s.kind, .int .i64 s.a, .int .i64 s.b, .int .i64 s.c, .slice lo ln lc, .slice po pn pc, .string s.body, .int .i64 s.key, .string s.dig]] w' fun e w'' => e = .returned (.string s.dig) ∧ Ex w'.heap.size none w' w'') := Lib.hid (fun w' hb h => by rw [sealed_dig hb]; have := digestP_any s lo po ln lc pn pc w' (HLL.out w' h).1 HTS.out; rwa [sealed_dig hb] at this)
    have HD2 : Hid (∀ w', sealedB t = true → Ex wB0.heap.size none wB0 w' → Calls Tryz.prog 43 #[.agg #[.int .i64 t.author, .int .i64 t.number, .string t.prev, .int .i64 t.time, .int .i64 t.kind, .int .i64 t.a, .int .i64 t.b, .int .i64 t.c, .slice lb nb cb, .slice pb mp cq, .string t.body, .int .i64 t.key, .string t.dig]] w' fun e w'' => e = .returned (.string t.dig) ∧ Ex w'.heap.size none w' w'') := Lib.hid (fun w' hb h => by rw [sealed_dig hb]; have := digestP_any t lb pb nb cb mp cq w' (HLL.out w' h).2 HTT.out; rwa [sealed_dig hb] at this)
    have HQ1 := Lib.hid hq
    have HQ2 := Lib.hid hr
    clear hq hr
    obtain ⟨l3, l4⟩ := HLD.out _ (Ex.refl _ _ _)
    go_wp2_with (fail)
    go_loopw [15] (fun i wr => ∃ k : Nat, k ≤ 2 ∧ i = .int .i64 k ∧ Hid (1 ≤ k → q = 0) ∧ Hid (2 ≤ k → r = 0) ∧ Hid (Ex wB0.heap.size none wB0 wr)) (fun i _ => 2 - (intOf i).toNat)
    case atStart => exact ⟨0, by omega, rfl, Lib.hid (fun h => by omega), Lib.hid (fun h => by omega), Lib.hid (Ex.refl _ _ _)⟩
    case round =>
      obtain ⟨k, hk, rfl, HK1, HK2, HXR⟩ := hrel
      have hzr : wB0.heap.size ≤ wr.heap.size := HXR.out.size
      clear l3 l4
      rcases (by omega : k = 0 ∨ k = 1 ∨ k = 2) with rfl | rfl | rfl
      · have ix := fun w => Tryz.idxF0 (.int .i64 s.author) (.int .i64 s.number) (.string s.prev) (.int .i64 s.time) (.int .i64 s.kind) (.int .i64 s.a) (.int .i64 s.b) (.int .i64 s.c) (.slice lo ln lc) (.slice po pn pc) (.string s.body) (.int .i64 s.key) (.string s.dig) (.int .i64 t.author) (.int .i64 t.number) (.string t.prev) (.int .i64 t.time) (.int .i64 t.kind) (.int .i64 t.a) (.int .i64 t.b) (.int .i64 t.c) (.slice lb nb cb) (.slice pb mp cq) (.string t.body) (.int .i64 t.key) (.string t.dig) w
        have hst := run_rowStore (P := Tryz.prog) (wr.alloc (.cells #[.int .i64 0, .int .i64 0, .string ⟨#[]⟩, .int .i64 0, .int .i64 0, .int .i64 0, .int .i64 0, .int .i64 0, .slice none 0 0, .slice none 0 0, .string ⟨#[]⟩, .int .i64 0, .string ⟨#[]⟩] 27)) wr.heap.size 27 27 #[.int .i64 0, .int .i64 0, .string ⟨#[]⟩, .int .i64 0, .int .i64 0, .int .i64 0, .int .i64 0, .int .i64 0, .slice none 0 0, .slice none 0 0, .string ⟨#[]⟩, .int .i64 0, .string ⟨#[]⟩] #[.int .i64 s.author, .int .i64 s.number, .string s.prev, .int .i64 s.time, .int .i64 s.kind, .int .i64 s.a, .int .i64 s.b, .int .i64 s.c, .slice lo ln lc, .slice po pn pc, .string s.body, .int .i64 s.key, .string s.dig] (heap_alloc_new wr _) Tryz.sizeStm rfl (by simp [Value.oneCell'])
        obtain ⟨wc, hwc⟩ : ∃ wc, wc = (wr.alloc (.cells #[.int .i64 0, .int .i64 0, .string ⟨#[]⟩, .int .i64 0, .int .i64 0, .int .i64 0, .int .i64 0, .int .i64 0, .slice none 0 0, .slice none 0 0, .string ⟨#[]⟩, .int .i64 0, .string ⟨#[]⟩] 27)).setRow wr.heap.size #[.int .i64 s.author, .int .i64 s.number, .string s.prev, .int .i64 s.time, .int .i64 s.kind, .int .i64 s.a, .int .i64 s.b, .int .i64 s.c, .slice lo ln lc, .slice po pn pc, .string s.body, .int .i64 s.key, .string s.dig] := ⟨_, rfl⟩
        rw [← hwc] at hst
        have HXC : Hid (Ex wr.heap.size none wr wc) := Lib.hid (by rw [hwc]; exact (Ex.new wr _).setRow _ _ (.inr (Nat.le_refl _)))
        have hld := run_rowLoad (P := Tryz.prog) wc wr.heap.size 27 27 #[.int .i64 s.author, .int .i64 s.number, .string s.prev, .int .i64 s.time, .int .i64 s.kind, .int .i64 s.a, .int .i64 s.b, .int .i64 s.c, .slice lo ln lc, .slice po pn pc, .string s.body, .int .i64 s.key, .string s.dig] (0, 0) _ (by rw [hwc]; exact setRow_heap _ _ _ _ _ _ (heap_alloc_new wr _)) Tryz.underlying27 rfl Tryz.sizeStm
        have HXD : Hid (Ex wB0.heap.size none wB0 wc) := Lib.hid (HXR.out.trans HXC.out hzr (by simp))
        clear hwc
        by_cases h0 : q = 0
        · have HV0 : Hid (q = 0) := Lib.hid h0
          have hb0 : (q == 0) = true := by simpa using h0
          clear h0
          go_wp2_with (first
            | (go_at_call 26
               refine (HC1.out _ HXD.out).mono ?_
               rintro e wd ⟨rfl, hex⟩
               have HXW : Hid (Ex wB0.heap.size none wB0 wd) := Lib.hid (HXD.out.trans hex HXD.out.size (by simp))
               clear hex hst hld)
            | fail)
          go_roundw
          case rel => exact ⟨0 + 1, by omega, by go_num, Lib.hid (fun _ => HV0.out), Lib.hid (fun h => by omega), HXW⟩
          case measure => simp [intOf] <;> omega
        · have hb0 : (q == 0) = false := by simpa using h0
          go_wp2_with (first
            | (go_at_call 26
               refine (HC1.out _ HXD.out).mono ?_
               rintro e wd ⟨rfl, hex⟩
               have HXW : Hid (Ex wB0.heap.size none wB0 wd) := Lib.hid (HXD.out.trans hex HXD.out.size (by simp))
               clear hex hst hld)
            | fail)
          go_ret
          exact ⟨by rw [fcI_1 (fun h => h0 (HQ1.out.trans h)), ← HQ1.out]; rfl, HE0.out.trans (HX1.out.trans HXW.out (by omega) (by simp)) (by omega) (by simp)⟩
      · have ix := fun w => Tryz.idxF1 (.int .i64 s.author) (.int .i64 s.number) (.string s.prev) (.int .i64 s.time) (.int .i64 s.kind) (.int .i64 s.a) (.int .i64 s.b) (.int .i64 s.c) (.slice lo ln lc) (.slice po pn pc) (.string s.body) (.int .i64 s.key) (.string s.dig) (.int .i64 t.author) (.int .i64 t.number) (.string t.prev) (.int .i64 t.time) (.int .i64 t.kind) (.int .i64 t.a) (.int .i64 t.b) (.int .i64 t.c) (.slice lb nb cb) (.slice pb mp cq) (.string t.body) (.int .i64 t.key) (.string t.dig) w
        have hst := run_rowStore (P := Tryz.prog) (wr.alloc (.cells #[.int .i64 0, .int .i64 0, .string ⟨#[]⟩, .int .i64 0, .int .i64 0, .int .i64 0, .int .i64 0, .int .i64 0, .slice none 0 0, .slice none 0 0, .string ⟨#[]⟩, .int .i64 0, .string ⟨#[]⟩] 27)) wr.heap.size 27 27 #[.int .i64 0, .int .i64 0, .string ⟨#[]⟩, .int .i64 0, .int .i64 0, .int .i64 0, .int .i64 0, .int .i64 0, .slice none 0 0, .slice none 0 0, .string ⟨#[]⟩, .int .i64 0, .string ⟨#[]⟩] #[.int .i64 t.author, .int .i64 t.number, .string t.prev, .int .i64 t.time, .int .i64 t.kind, .int .i64 t.a, .int .i64 t.b, .int .i64 t.c, .slice lb nb cb, .slice pb mp cq, .string t.body, .int .i64 t.key, .string t.dig] (heap_alloc_new wr _) Tryz.sizeStm rfl (by simp [Value.oneCell'])
        obtain ⟨wc, hwc⟩ : ∃ wc, wc = (wr.alloc (.cells #[.int .i64 0, .int .i64 0, .string ⟨#[]⟩, .int .i64 0, .int .i64 0, .int .i64 0, .int .i64 0, .int .i64 0, .slice none 0 0, .slice none 0 0, .string ⟨#[]⟩, .int .i64 0, .string ⟨#[]⟩] 27)).setRow wr.heap.size #[.int .i64 t.author, .int .i64 t.number, .string t.prev, .int .i64 t.time, .int .i64 t.kind, .int .i64 t.a, .int .i64 t.b, .int .i64 t.c, .slice lb nb cb, .slice pb mp cq, .string t.body, .int .i64 t.key, .string t.dig] := ⟨_, rfl⟩
        rw [← hwc] at hst
        have HXC : Hid (Ex wr.heap.size none wr wc) := Lib.hid (by rw [hwc]; exact (Ex.new wr _).setRow _ _ (.inr (Nat.le_refl _)))
        have hld := run_rowLoad (P := Tryz.prog) wc wr.heap.size 27 27 #[.int .i64 t.author, .int .i64 t.number, .string t.prev, .int .i64 t.time, .int .i64 t.kind, .int .i64 t.a, .int .i64 t.b, .int .i64 t.c, .slice lb nb cb, .slice pb mp cq, .string t.body, .int .i64 t.key, .string t.dig] (0, 0) _ (by rw [hwc]; exact setRow_heap _ _ _ _ _ _ (heap_alloc_new wr _)) Tryz.underlying27 rfl Tryz.sizeStm
        have HXD : Hid (Ex wB0.heap.size none wB0 wc) := Lib.hid (HXR.out.trans HXC.out hzr (by simp))
        clear hwc
        by_cases h0 : r = 0
        · have HV0 : Hid (r = 0) := Lib.hid h0
          have hb0 : (r == 0) = true := by simpa using h0
          clear h0
          go_wp2_with (first
            | (go_at_call 26
               refine (HC2.out _ HXD.out).mono ?_
               rintro e wd ⟨rfl, hex⟩
               have HXW : Hid (Ex wB0.heap.size none wB0 wd) := Lib.hid (HXD.out.trans hex HXD.out.size (by simp))
               clear hex hst hld)
            | fail)
          go_roundw
          case rel => exact ⟨1 + 1, by omega, by go_num, Lib.hid (fun _ => HK1.out (by omega)), Lib.hid (fun _ => HV0.out), HXW⟩
          case measure => simp [intOf] <;> omega
        · have hb0 : (r == 0) = false := by simpa using h0
          go_wp2_with (first
            | (go_at_call 26
               refine (HC2.out _ HXD.out).mono ?_
               rintro e wd ⟨rfl, hex⟩
               have HXW : Hid (Ex wB0.heap.size none wB0 wd) := Lib.hid (HXD.out.trans hex HXD.out.size (by simp))
               clear hex hst hld)
            | fail)
          go_ret
          exact ⟨by rw [fcI_2 (HQ1.out.symm.trans (HK1.out (by omega))) (fun h => h0 (HQ2.out.trans h)), ← HQ2.out]; rfl, HE0.out.trans (HX1.out.trans HXW.out (by omega) (by simp)) (by omega) (by simp)⟩
      · have HP1 : Hid (checkI s = 0) := Lib.hid (HQ1.out.symm.trans (HK1.out (by omega)))
        have HP2 : Hid (checkI t = 0) := Lib.hid (HQ2.out.symm.trans (HK2.out (by omega)))
        obtain ⟨l3, l4⟩ := HLD.out _ HXR.out
        cases hsa : sealedB s with
        | true =>
          have HSA := Lib.hid hsa
          clear hsa
          cases hsb : sealedB t with
          | true =>
            have HSB := Lib.hid hsb
            clear hsb
            by_cases ha : s.author = t.author
            · have ha' : (s.author == t.author) = true := by simpa using ha
              have ha2 : (s.author != t.author) = false := by rw [bne, ha']; rfl
              have HAA := Lib.hid ha
              clear ha
              by_cases hn : s.number = t.number
              · have hn' : (s.number == t.number) = true := by simpa using hn
                have hn2 : (s.number != t.number) = false := by rw [bne, hn']; rfl
                have HNN := Lib.hid hn
                clear hn
                cases hl : Op.bytesLess s.dig.toList t.dig.toList with
                | true =>
                  have HLE := Lib.hid hl
                  have HCE : Hid (∀ w', Ex wB0.heap.size none wB0 w' → (w'.cell? ⟨A, 0, none⟩ = some (.int .i64 s.author) ∧ w'.cell? ⟨B, 0, none⟩ = some (.int .i64 t.author) ∧ w'.cell? ⟨A, 1, none⟩ = some (.int .i64 s.number) ∧ w'.cell? ⟨B, 1, none⟩ = some (.int .i64 t.number)) ∧ (rowLoad 27 ⟨A, 0, none⟩).run Tryz.prog w' = .ok (.agg #[.int .i64 s.author, .int .i64 s.number, .string s.prev, .int .i64 s.time, .int .i64 s.kind, .int .i64 s.a, .int .i64 s.b, .int .i64 s.c, .slice lo ln lc, .slice po pn pc, .string s.body, .int .i64 s.key, .string s.dig]) w' ∧ (rowLoad 27 ⟨B, 0, none⟩).run Tryz.prog w' = .ok (.agg #[.int .i64 t.author, .int .i64 t.number, .string t.prev, .int .i64 t.time, .int .i64 t.kind, .int .i64 t.a, .int .i64 t.b, .int .i64 t.c, .slice lb nb cb, .slice pb mp cq, .string t.body, .int .i64 t.key, .string t.dig]) w') := Lib.hid (fun w' h => by
                    have h1 := (h.block A hAl (by simp)).trans HAX.out
                    have h2 := (h.block B hBl (by simp)).trans HBX.out
                    exact ⟨⟨cell_of_row _ _ 0 _ _ _ h1, cell_of_row _ _ 0 _ _ _ h2, cell_of_row _ _ 1 _ _ _ h1, cell_of_row _ _ 1 _ _ _ h2⟩, HLD.out w' h⟩)
                  go_upto_region 11 with (first
                    | (go_at_call 27
                       fail_if_success (first | have _x := HXE | fail)
                       refine (HS1.out true _ HSA.out HXR.out).mono ?_
                       rintro e we ⟨rfl, hex⟩
                       have HXE : Hid (Ex wB0.heap.size none wB0 we) := Lib.hid (HXR.out.trans hex hzr (by simp))
                       clear hex l3 l4
                       obtain ⟨l3, l4⟩ := HLD.out _ HXE.out)
                    | (go_at_call 27
                       fail_if_success (first | have _x := HXF | fail)
                       refine (HS2.out true _ HSB.out HXE.out).mono ?_
                       rintro e wf ⟨rfl, hex⟩
                       have HXF : Hid (Ex wB0.heap.size none wB0 wf) := Lib.hid (HXE.out.trans hex HXE.out.size (by simp))
                       have hzf : wB0.heap.size ≤ wf.heap.size := HXF.out.size
                       clear hex l3 l4)
                    | fail)
                  obtain ⟨⟨c0, c1, c2, c3⟩, l3, l4⟩ := HCE.out _ HXF.out
                  go_region_held3 (fun w' => (w'.cell? ⟨A, 0, none⟩ = some (.int .i64 s.author) ∧ w'.cell? ⟨B, 0, none⟩ = some (.int .i64 t.author) ∧ w'.cell? ⟨A, 1, none⟩ = some (.int .i64 s.number) ∧ w'.cell? ⟨B, 1, none⟩ = some (.int .i64 t.number)) ∧ (rowLoad 27 ⟨A, 0, none⟩).run Tryz.prog w' = .ok (.agg #[.int .i64 s.author, .int .i64 s.number, .string s.prev, .int .i64 s.time, .int .i64 s.kind, .int .i64 s.a, .int .i64 s.b, .int .i64 s.c, .slice lo ln lc, .slice po pn pc, .string s.body, .int .i64 s.key, .string s.dig]) w' ∧ (rowLoad 27 ⟨B, 0, none⟩).run Tryz.prog w' = .ok (.agg #[.int .i64 t.author, .int .i64 t.number, .string t.prev, .int .i64 t.time, .int .i64 t.kind, .int .i64 t.a, .int .i64 t.b, .int .i64 t.c, .slice lb nb cb, .slice pb mp cq, .string t.body, .int .i64 t.key, .string t.dig]) w')
                    (first | exact HCE.out _ HXH.out | exact HCE.out _ HXG.out | exact HCE.out _ HXF.out | exact HCE.out _ (Ex.drew HXF.out))
                    (first
                      | (go_at_call 43
                         fail_if_success (first | have _x := HXG | fail)
                         refine (HD1.out _ HSA.out (by repeat (first | exact HXF.out | refine Ex.drew ?_))).mono ?_
                         rintro e wg ⟨rfl, hex⟩
                         have HXG : Hid (Ex wB0.heap.size none wB0 wg) := Lib.hid ((by repeat (first | exact HXF.out | refine Ex.drew ?_) : Ex wB0.heap.size none wB0 _).trans hex (by first | omega | (simp; done) | (simp; omega)) (by simp))
                         have hzg : wB0.heap.size ≤ wg.heap.size := HXG.out.size
                         clear hex)
                      | (go_at_call 43
                         refine (HD2.out _ HSB.out (by repeat (first | exact HXG.out | refine Ex.drew ?_))).mono ?_
                         rintro e wh ⟨rfl, hex⟩
                         have HXH : Hid (Ex wB0.heap.size none wB0 wh) := Lib.hid ((by repeat (first | exact HXG.out | refine Ex.drew ?_) : Ex wB0.heap.size none wB0 _).trans hex (by first | omega | (simp; done) | (simp; omega)) (by simp))
                         clear hex)
                      | fail)
                  go_wp2
                  go_ret
                  exact ⟨by rw [fcI_5 HP1.out HP2.out HSA.out HSB.out HAA.out HNN.out HLE.out]; rfl, HE0.out.trans (HX1.out.trans (by first | exact HXH.out | exact HXF.out.drew | exact HXF.out) (by omega) (by simp)) (by omega) (by simp)⟩
                | false =>
                  have HLE := Lib.hid hl
                  have HCE : Hid (∀ w', Ex wB0.heap.size none wB0 w' → (w'.cell? ⟨A, 0, none⟩ = some (.int .i64 s.author) ∧ w'.cell? ⟨B, 0, none⟩ = some (.int .i64 t.author) ∧ w'.cell? ⟨A, 1, none⟩ = some (.int .i64 s.number) ∧ w'.cell? ⟨B, 1, none⟩ = some (.int .i64 t.number)) ∧ (rowLoad 27 ⟨A, 0, none⟩).run Tryz.prog w' = .ok (.agg #[.int .i64 s.author, .int .i64 s.number, .string s.prev, .int .i64 s.time, .int .i64 s.kind, .int .i64 s.a, .int .i64 s.b, .int .i64 s.c, .slice lo ln lc, .slice po pn pc, .string s.body, .int .i64 s.key, .string s.dig]) w' ∧ (rowLoad 27 ⟨B, 0, none⟩).run Tryz.prog w' = .ok (.agg #[.int .i64 t.author, .int .i64 t.number, .string t.prev, .int .i64 t.time, .int .i64 t.kind, .int .i64 t.a, .int .i64 t.b, .int .i64 t.c, .slice lb nb cb, .slice pb mp cq, .string t.body, .int .i64 t.key, .string t.dig]) w') := Lib.hid (fun w' h => by
                    have h1 := (h.block A hAl (by simp)).trans HAX.out
                    have h2 := (h.block B hBl (by simp)).trans HBX.out
                    exact ⟨⟨cell_of_row _ _ 0 _ _ _ h1, cell_of_row _ _ 0 _ _ _ h2, cell_of_row _ _ 1 _ _ _ h1, cell_of_row _ _ 1 _ _ _ h2⟩, HLD.out w' h⟩)
                  go_upto_region 11 with (first
                    | (go_at_call 27
                       fail_if_success (first | have _x := HXE | fail)
                       refine (HS1.out true _ HSA.out HXR.out).mono ?_
                       rintro e we ⟨rfl, hex⟩
                       have HXE : Hid (Ex wB0.heap.size none wB0 we) := Lib.hid (HXR.out.trans hex hzr (by simp))
                       clear hex l3 l4
                       obtain ⟨l3, l4⟩ := HLD.out _ HXE.out)
                    | (go_at_call 27
                       fail_if_success (first | have _x := HXF | fail)
                       refine (HS2.out true _ HSB.out HXE.out).mono ?_
                       rintro e wf ⟨rfl, hex⟩
                       have HXF : Hid (Ex wB0.heap.size none wB0 wf) := Lib.hid (HXE.out.trans hex HXE.out.size (by simp))
                       have hzf : wB0.heap.size ≤ wf.heap.size := HXF.out.size
                       clear hex l3 l4)
                    | fail)
                  obtain ⟨⟨c0, c1, c2, c3⟩, l3, l4⟩ := HCE.out _ HXF.out
                  go_region_held3 (fun w' => (w'.cell? ⟨A, 0, none⟩ = some (.int .i64 s.author) ∧ w'.cell? ⟨B, 0, none⟩ = some (.int .i64 t.author) ∧ w'.cell? ⟨A, 1, none⟩ = some (.int .i64 s.number) ∧ w'.cell? ⟨B, 1, none⟩ = some (.int .i64 t.number)) ∧ (rowLoad 27 ⟨A, 0, none⟩).run Tryz.prog w' = .ok (.agg #[.int .i64 s.author, .int .i64 s.number, .string s.prev, .int .i64 s.time, .int .i64 s.kind, .int .i64 s.a, .int .i64 s.b, .int .i64 s.c, .slice lo ln lc, .slice po pn pc, .string s.body, .int .i64 s.key, .string s.dig]) w' ∧ (rowLoad 27 ⟨B, 0, none⟩).run Tryz.prog w' = .ok (.agg #[.int .i64 t.author, .int .i64 t.number, .string t.prev, .int .i64 t.time, .int .i64 t.kind, .int .i64 t.a, .int .i64 t.b, .int .i64 t.c, .slice lb nb cb, .slice pb mp cq, .string t.body, .int .i64 t.key, .string t.dig]) w')
                    (first | exact HCE.out _ HXH.out | exact HCE.out _ HXG.out | exact HCE.out _ HXF.out | exact HCE.out _ (Ex.drew HXF.out))
                    (first
                      | (go_at_call 43
                         fail_if_success (first | have _x := HXG | fail)
                         refine (HD1.out _ HSA.out (by repeat (first | exact HXF.out | refine Ex.drew ?_))).mono ?_
                         rintro e wg ⟨rfl, hex⟩
                         have HXG : Hid (Ex wB0.heap.size none wB0 wg) := Lib.hid ((by repeat (first | exact HXF.out | refine Ex.drew ?_) : Ex wB0.heap.size none wB0 _).trans hex (by first | omega | (simp; done) | (simp; omega)) (by simp))
                         have hzg : wB0.heap.size ≤ wg.heap.size := HXG.out.size
                         clear hex)
                      | (go_at_call 43
                         refine (HD2.out _ HSB.out (by repeat (first | exact HXG.out | refine Ex.drew ?_))).mono ?_
                         rintro e wh ⟨rfl, hex⟩
                         have HXH : Hid (Ex wB0.heap.size none wB0 wh) := Lib.hid ((by repeat (first | exact HXG.out | refine Ex.drew ?_) : Ex wB0.heap.size none wB0 _).trans hex (by first | omega | (simp; done) | (simp; omega)) (by simp))
                         clear hex)
                      | fail)
                  go_wp2
                  go_ret
                  exact ⟨by rw [fcI_4 HP1.out HP2.out HSA.out HSB.out (.inr (.inr HLE.out))]; rfl, HE0.out.trans (HX1.out.trans (by first | exact HXH.out | exact HXF.out.drew | exact HXF.out) (by omega) (by simp)) (by omega) (by simp)⟩
              · have hn' : (s.number == t.number) = false := by simpa using hn
                have hn2 : (s.number != t.number) = true := by rw [bne, hn']; rfl
                have HNN := Lib.hid hn
                clear hn
                have HCE : Hid (∀ w', Ex wB0.heap.size none wB0 w' → (w'.cell? ⟨A, 0, none⟩ = some (.int .i64 s.author) ∧ w'.cell? ⟨B, 0, none⟩ = some (.int .i64 t.author) ∧ w'.cell? ⟨A, 1, none⟩ = some (.int .i64 s.number) ∧ w'.cell? ⟨B, 1, none⟩ = some (.int .i64 t.number)) ∧ (rowLoad 27 ⟨A, 0, none⟩).run Tryz.prog w' = .ok (.agg #[.int .i64 s.author, .int .i64 s.number, .string s.prev, .int .i64 s.time, .int .i64 s.kind, .int .i64 s.a, .int .i64 s.b, .int .i64 s.c, .slice lo ln lc, .slice po pn pc, .string s.body, .int .i64 s.key, .string s.dig]) w' ∧ (rowLoad 27 ⟨B, 0, none⟩).run Tryz.prog w' = .ok (.agg #[.int .i64 t.author, .int .i64 t.number, .string t.prev, .int .i64 t.time, .int .i64 t.kind, .int .i64 t.a, .int .i64 t.b, .int .i64 t.c, .slice lb nb cb, .slice pb mp cq, .string t.body, .int .i64 t.key, .string t.dig]) w') := Lib.hid (fun w' h => by
                  have h1 := (h.block A hAl (by simp)).trans HAX.out
                  have h2 := (h.block B hBl (by simp)).trans HBX.out
                  exact ⟨⟨cell_of_row _ _ 0 _ _ _ h1, cell_of_row _ _ 0 _ _ _ h2, cell_of_row _ _ 1 _ _ _ h1, cell_of_row _ _ 1 _ _ _ h2⟩, HLD.out w' h⟩)
                go_upto_region 11 with (first
                  | (go_at_call 27
                     fail_if_success (first | have _x := HXE | fail)
                     refine (HS1.out true _ HSA.out HXR.out).mono ?_
                     rintro e we ⟨rfl, hex⟩
                     have HXE : Hid (Ex wB0.heap.size none wB0 we) := Lib.hid (HXR.out.trans hex hzr (by simp))
                     clear hex l3 l4
                     obtain ⟨l3, l4⟩ := HLD.out _ HXE.out)
                  | (go_at_call 27
                     fail_if_success (first | have _x := HXF | fail)
                     refine (HS2.out true _ HSB.out HXE.out).mono ?_
                     rintro e wf ⟨rfl, hex⟩
                     have HXF : Hid (Ex wB0.heap.size none wB0 wf) := Lib.hid (HXE.out.trans hex HXE.out.size (by simp))
                     have hzf : wB0.heap.size ≤ wf.heap.size := HXF.out.size
                     clear hex l3 l4)
                  | fail)
                obtain ⟨⟨c0, c1, c2, c3⟩, l3, l4⟩ := HCE.out _ HXF.out
                go_quiet (fail)
                go_wp2
                go_ret
                exact ⟨by rw [fcI_4 HP1.out HP2.out HSA.out HSB.out (.inr (.inl HNN.out))]; rfl, HE0.out.trans (HX1.out.trans (by first | exact HXF.out.drewN | exact HXF.out.drew | exact HXF.out) (by omega) (by simp)) (by omega) (by simp)⟩
            · have ha' : (s.author == t.author) = false := by simpa using ha
              have ha2 : (s.author != t.author) = true := by rw [bne, ha']; rfl
              have HAA := Lib.hid ha
              clear ha
              have HCE : Hid (∀ w', Ex wB0.heap.size none wB0 w' → (w'.cell? ⟨A, 0, none⟩ = some (.int .i64 s.author) ∧ w'.cell? ⟨B, 0, none⟩ = some (.int .i64 t.author) ∧ w'.cell? ⟨A, 1, none⟩ = some (.int .i64 s.number) ∧ w'.cell? ⟨B, 1, none⟩ = some (.int .i64 t.number)) ∧ (rowLoad 27 ⟨A, 0, none⟩).run Tryz.prog w' = .ok (.agg #[.int .i64 s.author, .int .i64 s.number, .string s.prev, .int .i64 s.time, .int .i64 s.kind, .int .i64 s.a, .int .i64 s.b, .int .i64 s.c, .slice lo ln lc, .slice po pn pc, .string s.body, .int .i64 s.key, .string s.dig]) w' ∧ (rowLoad 27 ⟨B, 0, none⟩).run Tryz.prog w' = .ok (.agg #[.int .i64 t.author, .int .i64 t.number, .string t.prev, .int .i64 t.time, .int .i64 t.kind, .int .i64 t.a, .int .i64 t.b, .int .i64 t.c, .slice lb nb cb, .slice pb mp cq, .string t.body, .int .i64 t.key, .string t.dig]) w') := Lib.hid (fun w' h => by
                have h1 := (h.block A hAl (by simp)).trans HAX.out
                have h2 := (h.block B hBl (by simp)).trans HBX.out
                exact ⟨⟨cell_of_row _ _ 0 _ _ _ h1, cell_of_row _ _ 0 _ _ _ h2, cell_of_row _ _ 1 _ _ _ h1, cell_of_row _ _ 1 _ _ _ h2⟩, HLD.out w' h⟩)
              go_upto_region 11 with (first
                | (go_at_call 27
                   fail_if_success (first | have _x := HXE | fail)
                   refine (HS1.out true _ HSA.out HXR.out).mono ?_
                   rintro e we ⟨rfl, hex⟩
                   have HXE : Hid (Ex wB0.heap.size none wB0 we) := Lib.hid (HXR.out.trans hex hzr (by simp))
                   clear hex l3 l4
                   obtain ⟨l3, l4⟩ := HLD.out _ HXE.out)
                | (go_at_call 27
                   fail_if_success (first | have _x := HXF | fail)
                   refine (HS2.out true _ HSB.out HXE.out).mono ?_
                   rintro e wf ⟨rfl, hex⟩
                   have HXF : Hid (Ex wB0.heap.size none wB0 wf) := Lib.hid (HXE.out.trans hex HXE.out.size (by simp))
                   have hzf : wB0.heap.size ≤ wf.heap.size := HXF.out.size
                   clear hex l3 l4)
                | fail)
              obtain ⟨⟨c0, c1, c2, c3⟩, l3, l4⟩ := HCE.out _ HXF.out
              go_quiet (fail)
              go_wp2
              go_ret
              exact ⟨by rw [fcI_4 HP1.out HP2.out HSA.out HSB.out (.inl HAA.out)]; rfl, HE0.out.trans (HX1.out.trans (by first | exact HXF.out.drewN | exact HXF.out.drew | exact HXF.out) (by omega) (by simp)) (by omega) (by simp)⟩
          | false =>
            have HSB := Lib.hid hsb
            clear hsb
            go_wp2_with (first
              | (go_at_call 27
                 fail_if_success (first | have _x := HXE | fail)
                 refine (HS1.out true _ HSA.out HXR.out).mono ?_
                 rintro e we ⟨rfl, hex⟩
                 have HXE : Hid (Ex wB0.heap.size none wB0 we) := Lib.hid (HXR.out.trans hex hzr (by simp))
                 clear hex l3 l4
                 obtain ⟨l3, l4⟩ := HLD.out _ HXE.out)
              | (go_at_call 27
                 have _y := HXE
                 refine (HS2.out false _ HSB.out HXE.out).mono ?_
                 rintro e wf ⟨rfl, hex⟩
                 have HXF : Hid (Ex wB0.heap.size none wB0 wf) := Lib.hid (HXE.out.trans hex HXE.out.size (by simp))
                 clear hex l3 l4)
              | fail)
            go_ret
            exact ⟨by rw [fcI_3 HP1.out HP2.out (.inr HSB.out)]; rfl, HE0.out.trans (HX1.out.trans HXF.out (by omega) (by simp)) (by omega) (by simp)⟩
        | false =>
          have HSA := Lib.hid hsa
          clear hsa
          go_wp2_with (first
            | (go_at_call 27
               fail_if_success (first | have _x := HXE | fail)
               refine (HS1.out false _ HSA.out HXR.out).mono ?_
               rintro e we ⟨rfl, hex⟩
               have HXE : Hid (Ex wB0.heap.size none wB0 we) := Lib.hid (HXR.out.trans hex hzr (by simp))
               clear hex l3 l4
               obtain ⟨l3, l4⟩ := HLD.out _ HXE.out)
            | fail)
          go_ret
          exact ⟨by rw [fcI_3 HP1.out HP2.out (.inl HSA.out)]; rfl, HE0.out.trans (HX1.out.trans HXE.out (by omega) (by simp)) (by omega) (by simp)⟩
  · obtain ⟨ha, hb, hx, hz⟩ := HAB1.out
    obtain ⟨A, hA⟩ : ∃ A, A = w0.heap.size + 1 := ⟨_, rfl⟩
    obtain ⟨B, hB⟩ : ∃ B, B = w0.heap.size := ⟨_, rfl⟩
    rw [← hA] at ha
    rw [← hB] at hb
    rw [← hA, ← hB]
    have hAl : A < wB1.heap.size := by omega
    have hBl : B < wB1.heap.size := by omega
    have HX1 := Lib.hid hx
    have HAX := Lib.hid ha
    have HBX := Lib.hid hb
    clear hA hB ha hb hx l1 l2 hA0 hB0 hA1 hB1 HAB0 HAB1 HKA0 HKA1
    have HLD : Hid (∀ w', Ex wB1.heap.size none wB1 w' → (rowLoad 27 ⟨A, 0, none⟩).run Tryz.prog w' = .ok (.agg #[.int .i64 s.author, .int .i64 s.number, .string s.prev, .int .i64 s.time, .int .i64 s.kind, .int .i64 s.a, .int .i64 s.b, .int .i64 s.c, .slice lo ln lc, .slice po pn pc, .string s.body, .int .i64 s.key, .string s.dig]) w' ∧ (rowLoad 27 ⟨B, 0, none⟩).run Tryz.prog w' = .ok (.agg #[.int .i64 t.author, .int .i64 t.number, .string t.prev, .int .i64 t.time, .int .i64 t.kind, .int .i64 t.a, .int .i64 t.b, .int .i64 t.c, .slice lb nb cb, .slice pb mp cq, .string t.body, .int .i64 t.key, .string t.dig]) w') := Lib.hid (fun w' h => ⟨run_rowLoad w' A 27 27 #[.int .i64 s.author, .int .i64 s.number, .string s.prev, .int .i64 s.time, .int .i64 s.kind, .int .i64 s.a, .int .i64 s.b, .int .i64 s.c, .slice lo ln lc, .slice po pn pc, .string s.body, .int .i64 s.key, .string s.dig] (0, 0) _ ((h.block A hAl (by simp)).trans HAX.out) Tryz.underlying27 rfl Tryz.sizeStm, run_rowLoad w' B 27 27 #[.int .i64 t.author, .int .i64 t.number, .string t.prev, .int .i64 t.time, .int .i64 t.kind, .int .i64 t.a, .int .i64 t.b, .int .i64 t.c, .slice lb nb cb, .slice pb mp cq, .string t.body, .int .i64 t.key, .string t.dig] (0, 0) _ ((h.block B hBl (by simp)).trans HBX.out) Tryz.underlying27 rfl Tryz.sizeStm⟩)
    have HLL : Hid (∀ w', Ex wB1.heap.size none wB1 w' → Lies P w' (s, ⟨lo, ln, lc⟩, ⟨po, pn, pc⟩) ∧ Lies P w' (t, ⟨lb, nb, cb⟩, ⟨pb, mp, cq⟩)) := Lib.hid (fun w' h => by
      have hk : ∀ b, b < w.heap.size → w'.heap[b]? = w.heap[b]? := fun b hb => (h.block b (by omega) (by simp)).trans ((HX1.out.block b (by omega) (by simp)).trans (HE0.out.block b hb (by simp)))
      exact ⟨HLS.out.keep fun b _ hb => hk b hb, HLT.out.keep fun b _ hb => hk b hb⟩)
    obtain ⟨q, hq⟩ : ∃ q, q = checkI s := ⟨_, rfl⟩
    obtain ⟨r, hr⟩ : ∃ r, r = checkI t := ⟨_, rfl⟩
    have HSZ1 : Hid (ln ≤ 9223372036854775807 ∧ pn ≤ 9223372036854775807) := Lib.hid (by
      have h1 := HTS.out.list
      have h2 := HTS.out.pins
      obtain ⟨⟨_, _, e1, _⟩, ⟨_, _, e2, _⟩⟩ := HLS.out
      simp only [Sv.v, Value.slice.injEq] at e1 e2
      omega)
    have HSZ2 : Hid (nb ≤ 9223372036854775807 ∧ mp ≤ 9223372036854775807) := Lib.hid (by
      have h1 := HTT.out.list
      have h2 := HTT.out.pins
      obtain ⟨⟨_, _, e1, _⟩, ⟨_, _, e2, _⟩⟩ := HLT.out
      simp only [Sv.v, Value.slice.injEq] at e1 e2
      omega)
    have HC1 : Hid (∀ w', Ex wB1.heap.size none wB1 w' → Calls Tryz.prog 26 #[.agg #[.int .i64 s.author, .int .i64 s.number, .string s.prev, .int .i64 s.time, .int .i64 s.kind, .int .i64 s.a, .int .i64 s.b, .int .i64 s.c, .slice lo ln lc, .slice po pn pc, .string s.body, .int .i64 s.key, .string s.dig]] w' fun e w'' => e = .returned (.int .i64 q) ∧ Ex w'.heap.size none w' w'') := Lib.hid (fun w' h => by rw [hq]; exact checkP_any s lo po ln lc pn pc w' (HLL.out w' h).1 HSZ1.out)
    have HC2 : Hid (∀ w', Ex wB1.heap.size none wB1 w' → Calls Tryz.prog 26 #[.agg #[.int .i64 t.author, .int .i64 t.number, .string t.prev, .int .i64 t.time, .int .i64 t.kind, .int .i64 t.a, .int .i64 t.b, .int .i64 t.c, .slice lb nb cb, .slice pb mp cq, .string t.body, .int .i64 t.key, .string t.dig]] w' fun e w'' => e = .returned (.int .i64 r) ∧ Ex w'.heap.size none w' w'') := Lib.hid (fun w' h => by rw [hr]; exact checkP_any t lb pb nb cb mp cq w' (HLL.out w' h).2 HSZ2.out)
    have HS1 : Hid (∀ b w', sealedB s = b → Ex wB1.heap.size none wB1 w' → Calls Tryz.prog 27 #[.agg #[.int .i64 s.author, .int .i64 s.number, .string s.prev, .int .i64 s.time, .int .i64 s.kind, .int .i64 s.a, .int .i64 s.b, .int .i64 s.c, .slice lo ln lc, .slice po pn pc, .string s.body, .int .i64 s.key, .string s.dig]] w' fun e w'' => e = .returned (.bool b) ∧ Ex w'.heap.size none w' w'') := Lib.hid (fun b w' hb h => asB (sealedP_any s lo po ln lc pn pc w' (HLL.out w' h).1 HTS.out) hb)
    have HS2 : Hid (∀ b w', sealedB t = b → Ex wB1.heap.size none wB1 w' → Calls Tryz.prog 27 #[.agg #[.int .i64 t.author, .int .i64 t.number, .string t.prev, .int .i64 t.time, .int .i64 t.kind, .int .i64 t.a, .int .i64 t.b, .int .i64 t.c, .slice lb nb cb, .slice pb mp cq, .string t.body, .int .i64 t.key, .string t.dig]] w' fun e w'' => e = .returned (.bool b) ∧ Ex w'.heap.size none w' w'') := Lib.hid (fun b w' hb h => asB (sealedP_any t lb pb nb cb mp cq w' (HLL.out w' h).2 HTT.out) hb)
    have HD1 : Hid (∀ w', sealedB s = true → Ex wB1.heap.size none wB1 w' → Calls Tryz.prog 43 #[.agg #[.int .i64 s.author, .int .i64 s.number, .string s.prev, .int .i64 s.time, .int .i64 s.kind, .int .i64 s.a, .int .i64 s.b, .int .i64 s.c, .slice lo ln lc, .slice po pn pc, .string s.body, .int .i64 s.key, .string s.dig]] w' fun e w'' => e = .returned (.string s.dig) ∧ Ex w'.heap.size none w' w'') := Lib.hid (fun w' hb h => by rw [sealed_dig hb]; have := digestP_any s lo po ln lc pn pc w' (HLL.out w' h).1 HTS.out; rwa [sealed_dig hb] at this)
    have HD2 : Hid (∀ w', sealedB t = true → Ex wB1.heap.size none wB1 w' → Calls Tryz.prog 43 #[.agg #[.int .i64 t.author, .int .i64 t.number, .string t.prev, .int .i64 t.time, .int .i64 t.kind, .int .i64 t.a, .int .i64 t.b, .int .i64 t.c, .slice lb nb cb, .slice pb mp cq, .string t.body, .int .i64 t.key, .string t.dig]] w' fun e w'' => e = .returned (.string t.dig) ∧ Ex w'.heap.size none w' w'') := Lib.hid (fun w' hb h => by rw [sealed_dig hb]; have := digestP_any t lb pb nb cb mp cq w' (HLL.out w' h).2 HTT.out; rwa [sealed_dig hb] at this)
    have HQ1 := Lib.hid hq
    have HQ2 := Lib.hid hr
    clear hq hr
    obtain ⟨l3, l4⟩ := HLD.out _ (Ex.refl _ _ _)
    go_wp2_with (fail)
    go_loopw [15] (fun i wr => ∃ k : Nat, k ≤ 2 ∧ i = .int .i64 k ∧ Hid (1 ≤ k → q = 0) ∧ Hid (2 ≤ k → r = 0) ∧ Hid (Ex wB1.heap.size none wB1 wr)) (fun i _ => 2 - (intOf i).toNat)
    case atStart => exact ⟨0, by omega, rfl, Lib.hid (fun h => by omega), Lib.hid (fun h => by omega), Lib.hid (Ex.refl _ _ _)⟩
    case round =>
      obtain ⟨k, hk, rfl, HK1, HK2, HXR⟩ := hrel
      have hzr : wB1.heap.size ≤ wr.heap.size := HXR.out.size
      clear l3 l4
      rcases (by omega : k = 0 ∨ k = 1 ∨ k = 2) with rfl | rfl | rfl
      · have ix := fun w => Tryz.idxF0 (.int .i64 s.author) (.int .i64 s.number) (.string s.prev) (.int .i64 s.time) (.int .i64 s.kind) (.int .i64 s.a) (.int .i64 s.b) (.int .i64 s.c) (.slice lo ln lc) (.slice po pn pc) (.string s.body) (.int .i64 s.key) (.string s.dig) (.int .i64 t.author) (.int .i64 t.number) (.string t.prev) (.int .i64 t.time) (.int .i64 t.kind) (.int .i64 t.a) (.int .i64 t.b) (.int .i64 t.c) (.slice lb nb cb) (.slice pb mp cq) (.string t.body) (.int .i64 t.key) (.string t.dig) w
        have hst := run_rowStore (P := Tryz.prog) (wr.alloc (.cells #[.int .i64 0, .int .i64 0, .string ⟨#[]⟩, .int .i64 0, .int .i64 0, .int .i64 0, .int .i64 0, .int .i64 0, .slice none 0 0, .slice none 0 0, .string ⟨#[]⟩, .int .i64 0, .string ⟨#[]⟩] 27)) wr.heap.size 27 27 #[.int .i64 0, .int .i64 0, .string ⟨#[]⟩, .int .i64 0, .int .i64 0, .int .i64 0, .int .i64 0, .int .i64 0, .slice none 0 0, .slice none 0 0, .string ⟨#[]⟩, .int .i64 0, .string ⟨#[]⟩] #[.int .i64 s.author, .int .i64 s.number, .string s.prev, .int .i64 s.time, .int .i64 s.kind, .int .i64 s.a, .int .i64 s.b, .int .i64 s.c, .slice lo ln lc, .slice po pn pc, .string s.body, .int .i64 s.key, .string s.dig] (heap_alloc_new wr _) Tryz.sizeStm rfl (by simp [Value.oneCell'])
        obtain ⟨wc, hwc⟩ : ∃ wc, wc = (wr.alloc (.cells #[.int .i64 0, .int .i64 0, .string ⟨#[]⟩, .int .i64 0, .int .i64 0, .int .i64 0, .int .i64 0, .int .i64 0, .slice none 0 0, .slice none 0 0, .string ⟨#[]⟩, .int .i64 0, .string ⟨#[]⟩] 27)).setRow wr.heap.size #[.int .i64 s.author, .int .i64 s.number, .string s.prev, .int .i64 s.time, .int .i64 s.kind, .int .i64 s.a, .int .i64 s.b, .int .i64 s.c, .slice lo ln lc, .slice po pn pc, .string s.body, .int .i64 s.key, .string s.dig] := ⟨_, rfl⟩
        rw [← hwc] at hst
        have HXC : Hid (Ex wr.heap.size none wr wc) := Lib.hid (by rw [hwc]; exact (Ex.new wr _).setRow _ _ (.inr (Nat.le_refl _)))
        have hld := run_rowLoad (P := Tryz.prog) wc wr.heap.size 27 27 #[.int .i64 s.author, .int .i64 s.number, .string s.prev, .int .i64 s.time, .int .i64 s.kind, .int .i64 s.a, .int .i64 s.b, .int .i64 s.c, .slice lo ln lc, .slice po pn pc, .string s.body, .int .i64 s.key, .string s.dig] (0, 0) _ (by rw [hwc]; exact setRow_heap _ _ _ _ _ _ (heap_alloc_new wr _)) Tryz.underlying27 rfl Tryz.sizeStm
        have HXD : Hid (Ex wB1.heap.size none wB1 wc) := Lib.hid (HXR.out.trans HXC.out hzr (by simp))
        clear hwc
        by_cases h0 : q = 0
        · have HV0 : Hid (q = 0) := Lib.hid h0
          have hb0 : (q == 0) = true := by simpa using h0
          clear h0
          go_wp2_with (first
            | (go_at_call 26
               refine (HC1.out _ HXD.out).mono ?_
               rintro e wd ⟨rfl, hex⟩
               have HXW : Hid (Ex wB1.heap.size none wB1 wd) := Lib.hid (HXD.out.trans hex HXD.out.size (by simp))
               clear hex hst hld)
            | fail)
          go_roundw
          case rel => exact ⟨0 + 1, by omega, by go_num, Lib.hid (fun _ => HV0.out), Lib.hid (fun h => by omega), HXW⟩
          case measure => simp [intOf] <;> omega
        · have hb0 : (q == 0) = false := by simpa using h0
          go_wp2_with (first
            | (go_at_call 26
               refine (HC1.out _ HXD.out).mono ?_
               rintro e wd ⟨rfl, hex⟩
               have HXW : Hid (Ex wB1.heap.size none wB1 wd) := Lib.hid (HXD.out.trans hex HXD.out.size (by simp))
               clear hex hst hld)
            | fail)
          go_ret
          exact ⟨by rw [fcI_1 (fun h => h0 (HQ1.out.trans h)), ← HQ1.out]; rfl, HE0.out.trans (HX1.out.trans HXW.out (by omega) (by simp)) (by omega) (by simp)⟩
      · have ix := fun w => Tryz.idxF1 (.int .i64 s.author) (.int .i64 s.number) (.string s.prev) (.int .i64 s.time) (.int .i64 s.kind) (.int .i64 s.a) (.int .i64 s.b) (.int .i64 s.c) (.slice lo ln lc) (.slice po pn pc) (.string s.body) (.int .i64 s.key) (.string s.dig) (.int .i64 t.author) (.int .i64 t.number) (.string t.prev) (.int .i64 t.time) (.int .i64 t.kind) (.int .i64 t.a) (.int .i64 t.b) (.int .i64 t.c) (.slice lb nb cb) (.slice pb mp cq) (.string t.body) (.int .i64 t.key) (.string t.dig) w
        have hst := run_rowStore (P := Tryz.prog) (wr.alloc (.cells #[.int .i64 0, .int .i64 0, .string ⟨#[]⟩, .int .i64 0, .int .i64 0, .int .i64 0, .int .i64 0, .int .i64 0, .slice none 0 0, .slice none 0 0, .string ⟨#[]⟩, .int .i64 0, .string ⟨#[]⟩] 27)) wr.heap.size 27 27 #[.int .i64 0, .int .i64 0, .string ⟨#[]⟩, .int .i64 0, .int .i64 0, .int .i64 0, .int .i64 0, .int .i64 0, .slice none 0 0, .slice none 0 0, .string ⟨#[]⟩, .int .i64 0, .string ⟨#[]⟩] #[.int .i64 t.author, .int .i64 t.number, .string t.prev, .int .i64 t.time, .int .i64 t.kind, .int .i64 t.a, .int .i64 t.b, .int .i64 t.c, .slice lb nb cb, .slice pb mp cq, .string t.body, .int .i64 t.key, .string t.dig] (heap_alloc_new wr _) Tryz.sizeStm rfl (by simp [Value.oneCell'])
        obtain ⟨wc, hwc⟩ : ∃ wc, wc = (wr.alloc (.cells #[.int .i64 0, .int .i64 0, .string ⟨#[]⟩, .int .i64 0, .int .i64 0, .int .i64 0, .int .i64 0, .int .i64 0, .slice none 0 0, .slice none 0 0, .string ⟨#[]⟩, .int .i64 0, .string ⟨#[]⟩] 27)).setRow wr.heap.size #[.int .i64 t.author, .int .i64 t.number, .string t.prev, .int .i64 t.time, .int .i64 t.kind, .int .i64 t.a, .int .i64 t.b, .int .i64 t.c, .slice lb nb cb, .slice pb mp cq, .string t.body, .int .i64 t.key, .string t.dig] := ⟨_, rfl⟩
        rw [← hwc] at hst
        have HXC : Hid (Ex wr.heap.size none wr wc) := Lib.hid (by rw [hwc]; exact (Ex.new wr _).setRow _ _ (.inr (Nat.le_refl _)))
        have hld := run_rowLoad (P := Tryz.prog) wc wr.heap.size 27 27 #[.int .i64 t.author, .int .i64 t.number, .string t.prev, .int .i64 t.time, .int .i64 t.kind, .int .i64 t.a, .int .i64 t.b, .int .i64 t.c, .slice lb nb cb, .slice pb mp cq, .string t.body, .int .i64 t.key, .string t.dig] (0, 0) _ (by rw [hwc]; exact setRow_heap _ _ _ _ _ _ (heap_alloc_new wr _)) Tryz.underlying27 rfl Tryz.sizeStm
        have HXD : Hid (Ex wB1.heap.size none wB1 wc) := Lib.hid (HXR.out.trans HXC.out hzr (by simp))
        clear hwc
        by_cases h0 : r = 0
        · have HV0 : Hid (r = 0) := Lib.hid h0
          have hb0 : (r == 0) = true := by simpa using h0
          clear h0
          go_wp2_with (first
            | (go_at_call 26
               refine (HC2.out _ HXD.out).mono ?_
               rintro e wd ⟨rfl, hex⟩
               have HXW : Hid (Ex wB1.heap.size none wB1 wd) := Lib.hid (HXD.out.trans hex HXD.out.size (by simp))
               clear hex hst hld)
            | fail)
          go_roundw
          case rel => exact ⟨1 + 1, by omega, by go_num, Lib.hid (fun _ => HK1.out (by omega)), Lib.hid (fun _ => HV0.out), HXW⟩
          case measure => simp [intOf] <;> omega
        · have hb0 : (r == 0) = false := by simpa using h0
          go_wp2_with (first
            | (go_at_call 26
               refine (HC2.out _ HXD.out).mono ?_
               rintro e wd ⟨rfl, hex⟩
               have HXW : Hid (Ex wB1.heap.size none wB1 wd) := Lib.hid (HXD.out.trans hex HXD.out.size (by simp))
               clear hex hst hld)
            | fail)
          go_ret
          exact ⟨by rw [fcI_2 (HQ1.out.symm.trans (HK1.out (by omega))) (fun h => h0 (HQ2.out.trans h)), ← HQ2.out]; rfl, HE0.out.trans (HX1.out.trans HXW.out (by omega) (by simp)) (by omega) (by simp)⟩
      · have HP1 : Hid (checkI s = 0) := Lib.hid (HQ1.out.symm.trans (HK1.out (by omega)))
        have HP2 : Hid (checkI t = 0) := Lib.hid (HQ2.out.symm.trans (HK2.out (by omega)))
        obtain ⟨l3, l4⟩ := HLD.out _ HXR.out
        cases hsa : sealedB s with
        | true =>
          have HSA := Lib.hid hsa
          clear hsa
          cases hsb : sealedB t with
          | true =>
            have HSB := Lib.hid hsb
            clear hsb
            by_cases ha : s.author = t.author
            · have ha' : (s.author == t.author) = true := by simpa using ha
              have ha2 : (s.author != t.author) = false := by rw [bne, ha']; rfl
              have HAA := Lib.hid ha
              clear ha
              by_cases hn : s.number = t.number
              · have hn' : (s.number == t.number) = true := by simpa using hn
                have hn2 : (s.number != t.number) = false := by rw [bne, hn']; rfl
                have HNN := Lib.hid hn
                clear hn
                cases hl : Op.bytesLess s.dig.toList t.dig.toList with
                | true =>
                  have HLE := Lib.hid hl
                  have HCE : Hid (∀ w', Ex wB1.heap.size none wB1 w' → (w'.cell? ⟨A, 0, none⟩ = some (.int .i64 s.author) ∧ w'.cell? ⟨B, 0, none⟩ = some (.int .i64 t.author) ∧ w'.cell? ⟨A, 1, none⟩ = some (.int .i64 s.number) ∧ w'.cell? ⟨B, 1, none⟩ = some (.int .i64 t.number)) ∧ (rowLoad 27 ⟨A, 0, none⟩).run Tryz.prog w' = .ok (.agg #[.int .i64 s.author, .int .i64 s.number, .string s.prev, .int .i64 s.time, .int .i64 s.kind, .int .i64 s.a, .int .i64 s.b, .int .i64 s.c, .slice lo ln lc, .slice po pn pc, .string s.body, .int .i64 s.key, .string s.dig]) w' ∧ (rowLoad 27 ⟨B, 0, none⟩).run Tryz.prog w' = .ok (.agg #[.int .i64 t.author, .int .i64 t.number, .string t.prev, .int .i64 t.time, .int .i64 t.kind, .int .i64 t.a, .int .i64 t.b, .int .i64 t.c, .slice lb nb cb, .slice pb mp cq, .string t.body, .int .i64 t.key, .string t.dig]) w') := Lib.hid (fun w' h => by
                    have h1 := (h.block A hAl (by simp)).trans HAX.out
                    have h2 := (h.block B hBl (by simp)).trans HBX.out
                    exact ⟨⟨cell_of_row _ _ 0 _ _ _ h1, cell_of_row _ _ 0 _ _ _ h2, cell_of_row _ _ 1 _ _ _ h1, cell_of_row _ _ 1 _ _ _ h2⟩, HLD.out w' h⟩)
                  go_upto_region 11 with (first
                    | (go_at_call 27
                       fail_if_success (first | have _x := HXE | fail)
                       refine (HS1.out true _ HSA.out HXR.out).mono ?_
                       rintro e we ⟨rfl, hex⟩
                       have HXE : Hid (Ex wB1.heap.size none wB1 we) := Lib.hid (HXR.out.trans hex hzr (by simp))
                       clear hex l3 l4
                       obtain ⟨l3, l4⟩ := HLD.out _ HXE.out)
                    | (go_at_call 27
                       fail_if_success (first | have _x := HXF | fail)
                       refine (HS2.out true _ HSB.out HXE.out).mono ?_
                       rintro e wf ⟨rfl, hex⟩
                       have HXF : Hid (Ex wB1.heap.size none wB1 wf) := Lib.hid (HXE.out.trans hex HXE.out.size (by simp))
                       have hzf : wB1.heap.size ≤ wf.heap.size := HXF.out.size
                       clear hex l3 l4)
                    | fail)
                  obtain ⟨⟨c0, c1, c2, c3⟩, l3, l4⟩ := HCE.out _ HXF.out
                  go_region_held3 (fun w' => (w'.cell? ⟨A, 0, none⟩ = some (.int .i64 s.author) ∧ w'.cell? ⟨B, 0, none⟩ = some (.int .i64 t.author) ∧ w'.cell? ⟨A, 1, none⟩ = some (.int .i64 s.number) ∧ w'.cell? ⟨B, 1, none⟩ = some (.int .i64 t.number)) ∧ (rowLoad 27 ⟨A, 0, none⟩).run Tryz.prog w' = .ok (.agg #[.int .i64 s.author, .int .i64 s.number, .string s.prev, .int .i64 s.time, .int .i64 s.kind, .int .i64 s.a, .int .i64 s.b, .int .i64 s.c, .slice lo ln lc, .slice po pn pc, .string s.body, .int .i64 s.key, .string s.dig]) w' ∧ (rowLoad 27 ⟨B, 0, none⟩).run Tryz.prog w' = .ok (.agg #[.int .i64 t.author, .int .i64 t.number, .string t.prev, .int .i64 t.time, .int .i64 t.kind, .int .i64 t.a, .int .i64 t.b, .int .i64 t.c, .slice lb nb cb, .slice pb mp cq, .string t.body, .int .i64 t.key, .string t.dig]) w')
                    (first | exact HCE.out _ HXH.out | exact HCE.out _ HXG.out | exact HCE.out _ HXF.out | exact HCE.out _ (Ex.drew HXF.out))
                    (first
                      | (go_at_call 43
                         fail_if_success (first | have _x := HXG | fail)
                         refine (HD1.out _ HSA.out (by repeat (first | exact HXF.out | refine Ex.drew ?_))).mono ?_
                         rintro e wg ⟨rfl, hex⟩
                         have HXG : Hid (Ex wB1.heap.size none wB1 wg) := Lib.hid ((by repeat (first | exact HXF.out | refine Ex.drew ?_) : Ex wB1.heap.size none wB1 _).trans hex (by first | omega | (simp; done) | (simp; omega)) (by simp))
                         have hzg : wB1.heap.size ≤ wg.heap.size := HXG.out.size
                         clear hex)
                      | (go_at_call 43
                         refine (HD2.out _ HSB.out (by repeat (first | exact HXG.out | refine Ex.drew ?_))).mono ?_
                         rintro e wh ⟨rfl, hex⟩
                         have HXH : Hid (Ex wB1.heap.size none wB1 wh) := Lib.hid ((by repeat (first | exact HXG.out | refine Ex.drew ?_) : Ex wB1.heap.size none wB1 _).trans hex (by first | omega | (simp; done) | (simp; omega)) (by simp))
                         clear hex)
                      | fail)
                  go_wp2
                  go_ret
                  exact ⟨by rw [fcI_5 HP1.out HP2.out HSA.out HSB.out HAA.out HNN.out HLE.out]; rfl, HE0.out.trans (HX1.out.trans (by first | exact HXH.out | exact HXF.out.drew | exact HXF.out) (by omega) (by simp)) (by omega) (by simp)⟩
                | false =>
                  have HLE := Lib.hid hl
                  have HCE : Hid (∀ w', Ex wB1.heap.size none wB1 w' → (w'.cell? ⟨A, 0, none⟩ = some (.int .i64 s.author) ∧ w'.cell? ⟨B, 0, none⟩ = some (.int .i64 t.author) ∧ w'.cell? ⟨A, 1, none⟩ = some (.int .i64 s.number) ∧ w'.cell? ⟨B, 1, none⟩ = some (.int .i64 t.number)) ∧ (rowLoad 27 ⟨A, 0, none⟩).run Tryz.prog w' = .ok (.agg #[.int .i64 s.author, .int .i64 s.number, .string s.prev, .int .i64 s.time, .int .i64 s.kind, .int .i64 s.a, .int .i64 s.b, .int .i64 s.c, .slice lo ln lc, .slice po pn pc, .string s.body, .int .i64 s.key, .string s.dig]) w' ∧ (rowLoad 27 ⟨B, 0, none⟩).run Tryz.prog w' = .ok (.agg #[.int .i64 t.author, .int .i64 t.number, .string t.prev, .int .i64 t.time, .int .i64 t.kind, .int .i64 t.a, .int .i64 t.b, .int .i64 t.c, .slice lb nb cb, .slice pb mp cq, .string t.body, .int .i64 t.key, .string t.dig]) w') := Lib.hid (fun w' h => by
                    have h1 := (h.block A hAl (by simp)).trans HAX.out
                    have h2 := (h.block B hBl (by simp)).trans HBX.out
                    exact ⟨⟨cell_of_row _ _ 0 _ _ _ h1, cell_of_row _ _ 0 _ _ _ h2, cell_of_row _ _ 1 _ _ _ h1, cell_of_row _ _ 1 _ _ _ h2⟩, HLD.out w' h⟩)
                  go_upto_region 11 with (first
                    | (go_at_call 27
                       fail_if_success (first | have _x := HXE | fail)
                       refine (HS1.out true _ HSA.out HXR.out).mono ?_
                       rintro e we ⟨rfl, hex⟩
                       have HXE : Hid (Ex wB1.heap.size none wB1 we) := Lib.hid (HXR.out.trans hex hzr (by simp))
                       clear hex l3 l4
                       obtain ⟨l3, l4⟩ := HLD.out _ HXE.out)
                    | (go_at_call 27
                       fail_if_success (first | have _x := HXF | fail)
                       refine (HS2.out true _ HSB.out HXE.out).mono ?_
                       rintro e wf ⟨rfl, hex⟩
                       have HXF : Hid (Ex wB1.heap.size none wB1 wf) := Lib.hid (HXE.out.trans hex HXE.out.size (by simp))
                       have hzf : wB1.heap.size ≤ wf.heap.size := HXF.out.size
                       clear hex l3 l4)
                    | fail)
                  obtain ⟨⟨c0, c1, c2, c3⟩, l3, l4⟩ := HCE.out _ HXF.out
                  go_region_held3 (fun w' => (w'.cell? ⟨A, 0, none⟩ = some (.int .i64 s.author) ∧ w'.cell? ⟨B, 0, none⟩ = some (.int .i64 t.author) ∧ w'.cell? ⟨A, 1, none⟩ = some (.int .i64 s.number) ∧ w'.cell? ⟨B, 1, none⟩ = some (.int .i64 t.number)) ∧ (rowLoad 27 ⟨A, 0, none⟩).run Tryz.prog w' = .ok (.agg #[.int .i64 s.author, .int .i64 s.number, .string s.prev, .int .i64 s.time, .int .i64 s.kind, .int .i64 s.a, .int .i64 s.b, .int .i64 s.c, .slice lo ln lc, .slice po pn pc, .string s.body, .int .i64 s.key, .string s.dig]) w' ∧ (rowLoad 27 ⟨B, 0, none⟩).run Tryz.prog w' = .ok (.agg #[.int .i64 t.author, .int .i64 t.number, .string t.prev, .int .i64 t.time, .int .i64 t.kind, .int .i64 t.a, .int .i64 t.b, .int .i64 t.c, .slice lb nb cb, .slice pb mp cq, .string t.body, .int .i64 t.key, .string t.dig]) w')
                    (first | exact HCE.out _ HXH.out | exact HCE.out _ HXG.out | exact HCE.out _ HXF.out | exact HCE.out _ (Ex.drew HXF.out))
                    (first
                      | (go_at_call 43
                         fail_if_success (first | have _x := HXG | fail)
                         refine (HD1.out _ HSA.out (by repeat (first | exact HXF.out | refine Ex.drew ?_))).mono ?_
                         rintro e wg ⟨rfl, hex⟩
                         have HXG : Hid (Ex wB1.heap.size none wB1 wg) := Lib.hid ((by repeat (first | exact HXF.out | refine Ex.drew ?_) : Ex wB1.heap.size none wB1 _).trans hex (by first | omega | (simp; done) | (simp; omega)) (by simp))
                         have hzg : wB1.heap.size ≤ wg.heap.size := HXG.out.size
                         clear hex)
                      | (go_at_call 43
                         refine (HD2.out _ HSB.out (by repeat (first | exact HXG.out | refine Ex.drew ?_))).mono ?_
                         rintro e wh ⟨rfl, hex⟩
                         have HXH : Hid (Ex wB1.heap.size none wB1 wh) := Lib.hid ((by repeat (first | exact HXG.out | refine Ex.drew ?_) : Ex wB1.heap.size none wB1 _).trans hex (by first | omega | (simp; done) | (simp; omega)) (by simp))
                         clear hex)
                      | fail)
                  go_wp2
                  go_ret
                  exact ⟨by rw [fcI_4 HP1.out HP2.out HSA.out HSB.out (.inr (.inr HLE.out))]; rfl, HE0.out.trans (HX1.out.trans (by first | exact HXH.out | exact HXF.out.drew | exact HXF.out) (by omega) (by simp)) (by omega) (by simp)⟩
              · have hn' : (s.number == t.number) = false := by simpa using hn
                have hn2 : (s.number != t.number) = true := by rw [bne, hn']; rfl
                have HNN := Lib.hid hn
                clear hn
                have HCE : Hid (∀ w', Ex wB1.heap.size none wB1 w' → (w'.cell? ⟨A, 0, none⟩ = some (.int .i64 s.author) ∧ w'.cell? ⟨B, 0, none⟩ = some (.int .i64 t.author) ∧ w'.cell? ⟨A, 1, none⟩ = some (.int .i64 s.number) ∧ w'.cell? ⟨B, 1, none⟩ = some (.int .i64 t.number)) ∧ (rowLoad 27 ⟨A, 0, none⟩).run Tryz.prog w' = .ok (.agg #[.int .i64 s.author, .int .i64 s.number, .string s.prev, .int .i64 s.time, .int .i64 s.kind, .int .i64 s.a, .int .i64 s.b, .int .i64 s.c, .slice lo ln lc, .slice po pn pc, .string s.body, .int .i64 s.key, .string s.dig]) w' ∧ (rowLoad 27 ⟨B, 0, none⟩).run Tryz.prog w' = .ok (.agg #[.int .i64 t.author, .int .i64 t.number, .string t.prev, .int .i64 t.time, .int .i64 t.kind, .int .i64 t.a, .int .i64 t.b, .int .i64 t.c, .slice lb nb cb, .slice pb mp cq, .string t.body, .int .i64 t.key, .string t.dig]) w') := Lib.hid (fun w' h => by
                  have h1 := (h.block A hAl (by simp)).trans HAX.out
                  have h2 := (h.block B hBl (by simp)).trans HBX.out
                  exact ⟨⟨cell_of_row _ _ 0 _ _ _ h1, cell_of_row _ _ 0 _ _ _ h2, cell_of_row _ _ 1 _ _ _ h1, cell_of_row _ _ 1 _ _ _ h2⟩, HLD.out w' h⟩)
                go_upto_region 11 with (first
                  | (go_at_call 27
                     fail_if_success (first | have _x := HXE | fail)
                     refine (HS1.out true _ HSA.out HXR.out).mono ?_
                     rintro e we ⟨rfl, hex⟩
                     have HXE : Hid (Ex wB1.heap.size none wB1 we) := Lib.hid (HXR.out.trans hex hzr (by simp))
                     clear hex l3 l4
                     obtain ⟨l3, l4⟩ := HLD.out _ HXE.out)
                  | (go_at_call 27
                     fail_if_success (first | have _x := HXF | fail)
                     refine (HS2.out true _ HSB.out HXE.out).mono ?_
                     rintro e wf ⟨rfl, hex⟩
                     have HXF : Hid (Ex wB1.heap.size none wB1 wf) := Lib.hid (HXE.out.trans hex HXE.out.size (by simp))
                     have hzf : wB1.heap.size ≤ wf.heap.size := HXF.out.size
                     clear hex l3 l4)
                  | fail)
                obtain ⟨⟨c0, c1, c2, c3⟩, l3, l4⟩ := HCE.out _ HXF.out
                go_quiet (fail)
                go_wp2
                go_ret
                exact ⟨by rw [fcI_4 HP1.out HP2.out HSA.out HSB.out (.inr (.inl HNN.out))]; rfl, HE0.out.trans (HX1.out.trans (by first | exact HXF.out.drewN | exact HXF.out.drew | exact HXF.out) (by omega) (by simp)) (by omega) (by simp)⟩
            · have ha' : (s.author == t.author) = false := by simpa using ha
              have ha2 : (s.author != t.author) = true := by rw [bne, ha']; rfl
              have HAA := Lib.hid ha
              clear ha
              have HCE : Hid (∀ w', Ex wB1.heap.size none wB1 w' → (w'.cell? ⟨A, 0, none⟩ = some (.int .i64 s.author) ∧ w'.cell? ⟨B, 0, none⟩ = some (.int .i64 t.author) ∧ w'.cell? ⟨A, 1, none⟩ = some (.int .i64 s.number) ∧ w'.cell? ⟨B, 1, none⟩ = some (.int .i64 t.number)) ∧ (rowLoad 27 ⟨A, 0, none⟩).run Tryz.prog w' = .ok (.agg #[.int .i64 s.author, .int .i64 s.number, .string s.prev, .int .i64 s.time, .int .i64 s.kind, .int .i64 s.a, .int .i64 s.b, .int .i64 s.c, .slice lo ln lc, .slice po pn pc, .string s.body, .int .i64 s.key, .string s.dig]) w' ∧ (rowLoad 27 ⟨B, 0, none⟩).run Tryz.prog w' = .ok (.agg #[.int .i64 t.author, .int .i64 t.number, .string t.prev, .int .i64 t.time, .int .i64 t.kind, .int .i64 t.a, .int .i64 t.b, .int .i64 t.c, .slice lb nb cb, .slice pb mp cq, .string t.body, .int .i64 t.key, .string t.dig]) w') := Lib.hid (fun w' h => by
                have h1 := (h.block A hAl (by simp)).trans HAX.out
                have h2 := (h.block B hBl (by simp)).trans HBX.out
                exact ⟨⟨cell_of_row _ _ 0 _ _ _ h1, cell_of_row _ _ 0 _ _ _ h2, cell_of_row _ _ 1 _ _ _ h1, cell_of_row _ _ 1 _ _ _ h2⟩, HLD.out w' h⟩)
              go_upto_region 11 with (first
                | (go_at_call 27
                   fail_if_success (first | have _x := HXE | fail)
                   refine (HS1.out true _ HSA.out HXR.out).mono ?_
                   rintro e we ⟨rfl, hex⟩
                   have HXE : Hid (Ex wB1.heap.size none wB1 we) := Lib.hid (HXR.out.trans hex hzr (by simp))
                   clear hex l3 l4
                   obtain ⟨l3, l4⟩ := HLD.out _ HXE.out)
                | (go_at_call 27
                   fail_if_success (first | have _x := HXF | fail)
                   refine (HS2.out true _ HSB.out HXE.out).mono ?_
                   rintro e wf ⟨rfl, hex⟩
                   have HXF : Hid (Ex wB1.heap.size none wB1 wf) := Lib.hid (HXE.out.trans hex HXE.out.size (by simp))
                   have hzf : wB1.heap.size ≤ wf.heap.size := HXF.out.size
                   clear hex l3 l4)
                | fail)
              obtain ⟨⟨c0, c1, c2, c3⟩, l3, l4⟩ := HCE.out _ HXF.out
              go_quiet (fail)
              go_wp2
              go_ret
              exact ⟨by rw [fcI_4 HP1.out HP2.out HSA.out HSB.out (.inl HAA.out)]; rfl, HE0.out.trans (HX1.out.trans (by first | exact HXF.out.drewN | exact HXF.out.drew | exact HXF.out) (by omega) (by simp)) (by omega) (by simp)⟩
          | false =>
            have HSB := Lib.hid hsb
            clear hsb
            go_wp2_with (first
              | (go_at_call 27
                 fail_if_success (first | have _x := HXE | fail)
                 refine (HS1.out true _ HSA.out HXR.out).mono ?_
                 rintro e we ⟨rfl, hex⟩
                 have HXE : Hid (Ex wB1.heap.size none wB1 we) := Lib.hid (HXR.out.trans hex hzr (by simp))
                 clear hex l3 l4
                 obtain ⟨l3, l4⟩ := HLD.out _ HXE.out)
              | (go_at_call 27
                 have _y := HXE
                 refine (HS2.out false _ HSB.out HXE.out).mono ?_
                 rintro e wf ⟨rfl, hex⟩
                 have HXF : Hid (Ex wB1.heap.size none wB1 wf) := Lib.hid (HXE.out.trans hex HXE.out.size (by simp))
                 clear hex l3 l4)
              | fail)
            go_ret
            exact ⟨by rw [fcI_3 HP1.out HP2.out (.inr HSB.out)]; rfl, HE0.out.trans (HX1.out.trans HXF.out (by omega) (by simp)) (by omega) (by simp)⟩
        | false =>
          have HSA := Lib.hid hsa
          clear hsa
          go_wp2_with (first
            | (go_at_call 27
               fail_if_success (first | have _x := HXE | fail)
               refine (HS1.out false _ HSA.out HXR.out).mono ?_
               rintro e we ⟨rfl, hex⟩
               have HXE : Hid (Ex wB1.heap.size none wB1 we) := Lib.hid (HXR.out.trans hex hzr (by simp))
               clear hex l3 l4
               obtain ⟨l3, l4⟩ := HLD.out _ HXE.out)
            | fail)
          go_ret
          exact ⟨by rw [fcI_3 HP1.out HP2.out (.inl HSA.out)]; rfl, HE0.out.trans (HX1.out.trans HXE.out (by omega) (by simp)) (by omega) (by simp)⟩
end Go.Proofs.YtoeklgbajggndaaGreat
