/- made.Dice.Statement: a contract that tells bounds. No statement of the seat. -/
import Derived.Test.YtdmchekkcmjafaaMidG
namespace Go.Proofs.Ytdmchekkcmjafaa
open Go.RowKit Go.Sort

set_option maxHeartbeats 32000000 in
set_option maxRecDepth 100000 in
theorem stmtD_w (N p : Nat) (a t : Int) (w : World) (hd : DiceOK N w p) (hN : N ≤ w.heap.size) (ha : 0 ≤ a ∧ a ≤ 1000) (ht : 0 ≤ t ∧ t ≤ 100000) :
    Calls Try.prog 59 #[.pointer (some ⟨p, 0, none⟩), .int .i64 a, .int .i64 t] w fun e w' => ∃ (r : St) (la : Option Addr) (na ca : Nat) (pa : Option Addr) (np cp : Nat), e = .returned (.agg #[.int .i64 r.author, .int .i64 r.number, .string r.prev, .int .i64 r.time, .int .i64 r.kind, .int .i64 r.a, .int .i64 r.b, .int .i64 r.c, .slice la na ca, .slice pa np cp, .string r.body, .int .i64 r.key, .string r.dig]) ∧ (r.author = a ∧ r.time = t ∧ Small r) ∧ Lies (fun b => w.heap.size ≤ b) w' (r, ⟨la, na, ca⟩, ⟨pa, np, cp⟩) ∧ DiceOK N w' p ∧ Ex w.heap.size (some p) w w' := by
  have hp := hd.lt
  obtain ⟨w0, hw0⟩ : ∃ w0 : World, w0 = w.alloc (.cells #[.int .i64 0, .int .i64 0, .string ⟨#[]⟩, .int .i64 0, .int .i64 0, .int .i64 0, .int .i64 0, .int .i64 0, .slice none 0 0, .slice none 0 0, .string ⟨#[]⟩, .int .i64 0, .string ⟨#[]⟩] 30) := ⟨_, rfl⟩
  have hz0 : w.heap.size < w0.heap.size := by rw [hw0]; simp
  have HE0 : Hid (Ex w.heap.size none w w0) := by rw [hw0]; exact Ex.new w _
  have HRES : Hid (w0.heap[w.heap.size]? = some (.cells #[.int .i64 0, .int .i64 0, .string ⟨#[]⟩, .int .i64 0, .int .i64 0, .int .i64 0, .int .i64 0, .int .i64 0, .slice none 0 0, .slice none 0 0, .string ⟨#[]⟩, .int .i64 0, .string ⟨#[]⟩] 30 (0, 0))) := by rw [hw0]; exact heap_alloc_new w _
  have HD0 : Hid (DiceOK N w0 p) := Lib.hid (hd.keep HE0.out hN)
  clear hd
  go_enter Try.func59, Try.ntmps59
  go_upto_region 1 with (fail)
  rw [← hw0]
  clear hw0
  go_upto_region 2 with (first
    | (go_at_call 58
       refine (of_w N p _ [1, 1, 1, 2, 10, 31, 1, 12] _ (HD0.out.keep (Ex.new w0 _) (by omega)) (IntsO.lit _ rfl rfl (by omega)) (by decide) (by decide)).mono ?_
       rintro e w1 ⟨y, rfl, hy, hd1, hex1⟩
       have H1 : Hid (DiceOK N w1 p ∧ Ex w0.heap.size (some p) w0 w1) := Lib.hid ⟨hd1, ((Ex.new w0 _).weaken _).trans hex1 (by simp) (fun q e _ => by cases e; rfl)⟩
       have hz1 : w0.heap.size ≤ w1.heap.size := H1.out.2.size
       clear hy hd1 hex1)
    | fail)
  obtain ⟨r0, hr0⟩ : ∃ r0 : St, r0 = ⟨a, 0, ⟨#[]⟩, t, y, 0, 0, 0, [], [], ⟨#[]⟩, 0, ⟨#[]⟩⟩ := ⟨_, rfl⟩
  obtain ⟨l0, hl0⟩ : ∃ l0 : Sv, l0 = ⟨none, 0, 0⟩ := ⟨_, rfl⟩
  obtain ⟨q0, hq0⟩ : ∃ q0 : Sv, q0 = ⟨none, 0, 0⟩ := ⟨_, rfl⟩
  have HL0 := Lib.hid hl0
  obtain ⟨W1, hW1⟩ : ∃ W1 : World, W1 = w1.alloc (.cells #[.int .i64 a, .int .i64 0, .string ⟨#[]⟩, .int .i64 t, .int .i64 y, .int .i64 0, .int .i64 0, .int .i64 0, .slice none 0 0, .slice none 0 0, .string ⟨#[]⟩, .int .i64 0, .string ⟨#[]⟩] 30) := ⟨_, rfl⟩
  have M1 : Hid (BoxD N p w1.heap.size (w1.heap.size + 1) w0 W1 r0 l0 q0) := Lib.hid (by
    rw [hW1, hr0, hl0, hq0]
    exact BoxD.start (r := ⟨a, 0, ⟨#[]⟩, t, y, 0, 0, 0, [], [], ⟨#[]⟩, 0, ⟨#[]⟩⟩) (l := ⟨none, 0, 0⟩) (q := ⟨none, 0, 0⟩) hp (by omega) H1.out.1 H1.out.2 (by omega) (Lies.none _ _ rfl rfl))
  have HRr0 : Hid (r0.author = a ∧ r0.time = t ∧ r0.list = [] ∧ r0.pins = [] ∧ r0.prev = ⟨#[]⟩ ∧ r0.body = ⟨#[]⟩) := Lib.hid (by rw [hr0]; exact ⟨rfl, rfl, rfl, rfl, rfl, rfl⟩)
  rw [← hW1]
  clear hW1 hr0 hl0 hq0
  obtain ⟨⟨d0, d1, d2, d3, d4, d5, d6, d7, d8, d9, d10, d11, d12⟩, fz⟩ := M1.out.cells
  by_cases c1 : r0.kind = 1
  · have c1d : (r0.kind == 1) = true := by simp [c1]
    clear c1
    go_upto_region 13 with (first
      | (go_at_call 39
         (fail_if_success (first | have _x := M2 | fail))
         refine (next_w N p 5 _ M1.out.dice (by omega) (by omega)).mono ?_
         rintro e w2 ⟨k1, rfl, hk1, hd, hex⟩
         have M2 := Lib.hid (M1.out.call hd hex)
         clear hd hex)
      | (go_at_call 23; refine (mod_any _ _ _ (by omega)).mono ?_; rintro e w' ⟨rfl, rfl⟩; generalize modI _ _ = z)
      | (go_at_call 39
         (fail_if_success (first | have _x := M3 | fail))
         refine (next_w N p 3 _ M2.out.dice (by omega) (by omega)).mono ?_
         rintro e w3 ⟨k2, rfl, hk2, hd, hex⟩
         have M3 := Lib.hid (M2.out.call hd hex)
         clear hd hex)
      | (go_at_call 58
         (fail_if_success (first | have _x := M4 | fail))
         refine (of_w N p _ [50, 5, 0, 200] _ (M3.out.new _).dice (IntsO.lit _ rfl rfl (by have := M3.out.pos; have := M3.out.ex.size; omega)) (by decide) (by decide)).mono ?_
         rintro e w4 ⟨y2, rfl, hy2, hd, hex⟩
         have M4 := Lib.hid ((M3.out.new _).call hd hex)
         have by2 : 0 ≤ y2 ∧ y2 ≤ 200 := by simp at hy2; omega
         clear hd hex hy2
         clear d0 d1 d2 d3 d4 d5 d6 d7 d8 d9 d10 d11 d12 fz
         obtain ⟨⟨d0, d1, d2, d3, d4, d5, d6, d7, d8, d9, d10, d11, d12⟩, fz⟩ := M4.out.cells)
      | fail)
    obtain ⟨r1, hr1⟩ : ∃ r1 : St, r1 = { r0 with a := z, b := 1 + (k2 : Int), c := t + y2 } := ⟨_, rfl⟩
    obtain ⟨w5, hw5⟩ : ∃ w5 : World, w5 = ((w4.setCell ⟨w1.heap.size, 5, none⟩ (.int .i64 (z))).setCell ⟨w1.heap.size, 6, none⟩ (.int .i64 (1 + (k2 : Int)))).setCell ⟨w1.heap.size, 7, none⟩ (.int .i64 (t + y2)) := ⟨_, rfl⟩
    have M5 : Hid (BoxD N p w1.heap.size (w1.heap.size + 1) w0 w5 r1 l0 q0) := Lib.hid (by
      rw [hw5, hr1]
      have A := M4.out.set 5 (.int .i64 (z)) (r' := { r0 with a := z }) (l' := l0) (q' := q0) rfl (Lies.same M4.out.lies rfl rfl)
      have B := A.set 6 (.int .i64 (1 + (k2 : Int))) (r' := { r0 with a := z, b := 1 + (k2 : Int) }) (l' := l0) (q' := q0) rfl (Lies.same A.lies rfl rfl)
      exact B.set 7 (.int .i64 (t + y2)) (r' := { r0 with a := z, b := 1 + (k2 : Int), c := t + y2 }) (l' := l0) (q' := q0) rfl (Lies.same B.lies rfl rfl))
    have HRr1 : Hid (r1.author = a ∧ r1.time = t ∧ r1.list = [] ∧ r1.pins = [] ∧ r1.prev = ⟨#[]⟩ ∧ r1.body = ⟨#[]⟩) := Lib.hid (by rw [hr1]; exact HRr0.out)
    rw [← hw5]
    clear hw5 hr1 d0 d1 d2 d3 d4 d5 d6 d7 d8 d9 d10 d11 d12 fz
    obtain ⟨⟨d0, d1, d2, d3, d4, d5, d6, d7, d8, d9, d10, d11, d12⟩, fz⟩ := M5.out.cells
    by_cases ea : r1.a = a
    · have ead : (r1.a == a) = true := by simp [ea]
      clear ea
      go_upto_region 17 with (fail)
      obtain ⟨w6, hw6⟩ : ∃ w6 : World, w6 = w5.setCell ⟨w1.heap.size, 5, none⟩ (.int .i64 (a + 1)) := ⟨_, rfl⟩
      have M6 : Hid (BoxD N p w1.heap.size (w1.heap.size + 1) w0 w6 { r1 with a := a + 1 } l0 q0) := Lib.hid (by
        rw [hw6]
        exact M5.out.set 5 (.int .i64 (a + 1)) (r' := { r1 with a := a + 1 }) (l' := l0) (q' := q0) rfl (Lies.same M5.out.lies rfl rfl))
      rw [← hw6]
      clear hw6 d0 d1 d2 d3 d4 d5 d6 d7 d8 d9 d10 d11 d12 fz
      obtain ⟨r9, hr9⟩ : ∃ r9, r9 = { r1 with a := a + 1 } := ⟨_, rfl⟩
      have HR9 : Hid (r9.author = a ∧ r9.time = t ∧ Small r9) := Lib.hid (by rw [hr9]; exact ⟨HRr1.out.1, HRr1.out.2.1, ⟨by rw [HRr1.out.2.2.1]; simp, by rw [HRr1.out.2.2.2.1]; simp, by rw [HRr1.out.2.2.2.2.1]; show (0 : Nat) ≤ _; omega, by rw [HRr1.out.2.2.2.2.2]; show (0 : Nat) ≤ _; omega, by rw [HRr1.out.2.2.2.1]; simp⟩⟩)
      have M9 : Hid (BoxD N p w1.heap.size (w1.heap.size + 1) w0 w6 r9 l0 q0) := Lib.hid (by rw [hr9]; exact M6.out)
      clear hr9
      obtain ⟨⟨d0, d1, d2, d3, d4, d5, d6, d7, d8, d9, d10, d11, d12⟩, fz⟩ := M9.out.cells
      have hres : w6.heap[w.heap.size]? = some (.cells #[.int .i64 0, .int .i64 0, .string ⟨#[]⟩, .int .i64 0, .int .i64 0, .int .i64 0, .int .i64 0, .int .i64 0, .slice none 0 0, .slice none 0 0, .string ⟨#[]⟩, .int .i64 0, .string ⟨#[]⟩] 30 (0, 0)) := (M9.out.ex.block _ (by omega) (by simp; omega)).trans HRES.out
      have hz9 : w0.heap.size ≤ w6.heap.size := M9.out.ex.size
      go_wp2_with (refine wpList_store_rowTo rfl 30 (.tmp 6) (.tmp 88) rfl rfl w.heap.size #[.int .i64 r9.author, .int .i64 r9.number, .string r9.prev, .int .i64 r9.time, .int .i64 r9.kind, .int .i64 r9.a, .int .i64 r9.b, .int .i64 r9.c, .slice l0.ao l0.n l0.c, .slice q0.ao q0.n q0.c, .string r9.body, .int .i64 r9.key, .string r9.dig] (by rfl) (by rfl) 30 #[.int .i64 0, .int .i64 0, .string ⟨#[]⟩, .int .i64 0, .int .i64 0, .int .i64 0, .int .i64 0, .int .i64 0, .slice none 0 0, .slice none 0 0, .string ⟨#[]⟩, .int .i64 0, .string ⟨#[]⟩] hres Try.sizeSt rfl (by simp [Value.oneCell']) ?_)
      obtain ⟨wy, hwy⟩ : ∃ wy : World, wy = w6.setRow w.heap.size #[.int .i64 r9.author, .int .i64 r9.number, .string r9.prev, .int .i64 r9.time, .int .i64 r9.kind, .int .i64 r9.a, .int .i64 r9.b, .int .i64 r9.c, .slice l0.ao l0.n l0.c, .slice q0.ao q0.n q0.c, .string r9.body, .int .i64 r9.key, .string r9.dig] := ⟨_, rfl⟩
      have HEY : Hid (Ex w.heap.size (some p) w wy ∧ DiceOK N wy p) := Lib.hid (by
        rw [hwy]
        exact ⟨((HE0.out.weaken _).trans M9.out.ex (by omega) (fun q e _ => by cases e; rfl)).setRow _ _ (.inr (Nat.le_refl _)), M9.out.dice.keep (B := N) ((Ex.refl _ _ _).setRow _ _ (.inr hN)) (Nat.le_refl _)⟩)
      have HLY : Hid (Lies (fun b => w.heap.size ≤ b) wy (r9, l0, q0)) := Lib.hid (by
        rw [hwy]
        exact (M9.out.lies.keep (w' := w6.setRow _ _) fun b h1 _ => setRow_other _ _ _ _ (by omega)).mono fun b h _ => by omega)
      have hby : wy.heap[w.heap.size]? = some (.cells #[.int .i64 r9.author, .int .i64 r9.number, .string r9.prev, .int .i64 r9.time, .int .i64 r9.kind, .int .i64 r9.a, .int .i64 r9.b, .int .i64 r9.c, .slice l0.ao l0.n l0.c, .slice q0.ao q0.n q0.c, .string r9.body, .int .i64 r9.key, .string r9.dig] 30 (0, 0)) := by rw [hwy]; exact setRow_heap _ _ _ _ _ _ hres
      rw [← hwy]
      clear hwy hres d0 d1 d2 d3 d4 d5 d6 d7 d8 d9 d10 d11 d12 fz
      obtain ⟨⟨e0, e1, e2, e3, e4, e5, e6, e7, e8, e9, e10, e11, e12⟩, ez⟩ := st_block (s := r9) hby
      refine bodyPost_ret (v := .agg #[.int .i64 r9.author, .int .i64 r9.number, .string r9.prev, .int .i64 r9.time, .int .i64 r9.kind, .int .i64 r9.a, .int .i64 r9.b, .int .i64 r9.c, .slice l0.ao l0.n l0.c, .slice q0.ao q0.n q0.c, .string r9.body, .int .i64 r9.key, .string r9.dig]) (by simp [results, Try.results59, go_sem, e0, e1, e2, e3, e4, e5, e6, e7, e8, e9, e10, e11, e12]) rfl ?_
      exact ⟨r9, _, _, _, _, _, _, rfl, HR9.out, HLY.out, HEY.out.2, HEY.out.1⟩
    · have ead : (r1.a == a) = false := by simp [ea]
      clear ea
      go_upto_region 17 with (fail)
      clear d0 d1 d2 d3 d4 d5 d6 d7 d8 d9 d10 d11 d12 fz
      obtain ⟨r9, hr9⟩ : ∃ r9, r9 = r1 := ⟨_, rfl⟩
      have HR9 : Hid (r9.author = a ∧ r9.time = t ∧ Small r9) := Lib.hid (by rw [hr9]; exact ⟨HRr1.out.1, HRr1.out.2.1, ⟨by rw [HRr1.out.2.2.1]; simp, by rw [HRr1.out.2.2.2.1]; simp, by rw [HRr1.out.2.2.2.2.1]; show (0 : Nat) ≤ _; omega, by rw [HRr1.out.2.2.2.2.2]; show (0 : Nat) ≤ _; omega, by rw [HRr1.out.2.2.2.1]; simp⟩⟩)
      have M9 : Hid (BoxD N p w1.heap.size (w1.heap.size + 1) w0 w5 r9 l0 q0) := Lib.hid (by rw [hr9]; exact M5.out)
      clear hr9
      obtain ⟨⟨d0, d1, d2, d3, d4, d5, d6, d7, d8, d9, d10, d11, d12⟩, fz⟩ := M9.out.cells
      have hres : w5.heap[w.heap.size]? = some (.cells #[.int .i64 0, .int .i64 0, .string ⟨#[]⟩, .int .i64 0, .int .i64 0, .int .i64 0, .int .i64 0, .int .i64 0, .slice none 0 0, .slice none 0 0, .string ⟨#[]⟩, .int .i64 0, .string ⟨#[]⟩] 30 (0, 0)) := (M9.out.ex.block _ (by omega) (by simp; omega)).trans HRES.out
      have hz9 : w0.heap.size ≤ w5.heap.size := M9.out.ex.size
      go_wp2_with (refine wpList_store_rowTo rfl 30 (.tmp 6) (.tmp 88) rfl rfl w.heap.size #[.int .i64 r9.author, .int .i64 r9.number, .string r9.prev, .int .i64 r9.time, .int .i64 r9.kind, .int .i64 r9.a, .int .i64 r9.b, .int .i64 r9.c, .slice l0.ao l0.n l0.c, .slice q0.ao q0.n q0.c, .string r9.body, .int .i64 r9.key, .string r9.dig] (by rfl) (by rfl) 30 #[.int .i64 0, .int .i64 0, .string ⟨#[]⟩, .int .i64 0, .int .i64 0, .int .i64 0, .int .i64 0, .int .i64 0, .slice none 0 0, .slice none 0 0, .string ⟨#[]⟩, .int .i64 0, .string ⟨#[]⟩] hres Try.sizeSt rfl (by simp [Value.oneCell']) ?_)
      obtain ⟨wy, hwy⟩ : ∃ wy : World, wy = w5.setRow w.heap.size #[.int .i64 r9.author, .int .i64 r9.number, .string r9.prev, .int .i64 r9.time, .int .i64 r9.kind, .int .i64 r9.a, .int .i64 r9.b, .int .i64 r9.c, .slice l0.ao l0.n l0.c, .slice q0.ao q0.n q0.c, .string r9.body, .int .i64 r9.key, .string r9.dig] := ⟨_, rfl⟩
      have HEY : Hid (Ex w.heap.size (some p) w wy ∧ DiceOK N wy p) := Lib.hid (by
        rw [hwy]
        exact ⟨((HE0.out.weaken _).trans M9.out.ex (by omega) (fun q e _ => by cases e; rfl)).setRow _ _ (.inr (Nat.le_refl _)), M9.out.dice.keep (B := N) ((Ex.refl _ _ _).setRow _ _ (.inr hN)) (Nat.le_refl _)⟩)
      have HLY : Hid (Lies (fun b => w.heap.size ≤ b) wy (r9, l0, q0)) := Lib.hid (by
        rw [hwy]
        exact (M9.out.lies.keep (w' := w5.setRow _ _) fun b h1 _ => setRow_other _ _ _ _ (by omega)).mono fun b h _ => by omega)
      have hby : wy.heap[w.heap.size]? = some (.cells #[.int .i64 r9.author, .int .i64 r9.number, .string r9.prev, .int .i64 r9.time, .int .i64 r9.kind, .int .i64 r9.a, .int .i64 r9.b, .int .i64 r9.c, .slice l0.ao l0.n l0.c, .slice q0.ao q0.n q0.c, .string r9.body, .int .i64 r9.key, .string r9.dig] 30 (0, 0)) := by rw [hwy]; exact setRow_heap _ _ _ _ _ _ hres
      rw [← hwy]
      clear hwy hres d0 d1 d2 d3 d4 d5 d6 d7 d8 d9 d10 d11 d12 fz
      obtain ⟨⟨e0, e1, e2, e3, e4, e5, e6, e7, e8, e9, e10, e11, e12⟩, ez⟩ := st_block (s := r9) hby
      refine bodyPost_ret (v := .agg #[.int .i64 r9.author, .int .i64 r9.number, .string r9.prev, .int .i64 r9.time, .int .i64 r9.kind, .int .i64 r9.a, .int .i64 r9.b, .int .i64 r9.c, .slice l0.ao l0.n l0.c, .slice q0.ao q0.n q0.c, .string r9.body, .int .i64 r9.key, .string r9.dig]) (by simp [results, Try.results59, go_sem, e0, e1, e2, e3, e4, e5, e6, e7, e8, e9, e10, e11, e12]) rfl ?_
      exact ⟨r9, _, _, _, _, _, _, rfl, HR9.out, HLY.out, HEY.out.2, HEY.out.1⟩
  · have c1d : (r0.kind == 1) = false := by simp [c1]
    clear c1
    by_cases c2 : r0.kind = 2
    · have c2d : (r0.kind == 2) = true := by simp [c2]
      clear c2
      go_upto_region 17 with (first
        | (go_at_call 39
           (fail_if_success (first | have _x := M2 | fail))
           refine (next_w N p 4 _ M1.out.dice (by omega) (by omega)).mono ?_
           rintro e w2 ⟨k1, rfl, hk1, hd, hex⟩
           have M2 := Lib.hid (M1.out.call hd hex)
           clear hd hex
           clear d0 d1 d2 d3 d4 d5 d6 d7 d8 d9 d10 d11 d12 fz
           obtain ⟨⟨d0, d1, d2, d3, d4, d5, d6, d7, d8, d9, d10, d11, d12⟩, fz⟩ := M2.out.cells)
        | fail)
      obtain ⟨w3, hw3⟩ : ∃ w3 : World, w3 = w2.setCell ⟨w1.heap.size, 5, none⟩ (.int .i64 k1) := ⟨_, rfl⟩
      have M3 : Hid (BoxD N p w1.heap.size (w1.heap.size + 1) w0 w3 { r0 with a := k1 } l0 q0) := Lib.hid (by
        rw [hw3]
        exact M2.out.set 5 (.int .i64 k1) (r' := { r0 with a := k1 }) (l' := l0) (q' := q0) rfl (Lies.same M2.out.lies rfl rfl))
      rw [← hw3]
      clear hw3 d0 d1 d2 d3 d4 d5 d6 d7 d8 d9 d10 d11 d12 fz
      obtain ⟨r9, hr9⟩ : ∃ r9, r9 = { r0 with a := (k1 : Int) } := ⟨_, rfl⟩
      have HR9 : Hid (r9.author = a ∧ r9.time = t ∧ Small r9) := Lib.hid (by rw [hr9]; exact ⟨HRr0.out.1, HRr0.out.2.1, ⟨by rw [HRr0.out.2.2.1]; simp, by rw [HRr0.out.2.2.2.1]; simp, by rw [HRr0.out.2.2.2.2.1]; show (0 : Nat) ≤ _; omega, by rw [HRr0.out.2.2.2.2.2]; show (0 : Nat) ≤ _; omega, by rw [HRr0.out.2.2.2.1]; simp⟩⟩)
      have M9 : Hid (BoxD N p w1.heap.size (w1.heap.size + 1) w0 w3 r9 l0 q0) := Lib.hid (by rw [hr9]; exact M3.out)
      clear hr9
      obtain ⟨⟨d0, d1, d2, d3, d4, d5, d6, d7, d8, d9, d10, d11, d12⟩, fz⟩ := M9.out.cells
      have hres : w3.heap[w.heap.size]? = some (.cells #[.int .i64 0, .int .i64 0, .string ⟨#[]⟩, .int .i64 0, .int .i64 0, .int .i64 0, .int .i64 0, .int .i64 0, .slice none 0 0, .slice none 0 0, .string ⟨#[]⟩, .int .i64 0, .string ⟨#[]⟩] 30 (0, 0)) := (M9.out.ex.block _ (by omega) (by simp; omega)).trans HRES.out
      have hz9 : w0.heap.size ≤ w3.heap.size := M9.out.ex.size
      go_wp2_with (refine wpList_store_rowTo rfl 30 (.tmp 6) (.tmp 88) rfl rfl w.heap.size #[.int .i64 r9.author, .int .i64 r9.number, .string r9.prev, .int .i64 r9.time, .int .i64 r9.kind, .int .i64 r9.a, .int .i64 r9.b, .int .i64 r9.c, .slice l0.ao l0.n l0.c, .slice q0.ao q0.n q0.c, .string r9.body, .int .i64 r9.key, .string r9.dig] (by rfl) (by rfl) 30 #[.int .i64 0, .int .i64 0, .string ⟨#[]⟩, .int .i64 0, .int .i64 0, .int .i64 0, .int .i64 0, .int .i64 0, .slice none 0 0, .slice none 0 0, .string ⟨#[]⟩, .int .i64 0, .string ⟨#[]⟩] hres Try.sizeSt rfl (by simp [Value.oneCell']) ?_)
      obtain ⟨wy, hwy⟩ : ∃ wy : World, wy = w3.setRow w.heap.size #[.int .i64 r9.author, .int .i64 r9.number, .string r9.prev, .int .i64 r9.time, .int .i64 r9.kind, .int .i64 r9.a, .int .i64 r9.b, .int .i64 r9.c, .slice l0.ao l0.n l0.c, .slice q0.ao q0.n q0.c, .string r9.body, .int .i64 r9.key, .string r9.dig] := ⟨_, rfl⟩
      have HEY : Hid (Ex w.heap.size (some p) w wy ∧ DiceOK N wy p) := Lib.hid (by
        rw [hwy]
        exact ⟨((HE0.out.weaken _).trans M9.out.ex (by omega) (fun q e _ => by cases e; rfl)).setRow _ _ (.inr (Nat.le_refl _)), M9.out.dice.keep (B := N) ((Ex.refl _ _ _).setRow _ _ (.inr hN)) (Nat.le_refl _)⟩)
      have HLY : Hid (Lies (fun b => w.heap.size ≤ b) wy (r9, l0, q0)) := Lib.hid (by
        rw [hwy]
        exact (M9.out.lies.keep (w' := w3.setRow _ _) fun b h1 _ => setRow_other _ _ _ _ (by omega)).mono fun b h _ => by omega)
      have hby : wy.heap[w.heap.size]? = some (.cells #[.int .i64 r9.author, .int .i64 r9.number, .string r9.prev, .int .i64 r9.time, .int .i64 r9.kind, .int .i64 r9.a, .int .i64 r9.b, .int .i64 r9.c, .slice l0.ao l0.n l0.c, .slice q0.ao q0.n q0.c, .string r9.body, .int .i64 r9.key, .string r9.dig] 30 (0, 0)) := by rw [hwy]; exact setRow_heap _ _ _ _ _ _ hres
      rw [← hwy]
      clear hwy hres d0 d1 d2 d3 d4 d5 d6 d7 d8 d9 d10 d11 d12 fz
      obtain ⟨⟨e0, e1, e2, e3, e4, e5, e6, e7, e8, e9, e10, e11, e12⟩, ez⟩ := st_block (s := r9) hby
      refine bodyPost_ret (v := .agg #[.int .i64 r9.author, .int .i64 r9.number, .string r9.prev, .int .i64 r9.time, .int .i64 r9.kind, .int .i64 r9.a, .int .i64 r9.b, .int .i64 r9.c, .slice l0.ao l0.n l0.c, .slice q0.ao q0.n q0.c, .string r9.body, .int .i64 r9.key, .string r9.dig]) (by simp [results, Try.results59, go_sem, e0, e1, e2, e3, e4, e5, e6, e7, e8, e9, e10, e11, e12]) rfl ?_
      exact ⟨r9, _, _, _, _, _, _, rfl, HR9.out, HLY.out, HEY.out.2, HEY.out.1⟩
    · have c2d : (r0.kind == 2) = false := by simp [c2]
      clear c2
      go_upto_region 4 with (first
        | (go_at_call 39
           (fail_if_success (first | have _x := M2 | fail))
           refine (next_w N p 9 _ M1.out.dice (by omega) (by omega)).mono ?_
           rintro e w2 ⟨k1, rfl, hk1, hd, hex⟩
           have M2 := Lib.hid (M1.out.call hd hex)
           clear hd hex)
        | (go_at_call 58
           (fail_if_success (first | have _x := M3 | fail))
           refine (of_w N p _ [0, 1099511627776] _ (M2.out.new _).dice (IntsO.lit _ rfl rfl (by have := M2.out.pos; have := M2.out.ex.size; omega)) (by decide) (by decide)).mono ?_
           rintro e w3 ⟨y2, rfl, hy2, hd, hex⟩
           have M3 := Lib.hid ((M2.out.new _).call hd hex)
           have by2 : 0 ≤ y2 ∧ y2 ≤ 1099511627776 := by simp at hy2; omega
           clear hd hex hy2)
        | (go_at_call 39
           (fail_if_success (first | have _x := M4 | fail))
           refine (next_w N p 3 _ M3.out.dice (by omega) (by omega)).mono ?_
           rintro e w4 ⟨k2, rfl, hk2, hd, hex⟩
           have M4 := Lib.hid (M3.out.call hd hex)
           clear hd hex
           clear d0 d1 d2 d3 d4 d5 d6 d7 d8 d9 d10 d11 d12 fz
           obtain ⟨⟨d0, d1, d2, d3, d4, d5, d6, d7, d8, d9, d10, d11, d12⟩, fz⟩ := M4.out.cells)
        | fail)
      obtain ⟨r1, hr1⟩ : ∃ r1 : St, r1 = { r0 with a := (k1 : Int), b := y2, c := (k2 : Int) } := ⟨_, rfl⟩
      obtain ⟨w5, hw5⟩ : ∃ w5 : World, w5 = ((w4.setCell ⟨w1.heap.size, 5, none⟩ (.int .i64 ((k1 : Int)))).setCell ⟨w1.heap.size, 6, none⟩ (.int .i64 (y2))).setCell ⟨w1.heap.size, 7, none⟩ (.int .i64 ((k2 : Int))) := ⟨_, rfl⟩
      have M5 : Hid (BoxD N p w1.heap.size (w1.heap.size + 1) w0 w5 r1 l0 q0) := Lib.hid (by
        rw [hw5, hr1]
        have A := M4.out.set 5 (.int .i64 ((k1 : Int))) (r' := { r0 with a := (k1 : Int) }) (l' := l0) (q' := q0) rfl (Lies.same M4.out.lies rfl rfl)
        have B := A.set 6 (.int .i64 (y2)) (r' := { r0 with a := (k1 : Int), b := y2 }) (l' := l0) (q' := q0) rfl (Lies.same A.lies rfl rfl)
        exact B.set 7 (.int .i64 ((k2 : Int))) (r' := { r0 with a := (k1 : Int), b := y2, c := (k2 : Int) }) (l' := l0) (q' := q0) rfl (Lies.same B.lies rfl rfl))
      have HRr1 : Hid (r1.author = a ∧ r1.time = t ∧ r1.list = [] ∧ r1.pins = [] ∧ r1.prev = ⟨#[]⟩ ∧ r1.body = ⟨#[]⟩) := Lib.hid (by rw [hr1]; exact HRr0.out)
      rw [← hw5]
      clear hw5 hr1 d0 d1 d2 d3 d4 d5 d6 d7 d8 d9 d10 d11 d12 fz
      go_wp2_with (first
        | (go_at_call 39
           (fail_if_success (first | have _x := M6 | fail))
           refine (next_w N p 3 _ M5.out.dice (by omega) (by omega)).mono ?_
           rintro e w6 ⟨n0, rfl, hn0, hd, hex⟩
           have M6 := Lib.hid (M5.out.call hd hex)
           clear hd hex)
        | fail)
      have hn0 : n0 ≤ 2 := by omega
      go_loopw [8] (fun i wr => ∃ (m k : Nat) (ro : Option Addr) (rc : Nat) (xs : List Int) (r : St), i = .int .i64 m ∧ k + m ≤ 2 ∧ Hid (xs.length = k) ∧ Hid (OwnE intE 1 3 wr (w1.heap.size + 1) ro rc xs) ∧ Hid (BoxD N p w1.heap.size (w1.heap.size + 1) w0 wr r ⟨ro, k, rc⟩ q0) ∧ Hid (r.author = a ∧ r.time = t ∧ r.list = xs ∧ r.pins = [] ∧ r.prev = ⟨#[]⟩ ∧ r.body = ⟨#[]⟩)) (fun i _ => (intOf i).toNat)
      case atStart => exact ⟨n0, 0, none, 0, [], r1, rfl, by omega, Lib.hid rfl, Lib.hid (OwnE.nil _ _ _ _ _), Lib.hid (by have h := M6.out; rw [HL0.out] at h; exact h), HRr1⟩
      case round =>
        obtain ⟨m, k, ro, rc, xs, r, rfl, hkm, HK, HO, M, HR⟩ := hrel
        have hpos := M.out.pos
        have hwr := M.out.ex.size
        by_cases h0 : 0 < m
        · have h0I : (0 : Int) < (m : Int) := by omega
          have h0d : decide (0 < m) = true := decide_eq_true h0
          obtain ⟨⟨d0, d1, d2, d3, d4, d5, d6, d7, d8, d9, d10, d11, d12⟩, fz⟩ := M.out.cells
          have d8a : ∀ o : Obj, (wr.alloc o).cell? ⟨w1.heap.size, 8, none⟩ = some (.slice ro k rc) := fun o => (M.out.new o).cells.1.2.2.2.2.2.2.2.2.1
          go_upto_region 7 with (fail)
          go_region_law (first
            | (refine step_appE rfl (.tmp 34) (.tmp 38) _ 3 (by rfl) Try.underlying25 _ 1 8 Try.infoInt rfl (by decide) (by decide) intE intE_len one_intE (w1.heap.size + 1) ro rc k xs HK.out (by rfl) (some ⟨w7.heap.size, 0, none⟩) 1 1 (by rfl) [y3] rfl (HO7.out.keep (Ex.new w7 _) (Nat.le_refl _) (by simp)) (lit_cells rfl) (by omega) (by simp; omega) (k + 1) (by omega) ?_
               intro ro8 rc8 w8 hown8 hex8 _ _
               have HO8 : Hid (OwnE intE 1 3 w8 (w1.heap.size + 1) ro8 rc8 (xs ++ [y3]) ∧ Ex (w1.heap.size + 1) none w7 w8) := Lib.hid ⟨hown8, ((Ex.new w7 _).mono (by omega)).trans hex8 (Nat.le_refl _) (by simp)⟩
               clear hown8 hex8
               clear d0 d1 d2 d3 d4 d5 d6 d7 d8 d9 d10 d11 d12 fz
               obtain ⟨⟨d0, d1, d2, d3, d4, d5, d6, d7, d8, d9, d10, d11, d12⟩, fz⟩ := st_block ((HO8.out.2.block w1.heap.size (by omega) (by simp)).trans M7.out.blk))
            | (go_simp
               go_at_call 58
               refine (of_w N p _ [0, 5, 1099511627776] _ (M.out.drew.new _).dice (IntsO.lit _ rfl rfl (by show p < wr.heap.size; omega)) (by decide) (by decide)).mono ?_
               rintro e w7 ⟨y3, rfl, hy3, hd, hex⟩
               have M7 := Lib.hid ((M.out.drew.new _).call hd hex)
               have hz7 : wr.heap.size ≤ w7.heap.size := by have := hex.size; simp at this; omega
               have HO7 : Hid (OwnE intE 1 3 w7 (w1.heap.size + 1) ro rc xs) := Lib.hid (HO.out.keep (((Ex.refl wr.heap.size (some p) wr).drew.alloc (Nat.le_refl _) _).trans hex (by simp) (fun q e _ => by cases e; rfl)) (Nat.le_refl _) (fun q e => by cases e; omega))
               clear hd hex hy3
               clear d0 d1 d2 d3 d4 d5 d6 d7 d8 d9 d10 d11 d12 fz
               have d8b : ∀ o : Obj, (w7.alloc o).cell? ⟨w1.heap.size, 8, none⟩ = some (.slice ro k rc) := fun o => (M7.out.new o).cells.1.2.2.2.2.2.2.2.2.1
               obtain ⟨⟨d0, d1, d2, d3, d4, d5, d6, d7, d8, d9, d10, d11, d12⟩, fz⟩ := M7.out.cells)
            | fail)
          all_goals (
            obtain ⟨w9, hw9⟩ : ∃ w9 : World, w9 = w8.setCell ⟨w1.heap.size, 8, none⟩ (.slice ro8 (k + 1) rc8) := ⟨_, rfl⟩
            have M9 : Hid (BoxD N p w1.heap.size (w1.heap.size + 1) w0 w9 { r with list := xs ++ [y3] } ⟨ro8, k + 1, rc8⟩ q0) := Lib.hid (by
              rw [hw9]
              refine M7.out.app HO8.out.2 ⟨by omega, by omega⟩ 8 (.slice ro8 (k + 1) rc8) (r' := { r with list := xs ++ [y3] }) (l' := ⟨ro8, k + 1, rc8⟩) (q' := q0) rfl ⟨?_, ?_⟩
              · have h := own_intE_sl HO8.out.1
                rw [List.length_append, HK.out] at h
                exact h.mono (by decide) fun b h _ => ⟨h, by omega⟩
              · show Sl pinRep _ _ _ r.pins
                rw [HR.out.2.2.2.1]
                have h := M.out.lies.2
                change Sl pinRep _ _ _ r.pins at h
                rw [HR.out.2.2.2.1] at h
                obtain ⟨_, _, e, _⟩ := h
                exact ⟨_, _, e, SlAt.nil _ _ _⟩)
            have HO9 : Hid (OwnE intE 1 3 w9 (w1.heap.size + 1) ro8 rc8 (xs ++ [y3])) := Lib.hid (by
              rw [hw9]
              exact HO8.out.1.keep (p := some w1.heap.size) ((Ex.refl _ _ w8).setCell _ _ _ (.inl rfl)) (Nat.le_refl _) (fun q e => by cases e; omega))
            rw [← hw9]
            clear hw9 d0 d1 d2 d3 d4 d5 d6 d7 d8 d9 d10 d11 d12 fz
            go_wp2
            go_roundw
            case rel => exact ⟨m - 1, k + 1, ro8, rc8, xs ++ [y3], { r with list := xs ++ [y3] }, by first | go_num | (congr 1; omega), by omega, Lib.hid (by rw [List.length_append, HK.out]; rfl), HO9, M9, Lib.hid ⟨HR.out.1, HR.out.2.1, rfl, HR.out.2.2.2⟩⟩
            case measure => simp [intOf] <;> omega)
        · have h0I : ¬ (0 : Int) < (m : Int) := by omega
          have h0d : decide (0 < m) = false := decide_eq_false h0
          obtain ⟨lq, hlq⟩ : ∃ lq : Sv, lq = ⟨ro, k, rc⟩ := ⟨_, rfl⟩
          have ML : Hid (BoxD N p w1.heap.size (w1.heap.size + 1) w0 wr r lq q0) := Lib.hid (by rw [hlq]; exact M.out)
          clear hlq
          go_upto_if 42 with (first
            | (go_at_call 57
               refine (one_w N p 3 _ ML.out.dice (by omega) (by omega)).mono ?_
               rintro e wo ⟨bo, rfl, hd, hex⟩
               have MO := Lib.hid (ML.out.call hd hex)
               clear hd hex)
            | fail)
          cases bo with
          | true =>
            go_upto_region 10 with (first
              | (go_at_call 39
                 (fail_if_success (first | have _x := MP | fail))
                 refine (next_w N p 5 _ MO.out.dice (by omega) (by omega)).mono ?_
                 rintro e wp5 ⟨k5, rfl, hk5, hd, hex⟩
                 have MP := Lib.hid (MO.out.call hd hex)
                 clear hd hex)
              | (go_at_call 39
                 (fail_if_success (first | have _x := MQ | fail))
                 refine (next_w N p 4 _ MP.out.dice (by omega) (by omega)).mono ?_
                 rintro e wq ⟨k6, rfl, hk6, hd, hex⟩
                 have MQ := Lib.hid (MP.out.call hd hex)
                 clear hd hex)
              | (go_at_call 54
                 refine (digestD_w N p _ MQ.out.dice (by have := MQ.out.pos; have := MQ.out.ex.size; omega)).mono ?_
                 rintro e ws ⟨sg, rfl, hsg, hd, hex⟩
                 have MS0 := Lib.hid (MQ.out.call hd hex)
                 have MS := Lib.hid (MS0.out.new (.cells #[.int .i64 k5, .int .i64 (1 + (k6 : Int)), .string sg] 66))
                 have HSG := Lib.hid hsg
                 clear hd hex hsg
                 obtain ⟨⟨d0, d1, d2, d3, d4, d5, d6, d7, d8, d9, d10, d11, d12⟩, fz⟩ := MS.out.cells)
              | fail)
            obtain ⟨wz, hwz⟩ : ∃ wz : World, wz = (ws.alloc (.cells #[.int .i64 k5, .int .i64 (1 + (k6 : Int)), .string sg] 66)).setCell ⟨w1.heap.size, 9, none⟩ (.slice (some ⟨ws.heap.size, 0, none⟩) 1 1) := ⟨_, rfl⟩
            obtain ⟨pq, hpq⟩ : ∃ pq : Sv, pq = ⟨some ⟨ws.heap.size, 0, none⟩, 1, 1⟩ := ⟨_, rfl⟩
            obtain ⟨rz, hrz⟩ : ∃ rz : St, rz = { r with pins := [((k5 : Int), 1 + (k6 : Int), sg)] } := ⟨_, rfl⟩
            have MZ : Hid (BoxD N p w1.heap.size (w1.heap.size + 1) w0 wz rz lq pq) := Lib.hid (by
              rw [hwz, hpq, hrz]
              exact MS.out.set 9 (.slice (some ⟨ws.heap.size, 0, none⟩) 1 1) (r' := { r with pins := [((k5 : Int), 1 + (k6 : Int), sg)] }) (l' := lq) (q' := ⟨some ⟨ws.heap.size, 0, none⟩, 1, 1⟩) rfl ⟨MS.out.lies.1, (pin_lit (base := w1.heap.size + 1) (by have := MS0.out.pos; omega) _ _ _).mono (by decide) fun b h _ => ⟨h, by omega⟩⟩)
            have HRZ : Hid (rz.author = a ∧ rz.time = t ∧ rz.list.length ≤ 2 ∧ rz.pins.length ≤ 1 ∧ rz.prev = ⟨#[]⟩ ∧ ∀ p ∈ rz.pins, p.2.2.size ≤ 32) := Lib.hid (by
              rw [hrz]
              exact ⟨HR.out.1, HR.out.2.1, by show r.list.length ≤ 2; rw [HR.out.2.2.1, HK.out]; omega, by simp, HR.out.2.2.2.2.1, fun p hp => by simp at hp; subst hp; have := HSG.out; show sg.size ≤ _; omega⟩)
            rw [← hwz]
            clear hwz hpq hrz d0 d1 d2 d3 d4 d5 d6 d7 d8 d9 d10 d11 d12 fz
            obtain ⟨⟨d0, d1, d2, d3, d4, d5, d6, d7, d8, d9, d10, d11, d12⟩, fz⟩ := MZ.out.cells
            go_upto_region 17 with (first
              | (go_at_call 70
                 refine (bytesD_w N p 5 _ MZ.out.dice (by have := MZ.out.pos; have := MZ.out.ex.size; omega) (by decide)).mono ?_
                 rintro e wb ⟨vb, xb, rfl, hvb, hlb, hd, hex⟩
                 have MB := Lib.hid (MZ.out.call hd hex)
                 have HXB := Lib.hid hlb
                 have hconv := run_strOf (P := Try.prog) (src := 81) (dst := 9) hvb.sl Try.underlying81 Try.underlying5 Try.underlying9
                 clear hd hex hlb hvb
                 clear d0 d1 d2 d3 d4 d5 d6 d7 d8 d9 d10 d11 d12 fz
                 obtain ⟨⟨d0, d1, d2, d3, d4, d5, d6, d7, d8, d9, d10, d11, d12⟩, fz⟩ := MB.out.cells)
              | fail)
            obtain ⟨wf, hwf⟩ : ∃ wf : World, wf = wb.setCell ⟨w1.heap.size, 10, none⟩ (.string (strOf xb)) := ⟨_, rfl⟩
            have MF : Hid (BoxD N p w1.heap.size (w1.heap.size + 1) w0 wf { rz with body := strOf xb } lq pq) := Lib.hid (by
              rw [hwf]
              exact MB.out.set 10 (.string (strOf xb)) (r' := { rz with body := strOf xb }) (l' := lq) (q' := pq) rfl (Lies.same MB.out.lies rfl rfl))
            rw [← hwf]
            clear hwf hconv d0 d1 d2 d3 d4 d5 d6 d7 d8 d9 d10 d11 d12 fz
            obtain ⟨r9, hr9⟩ : ∃ r9, r9 = { rz with body := strOf xb } := ⟨_, rfl⟩
            have HR9 : Hid (r9.author = a ∧ r9.time = t ∧ Small r9) := Lib.hid (by rw [hr9]; exact ⟨HRZ.out.1, HRZ.out.2.1, ⟨HRZ.out.2.2.1, HRZ.out.2.2.2.1, by rw [HRZ.out.2.2.2.2.1]; show (0 : Nat) ≤ _; omega, by show (strOf xb).size ≤ _; rw [strOf_size]; exact HXB.out, HRZ.out.2.2.2.2.2⟩⟩)
            have M9 : Hid (BoxD N p w1.heap.size (w1.heap.size + 1) w0 wf r9 lq pq) := Lib.hid (by rw [hr9]; exact MF.out)
            clear hr9
            obtain ⟨⟨d0, d1, d2, d3, d4, d5, d6, d7, d8, d9, d10, d11, d12⟩, fz⟩ := M9.out.cells
            have hres : wf.heap[w.heap.size]? = some (.cells #[.int .i64 0, .int .i64 0, .string ⟨#[]⟩, .int .i64 0, .int .i64 0, .int .i64 0, .int .i64 0, .int .i64 0, .slice none 0 0, .slice none 0 0, .string ⟨#[]⟩, .int .i64 0, .string ⟨#[]⟩] 30 (0, 0)) := (M9.out.ex.block _ (by omega) (by simp; omega)).trans HRES.out
            have hz9 : w0.heap.size ≤ wf.heap.size := M9.out.ex.size
            go_wp2_with (refine wpList_store_rowTo rfl 30 (.tmp 6) (.tmp 88) rfl rfl w.heap.size #[.int .i64 r9.author, .int .i64 r9.number, .string r9.prev, .int .i64 r9.time, .int .i64 r9.kind, .int .i64 r9.a, .int .i64 r9.b, .int .i64 r9.c, .slice lq.ao lq.n lq.c, .slice pq.ao pq.n pq.c, .string r9.body, .int .i64 r9.key, .string r9.dig] (by rfl) (by rfl) 30 #[.int .i64 0, .int .i64 0, .string ⟨#[]⟩, .int .i64 0, .int .i64 0, .int .i64 0, .int .i64 0, .int .i64 0, .slice none 0 0, .slice none 0 0, .string ⟨#[]⟩, .int .i64 0, .string ⟨#[]⟩] hres Try.sizeSt rfl (by simp [Value.oneCell']) ?_)
            obtain ⟨wy, hwy⟩ : ∃ wy : World, wy = wf.setRow w.heap.size #[.int .i64 r9.author, .int .i64 r9.number, .string r9.prev, .int .i64 r9.time, .int .i64 r9.kind, .int .i64 r9.a, .int .i64 r9.b, .int .i64 r9.c, .slice lq.ao lq.n lq.c, .slice pq.ao pq.n pq.c, .string r9.body, .int .i64 r9.key, .string r9.dig] := ⟨_, rfl⟩
            have HEY : Hid (Ex w.heap.size (some p) w wy ∧ DiceOK N wy p) := Lib.hid (by
              rw [hwy]
              exact ⟨((HE0.out.weaken _).trans M9.out.ex (by omega) (fun q e _ => by cases e; rfl)).setRow _ _ (.inr (Nat.le_refl _)), M9.out.dice.keep (B := N) ((Ex.refl _ _ _).setRow _ _ (.inr hN)) (Nat.le_refl _)⟩)
            have HLY : Hid (Lies (fun b => w.heap.size ≤ b) wy (r9, lq, pq)) := Lib.hid (by
              rw [hwy]
              exact (M9.out.lies.keep (w' := wf.setRow _ _) fun b h1 _ => setRow_other _ _ _ _ (by omega)).mono fun b h _ => by omega)
            have hby : wy.heap[w.heap.size]? = some (.cells #[.int .i64 r9.author, .int .i64 r9.number, .string r9.prev, .int .i64 r9.time, .int .i64 r9.kind, .int .i64 r9.a, .int .i64 r9.b, .int .i64 r9.c, .slice lq.ao lq.n lq.c, .slice pq.ao pq.n pq.c, .string r9.body, .int .i64 r9.key, .string r9.dig] 30 (0, 0)) := by rw [hwy]; exact setRow_heap _ _ _ _ _ _ hres
            rw [← hwy]
            clear hwy hres d0 d1 d2 d3 d4 d5 d6 d7 d8 d9 d10 d11 d12 fz
            obtain ⟨⟨e0, e1, e2, e3, e4, e5, e6, e7, e8, e9, e10, e11, e12⟩, ez⟩ := st_block (s := r9) hby
            refine bodyPost_ret (v := .agg #[.int .i64 r9.author, .int .i64 r9.number, .string r9.prev, .int .i64 r9.time, .int .i64 r9.kind, .int .i64 r9.a, .int .i64 r9.b, .int .i64 r9.c, .slice lq.ao lq.n lq.c, .slice pq.ao pq.n pq.c, .string r9.body, .int .i64 r9.key, .string r9.dig]) (by simp [results, Try.results59, go_sem, e0, e1, e2, e3, e4, e5, e6, e7, e8, e9, e10, e11, e12]) rfl ?_
            exact ⟨r9, _, _, _, _, _, _, rfl, HR9.out, HLY.out, HEY.out.2, HEY.out.1⟩
          | false =>
            obtain ⟨pq, hpq⟩ : ∃ pq : Sv, pq = q0 := ⟨_, rfl⟩
            have MZ : Hid (BoxD N p w1.heap.size (w1.heap.size + 1) w0 wo r lq pq) := Lib.hid (by rw [hpq]; exact MO.out)
            have HRZ : Hid (r.author = a ∧ r.time = t ∧ r.list.length ≤ 2 ∧ r.pins.length ≤ 1 ∧ r.prev = ⟨#[]⟩ ∧ ∀ p ∈ r.pins, p.2.2.size ≤ 32) := Lib.hid
              ⟨HR.out.1, HR.out.2.1, by rw [HR.out.2.2.1, HK.out]; omega, by rw [HR.out.2.2.2.1]; simp, HR.out.2.2.2.2.1, by rw [HR.out.2.2.2.1]; simp⟩
            clear hpq
            obtain ⟨⟨d0, d1, d2, d3, d4, d5, d6, d7, d8, d9, d10, d11, d12⟩, fz⟩ := MZ.out.cells
            go_upto_region 17 with (first
              | (go_at_call 70
                 refine (bytesD_w N p 5 _ MZ.out.dice (by have := MZ.out.pos; have := MZ.out.ex.size; omega) (by decide)).mono ?_
                 rintro e wb ⟨vb, xb, rfl, hvb, hlb, hd, hex⟩
                 have MB := Lib.hid (MZ.out.call hd hex)
                 have HXB := Lib.hid hlb
                 have hconv := run_strOf (P := Try.prog) (src := 81) (dst := 9) hvb.sl Try.underlying81 Try.underlying5 Try.underlying9
                 clear hd hex hlb hvb
                 clear d0 d1 d2 d3 d4 d5 d6 d7 d8 d9 d10 d11 d12 fz
                 obtain ⟨⟨d0, d1, d2, d3, d4, d5, d6, d7, d8, d9, d10, d11, d12⟩, fz⟩ := MB.out.cells)
              | fail)
            obtain ⟨wf, hwf⟩ : ∃ wf : World, wf = wb.setCell ⟨w1.heap.size, 10, none⟩ (.string (strOf xb)) := ⟨_, rfl⟩
            have MF : Hid (BoxD N p w1.heap.size (w1.heap.size + 1) w0 wf { r with body := strOf xb } lq pq) := Lib.hid (by
              rw [hwf]
              exact MB.out.set 10 (.string (strOf xb)) (r' := { r with body := strOf xb }) (l' := lq) (q' := pq) rfl (Lies.same MB.out.lies rfl rfl))
            rw [← hwf]
            clear hwf hconv d0 d1 d2 d3 d4 d5 d6 d7 d8 d9 d10 d11 d12 fz
            obtain ⟨r9, hr9⟩ : ∃ r9, r9 = { r with body := strOf xb } := ⟨_, rfl⟩
            have HR9 : Hid (r9.author = a ∧ r9.time = t ∧ Small r9) := Lib.hid (by rw [hr9]; exact ⟨HRZ.out.1, HRZ.out.2.1, ⟨HRZ.out.2.2.1, HRZ.out.2.2.2.1, by rw [HRZ.out.2.2.2.2.1]; show (0 : Nat) ≤ _; omega, by show (strOf xb).size ≤ _; rw [strOf_size]; exact HXB.out, HRZ.out.2.2.2.2.2⟩⟩)
            have M9 : Hid (BoxD N p w1.heap.size (w1.heap.size + 1) w0 wf r9 lq pq) := Lib.hid (by rw [hr9]; exact MF.out)
            clear hr9
            obtain ⟨⟨d0, d1, d2, d3, d4, d5, d6, d7, d8, d9, d10, d11, d12⟩, fz⟩ := M9.out.cells
            have hres : wf.heap[w.heap.size]? = some (.cells #[.int .i64 0, .int .i64 0, .string ⟨#[]⟩, .int .i64 0, .int .i64 0, .int .i64 0, .int .i64 0, .int .i64 0, .slice none 0 0, .slice none 0 0, .string ⟨#[]⟩, .int .i64 0, .string ⟨#[]⟩] 30 (0, 0)) := (M9.out.ex.block _ (by omega) (by simp; omega)).trans HRES.out
            have hz9 : w0.heap.size ≤ wf.heap.size := M9.out.ex.size
            go_wp2_with (refine wpList_store_rowTo rfl 30 (.tmp 6) (.tmp 88) rfl rfl w.heap.size #[.int .i64 r9.author, .int .i64 r9.number, .string r9.prev, .int .i64 r9.time, .int .i64 r9.kind, .int .i64 r9.a, .int .i64 r9.b, .int .i64 r9.c, .slice lq.ao lq.n lq.c, .slice pq.ao pq.n pq.c, .string r9.body, .int .i64 r9.key, .string r9.dig] (by rfl) (by rfl) 30 #[.int .i64 0, .int .i64 0, .string ⟨#[]⟩, .int .i64 0, .int .i64 0, .int .i64 0, .int .i64 0, .int .i64 0, .slice none 0 0, .slice none 0 0, .string ⟨#[]⟩, .int .i64 0, .string ⟨#[]⟩] hres Try.sizeSt rfl (by simp [Value.oneCell']) ?_)
            obtain ⟨wy, hwy⟩ : ∃ wy : World, wy = wf.setRow w.heap.size #[.int .i64 r9.author, .int .i64 r9.number, .string r9.prev, .int .i64 r9.time, .int .i64 r9.kind, .int .i64 r9.a, .int .i64 r9.b, .int .i64 r9.c, .slice lq.ao lq.n lq.c, .slice pq.ao pq.n pq.c, .string r9.body, .int .i64 r9.key, .string r9.dig] := ⟨_, rfl⟩
            have HEY : Hid (Ex w.heap.size (some p) w wy ∧ DiceOK N wy p) := Lib.hid (by
              rw [hwy]
              exact ⟨((HE0.out.weaken _).trans M9.out.ex (by omega) (fun q e _ => by cases e; rfl)).setRow _ _ (.inr (Nat.le_refl _)), M9.out.dice.keep (B := N) ((Ex.refl _ _ _).setRow _ _ (.inr hN)) (Nat.le_refl _)⟩)
            have HLY : Hid (Lies (fun b => w.heap.size ≤ b) wy (r9, lq, pq)) := Lib.hid (by
              rw [hwy]
              exact (M9.out.lies.keep (w' := wf.setRow _ _) fun b h1 _ => setRow_other _ _ _ _ (by omega)).mono fun b h _ => by omega)
            have hby : wy.heap[w.heap.size]? = some (.cells #[.int .i64 r9.author, .int .i64 r9.number, .string r9.prev, .int .i64 r9.time, .int .i64 r9.kind, .int .i64 r9.a, .int .i64 r9.b, .int .i64 r9.c, .slice lq.ao lq.n lq.c, .slice pq.ao pq.n pq.c, .string r9.body, .int .i64 r9.key, .string r9.dig] 30 (0, 0)) := by rw [hwy]; exact setRow_heap _ _ _ _ _ _ hres
            rw [← hwy]
            clear hwy hres d0 d1 d2 d3 d4 d5 d6 d7 d8 d9 d10 d11 d12 fz
            obtain ⟨⟨e0, e1, e2, e3, e4, e5, e6, e7, e8, e9, e10, e11, e12⟩, ez⟩ := st_block (s := r9) hby
            refine bodyPost_ret (v := .agg #[.int .i64 r9.author, .int .i64 r9.number, .string r9.prev, .int .i64 r9.time, .int .i64 r9.kind, .int .i64 r9.a, .int .i64 r9.b, .int .i64 r9.c, .slice lq.ao lq.n lq.c, .slice pq.ao pq.n pq.c, .string r9.body, .int .i64 r9.key, .string r9.dig]) (by simp [results, Try.results59, go_sem, e0, e1, e2, e3, e4, e5, e6, e7, e8, e9, e10, e11, e12]) rfl ?_
            exact ⟨r9, _, _, _, _, _, _, rfl, HR9.out, HLY.out, HEY.out.2, HEY.out.1⟩
end Go.Proofs.Ytdmchekkcmjafaa
