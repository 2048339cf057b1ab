/- mill.Case: a contract. No statement of the seat. | ref23.Code, ref23.Right at a valid case and a content that fits but for its pins: contracts. No statement of the seat. | ref23.Draft at a valid case and a content that fits: a contract. No statement of the seat. | mill.Draft: a contract. No statement of the seat. | law36.awake in plain words: two statements with one number, and what Find answers. No program in sight; no statement of the seat. | Boxes of proofs that are written in parts. No statement of the seat. | ProofPairs in plain words: what a turned proof is worth. No program in sight; no statement of the seat. -/
import Derived.Test.YtaihmldiglgipaaGreatMg14
import Derived.Test.YtaihmldiglgipaaGreatDiceWG
import Derived.Test.YtaihmldiglgipaaGreatMg02
import Derived.Test.YtaihmldiglgipaaGreatMg11
import Derived.Test.YtaihmldiglgipaaGreatChk03G
import Derived.Test.YtaihmldiglgipaaGreatMg12
import Derived.Test.YtaihmldiglgipaaGreatMg13
import Derived.Test.YtaihmldiglgipaaGreatMg09
import Derived.Test.YtaihmldiglgipaaGreatMg03
import Derived.Deep.MidRow
import Derived.Deep.Upon
namespace Go.Proofs.YtaihmldiglgipaaGreat
open Go.RowKit Go.Sort
attribute [local go_sem ↓] rowLoad_ca rowStore_ca

/-- A case as mill.Case makes it. -/
def CaOK (ep : Int) (c : CaD) : Prop := c.1 = ep ∧ 1 ≤ c.2.1 ∧ c.2.1 ≤ 3 ∧ 0 ≤ c.2.2.1 ∧ c.2.2.1 ≤ 6 ∧ 0 ≤ c.2.2.2 ∧ c.2.2.2 ≤ 1 ∧ (c.2.1 = 1 → c.2.2.1 = 0 ∧ c.2.2.2 = 0)
theorem CaOK.valid {ep : Int} {c : CaD} (h : CaOK ep c) (h0 : 0 ≤ ep) (h1 : ep < 40) : validC c.1 c.2.1 c.2.2.1 c.2.2.2 = true := by
  obtain ⟨a1, a2, a3, a4, a5, a6, a7, a8⟩ := h
  unfold validC
  simp only [Bool.and_eq_true, decide_eq_true_eq]
  refine ⟨⟨⟨⟨⟨⟨by omega, by omega⟩, a4⟩, by omega⟩, a6⟩, a7⟩, ?_⟩
  split
  · rename_i hk
    simp only [Bool.and_eq_true, decide_eq_true_eq]
    exact a8 hk
  · simp only [Bool.or_eq_true, decide_eq_true_eq]
    omega
def CaseE (ep : Int) (e : Ending) : Prop := ∃ c : CaD, e = .returned (caV c) ∧ CaOK ep c
set_option maxHeartbeats 8000000 in
set_option maxRecDepth 100000 in
theorem caseM_w (N p : Nat) (ep : Int) (w : World) (hd : DiceOK N w p) (hN : N ≤ w.heap.size) :
    Calls Tryz.prog 12 #[.pointer (some ⟨p, 0, none⟩), .int .i64 ep] w fun e w' => CaseE ep e ∧ DiceOK N w' p ∧ Ex w.heap.size (some p) w w' := by
  have hpN := hd.lt
  obtain ⟨w1, hw1⟩ : ∃ w1 : World, w1 = w.alloc (.cells #[.int .i64 0, .int .i64 0, .int .i64 0, .int .i64 0] 50) := ⟨_, rfl⟩
  have HE1 : Hid (Ex w.heap.size none w w1) := Lib.hid (by rw [hw1]; exact Ex.new w _)
  have HD1 : Hid (DiceOK N w1 p) := Lib.hid (hd.keep HE1.out hN)
  have hz1 : w1.heap.size = w.heap.size + 1 := by rw [hw1]; simp
  have HR1 : Hid (w1.heap[w.heap.size]? = some (.cells #[.int .i64 0, .int .i64 0, .int .i64 0, .int .i64 0] 50 (0, 0))) := Lib.hid (by rw [hw1]; exact heap_alloc_new _ _)
  clear hd
  go_enter Tryz.func12, Tryz.ntmps12
  go_upto_region 1 with (fail)
  refine wp_world (fun W => W = w1) (by rw [hw1]) (fun W hW => ?_)
  rw [hW]
  clear hW W hw1
  go_upto_region 2 with (first
    | (go_at_call 13
       refine (next_w N p 3 w1 HD1.out (by omega) (by omega)).mono ?_
       rintro e w2 ⟨k, rfl, hk, hd2, hex2⟩
       have H2 : Hid (DiceOK N w2 p ∧ Ex w1.heap.size (some p) w1 w2) := Lib.hid ⟨hd2, hex2⟩
       have hz2 : w1.heap.size ≤ w2.heap.size := hex2.size
       have hwp : IntKind.i64.wrap (1 + (k : Int)) = 1 + (k : Int) := by rw [IntKind.wrap_i64]; omega
       have hn2 : (rowStore 50 ⟨w2.heap.size, 0, none⟩ (.agg #[.int .i64 ep, .int .i64 (1 + (k : Int)), .int .i64 0, .int .i64 0])).run Tryz.prog (w2.alloc (.cells #[.int .i64 0, .int .i64 0, .int .i64 0, .int .i64 0] 50)) = .ok () (w2.alloc (.cells (caE (ep, 1 + (k : Int), 0, 0)).toArray 50)) := caV_new w2 _ (ep, 1 + (k : Int), 0, 0) rfl
       clear hd2 hex2)
    | fail)
  obtain ⟨w3, hw3⟩ : ∃ w3 : World, w3 = w2.alloc (.cells (caE (ep, 1 + (k : Int), 0, 0)).toArray 50) := ⟨_, rfl⟩
  have HE3 : Hid (Ex w1.heap.size (some p) w1 w3) := Lib.hid (by rw [hw3]; exact H2.out.2.alloc hz2 _)
  have HD3 : Hid (DiceOK N w3 p) := Lib.hid (by rw [hw3]; exact H2.out.1.keep (Ex.new w2 _) (by omega))
  have HB3 : Hid (w3.heap[w2.heap.size]? = some (.cells (caE (ep, 1 + (k : Int), 0, 0)).toArray 50 (0, 0))) := Lib.hid (by rw [hw3]; exact heap_alloc_new _ _)
  have hz3 : w3.heap.size = w2.heap.size + 1 := by rw [hw3]; simp
  refine wp_world (fun W => W = w3) (by rw [hw3]) (fun W hW => ?_)
  rw [hW]
  clear hW W hw3 hn2
  have c1 : w3.cell? ⟨w2.heap.size, 1, none⟩ = some (.int .i64 (1 + (k : Int))) := by rw [cell_of_row _ _ _ _ _ _ HB3.out]; rfl
  by_cases k0 : k = 0
  · have kc : (1 + (k : Int) != 1) = false := by simp [k0]
    have HOK : Hid (CaOK ep (ep, 1 + (k : Int), 0, 0)) := Lib.hid ⟨rfl, by show 1 ≤ 1 + (k : Int); omega, by show 1 + (k : Int) ≤ 3; omega, by show (0 : Int) ≤ 0; omega, by show (0 : Int) ≤ 6; omega, by show (0 : Int) ≤ 0; omega, by show (0 : Int) ≤ 1; omega, fun _ => ⟨rfl, rfl⟩⟩
    have HR3 : Hid (w3.heap[w.heap.size]? = some (.cells #[.int .i64 0, .int .i64 0, .int .i64 0, .int .i64 0] 50 (0, 0))) := Lib.hid ((HE3.out.block _ (by omega) (by simp; omega)).trans HR1.out)
    have r3 : (rowLoad 50 ⟨w2.heap.size, 0, none⟩).run Tryz.prog w3 = .ok (caV (ep, 1 + (k : Int), 0, 0)) w3 := caV_box HB3.out
    have st3 := caV_set (ep, 1 + (k : Int), 0, 0) HR3.out rfl
    clear k0
    go_wp2
    refine bodyPost_ret (v := caV (ep, 1 + (k : Int), 0, 0)) (results_cell_row rfl _ _ w.heap.size 50 (caE (ep, 1 + (k : Int), 0, 0)).toArray (0, 0) _ (by rfl) (setRow_heap _ _ _ _ _ _ HR3.out) Tryz.underlying50 rfl Tryz.sizeCa) rfl ?_
    exact ⟨⟨_, rfl, HOK.out⟩, DiceOK.keep HD3.out ((Ex.refl N none w3).setRow _ _ (.inr hN)) (Nat.le_refl _), ((HE1.out.weaken (some p)).trans HE3.out (by omega) (fun q h _ => h)).setRow _ _ (.inr (Nat.le_refl _))⟩
  · have kc : (1 + (k : Int) != 1) = true := by simp; omega
    have hk1 : 1 ≤ k := by omega
    clear k0
    go_upto_region 4 with (first
      | (go_at_call 13
         fail_if_success (have _x := H4)
         refine (next_w N p 7 w3 HD3.out (by omega) (by omega)).mono ?_
         rintro e w4 ⟨s, rfl, hs, hd4, hex4⟩
         have H4 : Hid (DiceOK N w4 p ∧ Ex w3.heap.size (some p) w3 w4) := Lib.hid ⟨hd4, hex4⟩
         have hz4 : w3.heap.size ≤ w4.heap.size := hex4.size
         clear hd4 hex4)
      | (go_at_call 13
         refine (next_w N p 2 w4 H4.out.1 (by omega) (by omega)).mono ?_
         rintro e w5 ⟨r, rfl, hr, hd5, hex5⟩
         have H5 : Hid (DiceOK N w5 p ∧ Ex w3.heap.size (some p) w3 w5) := Lib.hid ⟨hd5, H4.out.2.trans hex5 hz4 (fun q h _ => h)⟩
         have hz5 : w4.heap.size ≤ w5.heap.size := hex5.size
         have hb5 : w5.heap[w2.heap.size]? = some (.cells #[.int .i64 ep, .int .i64 (1 + (k : Int)), .int .i64 0, .int .i64 0] 50 (0, 0)) := (H5.out.2.block _ (by omega) (by simp; omega)).trans HB3.out
         have c2 : w5.cell? ⟨w2.heap.size, 2, none⟩ = some (.int .i64 0) := by rw [cell_of_row _ _ _ _ _ _ hb5]; rfl
         have c3 : w5.cell? ⟨w2.heap.size, 3, none⟩ = some (.int .i64 0) := by rw [cell_of_row _ _ _ _ _ _ hb5]; rfl
         have f2 : w5.frozen? ⟨w2.heap.size, 2, none⟩ = false := row_frozen_g hb5
         have f3 : w5.frozen? ⟨w2.heap.size, 3, none⟩ = false := row_frozen_g hb5
         have HB5 := Lib.hid hb5
         clear hd5 hex5 hb5)
      | fail)
    obtain ⟨w6, hw6⟩ : ∃ w6 : World, w6 = (w5.setCell ⟨w2.heap.size, 2, none⟩ (.int .i64 s)).setCell ⟨w2.heap.size, 3, none⟩ (.int .i64 r) := ⟨_, rfl⟩
    have HB6 : Hid (w6.heap[w2.heap.size]? = some (.cells (caE (ep, 1 + (k : Int), (s : Int), (r : Int))).toArray 50 (0, 0))) := Lib.hid (by rw [hw6, heap_setCell_same _ _ _ _ _ _ (heap_setCell_same _ _ _ _ _ _ HB5.out)]; rfl)
    have HX6 : Hid (Ex w.heap.size none w5 w6) := Lib.hid (by rw [hw6]; exact ((Ex.refl _ _ w5).setCell _ _ _ (.inr (by omega))).setCell _ _ _ (.inr (by omega)))
    have HE6 : Hid (Ex w.heap.size (some p) w w6) := Lib.hid ((((HE1.out.weaken (some p)).trans HE3.out (by omega) (fun q h _ => h)).trans H5.out.2 (by omega) (fun q h _ => h)).trans HX6.out (Nat.le_refl _) (by simp))
    have HD6 : Hid (DiceOK N w6 p) := Lib.hid (H5.out.1.keep HX6.out hN)
    have HR6 : Hid (w6.heap[w.heap.size]? = some (.cells #[.int .i64 0, .int .i64 0, .int .i64 0, .int .i64 0] 50 (0, 0))) := Lib.hid (by
      rw [hw6]
      exact set_far (by omega) (set_far (by omega) ((H5.out.2.block _ (by omega) (by simp; omega)).trans ((HE3.out.block _ (by omega) (by simp; omega)).trans HR1.out))))
    have HOK : Hid (CaOK ep (ep, 1 + (k : Int), (s : Int), (r : Int))) := Lib.hid ⟨rfl, by show 1 ≤ 1 + (k : Int); omega, by show 1 + (k : Int) ≤ 3; omega, by show (0 : Int) ≤ (s : Int); omega, by show (s : Int) ≤ 6; omega, by show (0 : Int) ≤ (r : Int); omega, by show (r : Int) ≤ 1; omega, fun h => by have h' : 1 + (k : Int) = 1 := h; omega⟩
    have r6 : (rowLoad 50 ⟨w2.heap.size, 0, none⟩).run Tryz.prog w6 = .ok (caV (ep, 1 + (k : Int), (s : Int), (r : Int))) w6 := caV_box HB6.out
    have st6 := caV_set (ep, 1 + (k : Int), (s : Int), (r : Int)) HR6.out rfl
    clear c2 c3 f2 f3
    refine wp_world (fun W => W = w6) (by rw [hw6]) (fun W hW => ?_)
    rw [hW]
    clear hW W hw6
    go_wp2
    refine bodyPost_ret (v := caV (ep, 1 + (k : Int), (s : Int), (r : Int))) (results_cell_row rfl _ _ w.heap.size 50 (caE (ep, 1 + (k : Int), (s : Int), (r : Int))).toArray (0, 0) _ (by rfl) (setRow_heap _ _ _ _ _ _ HR6.out) Tryz.underlying50 rfl Tryz.sizeCa) rfl ?_
    exact ⟨⟨_, rfl, HOK.out⟩, DiceOK.keep HD6.out ((Ex.refl N none w6).setRow _ _ (.inr hN)) (Nat.le_refl _), HE6.out.setRow _ _ (.inr (Nat.le_refl _))⟩
end Go.Proofs.YtaihmldiglgipaaGreat

namespace Go.Proofs.YtaihmldiglgipaaGreat
open Go.RowKit Go.Sort
attribute [local go_sem ↓] rowLoad_ca rowStore_ca rowLoad_stv rowStore_stv

theorem valid_parts {c : CaD} (h : validC c.1 c.2.1 c.2.2.1 c.2.2.2 = true) : 0 ≤ c.1 ∧ c.1 < 40 ∧ 0 ≤ c.2.2.1 ∧ c.2.2.1 < 64 ∧ 0 ≤ c.2.2.2 ∧ c.2.2.2 ≤ 1 ∧ 1 ≤ c.2.1 ∧ c.2.1 ≤ 3 := by
  unfold validC at h
  simp only [Bool.and_eq_true, decide_eq_true_eq] at h
  obtain ⟨⟨⟨⟨⟨⟨h1, h2⟩, h3⟩, h4⟩, h5⟩, h6⟩, h7⟩ := h
  refine ⟨h1, h2, h3, h4, h5, h6, ?_⟩
  split at h7
  · omega
  · simp only [Bool.or_eq_true, decide_eq_true_eq] at h7
    omega
set_option maxHeartbeats 4000000 in
set_option maxRecDepth 100000 in
theorem code23_any (c : CaD) (w : World) (hv : validC c.1 c.2.1 c.2.2.1 c.2.2.2 = true) : Calls Tryz.prog 42 #[caV c] w fun e w' => e = .returned (.int .i64 (c.2.1 + 16 * c.2.2.2)) ∧ Ex w.heap.size none w w' := by
  obtain ⟨_, _, _, _, hr0, hr1, hk0, hk1⟩ := valid_parts hv
  have HV := Lib.hid hv
  clear hv
  obtain ⟨w1, hw1⟩ : ∃ w1 : World, w1 = w.alloc (.cells (caE c).toArray 50) := ⟨_, rfl⟩
  have HE1 : Hid (Ex w.heap.size none w w1) := Lib.hid (by rw [hw1]; exact Ex.new w _)
  have HB : Hid (∀ w', Ex w1.heap.size none w1 w' → (rowLoad 50 ⟨w.heap.size, 0, none⟩).run Tryz.prog w' = .ok (caV c) w' ∧ w'.cell? ⟨w.heap.size, 1, none⟩ = some (.int .i64 c.2.1) ∧ w'.cell? ⟨w.heap.size, 3, none⟩ = some (.int .i64 c.2.2.2)) := Lib.hid (fun w' h => by
    have k := h.at2 (Nat.le_refl _) (show w1.heap[w.heap.size]? = some (.cells (caE c).toArray 50 (0, 0)) by rw [hw1]; exact heap_alloc_new _ _)
    exact ⟨caV_box k, by rw [cell_of_row _ _ _ _ _ _ k]; rfl, by rw [cell_of_row _ _ _ _ _ _ k]; rfl⟩)
  have hwp : IntKind.i64.wrap (16 * c.2.2.2) = 16 * c.2.2.2 := by rw [IntKind.wrap_i64]; omega
  have hwp2 : IntKind.i64.wrap (c.2.1 + 16 * c.2.2.2) = c.2.1 + 16 * c.2.2.2 := by rw [IntKind.wrap_i64]; omega
  have n0 := caV_new w #[.int .i64 0, .int .i64 0, .int .i64 0, .int .i64 0] c rfl
  go_enter Tryz.func42, Tryz.ntmps42
  go_upto_region 1 with (fail)
  refine wp_world (fun W => W = w1) (by rw [hw1]; rfl) (fun W hW => ?_)
  rw [hW]
  clear hW W hw1 n0
  obtain ⟨r0, c1, c3⟩ := HB.out _ (Ex.refl _ _ w1)
  go_wp2_with (first
    | (go_at_call 40
       refine (valid23_any c.1 c.2.1 c.2.2.1 c.2.2.2 w1).mono ?_
       rw [HV.out]
       rintro e w2 ⟨rfl, hg⟩
       have HE2 : Hid (Ex w1.heap.size none w1 w2) := Lib.hid hg.ex
       clear r0 c1 c3 hg
       obtain ⟨r0, c1, c3⟩ := HB.out _ HE2.out)
    | fail)
  go_ret
  exact ⟨rfl, HE1.out.thenW HE2.out⟩
/-- A content's numbers fit a case. -/
def ContOK (k : Int) (l : List Int) : Prop := (k = 1 ∧ ∃ y0 y1, l = [y0, y1] ∧ 0 ≤ y0 ∧ y0 < 4294967296 ∧ 0 ≤ y1 ∧ y1 < 4294967296) ∨ (k ≠ 1 ∧ ∃ y0, l = [y0] ∧ (y0 = 0 ∨ y0 = 1))
def coE (x : St × Sv × Sv) : List Value := [x.2.1.v, x.2.2.v]
set_option maxHeartbeats 8000000 in
set_option maxRecDepth 100000 in
theorem right23_any {P : Nat → Prop} (c : CaD) (x : St × Sv × Sv) (w : World) (hv : validC c.1 c.2.1 c.2.2.1 c.2.2.2 = true) (hx : Lies P w x) (hc : ContOK c.2.1 x.1.list) (hp : x.1.pins.length ≤ 100000) :
    Calls Tryz.prog 41 #[caV c, coV x] w fun e w' => e = .returned (.bool (pinsOK x.1.pins)) ∧ Ex w.heap.size none w w' := by
  obtain ⟨hln1, hln2⟩ := lies_len hx
  obtain ⟨s, ⟨lo, n1, lc⟩, ⟨po, n2, pc⟩⟩ := x
  have e1 : n1 = s.list.length := hln1
  have e2 : n2 = s.pins.length := hln2
  have HV := Lib.hid hv
  have HN : Hid (s.list.length = n1 ∧ s.pins.length = n2) := Lib.hid ⟨e1.symm, e2.symm⟩
  have HC : Hid (ContOK c.2.1 s.list) := Lib.hid hc
  have hpl : n2 ≤ 100000 := by rw [e2]; exact hp
  clear hv hln1 hln2 e1 e2 hc hp
  obtain ⟨q, hq⟩ : ∃ q, q = checkI (pinSt s.pins) := ⟨_, rfl⟩
  have HQ : Hid (pinsOK s.pins = (q == 0)) := Lib.hid (by unfold pinsOK; rw [← hq]; rfl)
  have HQ2 : Hid (checkI (pinSt s.pins) = q) := Lib.hid hq.symm
  clear hq
  obtain ⟨w1, hw1⟩ : ∃ w1 : World, w1 = (w.alloc (.cells (caE c).toArray 50)).alloc (.cells #[.slice lo n1 lc, .slice po n2 pc] 57) := ⟨_, rfl⟩
  have HE1 : Hid (Ex w.heap.size none w w1) := Lib.hid (by rw [hw1]; exact (Ex.new w _).alloc (by simp) _)
  have hz1 : w1.heap.size = w.heap.size + 1 + 1 := by rw [hw1]; simp
  have HB : Hid (∀ w', Ex w1.heap.size none w1 w' → (rowLoad 50 ⟨w.heap.size, 0, none⟩).run Tryz.prog w' = .ok (caV c) w' ∧ w'.cell? ⟨w.heap.size, 1, none⟩ = some (.int .i64 c.2.1) ∧ w'.cell? ⟨w.heap.size + 1, 0, none⟩ = some (.slice lo n1 lc) ∧ w'.cell? ⟨w.heap.size + 1, 1, none⟩ = some (.slice po n2 pc)) := Lib.hid (fun w' h => by
    have k := h.at2 (Nat.le_refl _) (show w1.heap[w.heap.size]? = some (.cells (caE c).toArray 50 (0, 0)) by rw [hw1]; exact heap_alloc2_old _ _ _)
    have k2 := h.at2 (Nat.le_refl _) (show w1.heap[w.heap.size + 1]? = some (.cells #[.slice lo n1 lc, .slice po n2 pc] 57 (0, 0)) by rw [hw1]; exact heap_alloc2_new _ _ _)
    exact ⟨caV_box k, by rw [cell_of_row _ _ _ _ _ _ k]; rfl, by rw [cell_of_row _ _ _ _ _ _ k2]; rfl, by rw [cell_of_row _ _ _ _ _ _ k2]; rfl⟩)
  have HL : Hid (∀ w', Ex w1.heap.size none w1 w' → Lies P w' (s, ⟨lo, n1, lc⟩, ⟨po, n2, pc⟩)) := Lib.hid (fun w' h => hx.keep fun b _ hb => (h.block b (by omega) (by simp)).trans (HE1.out.block b hb (by simp)))
  clear hx
  have n0 := caV_new w #[.int .i64 0, .int .i64 0, .int .i64 0, .int .i64 0] c rfl
  go_enter Tryz.func41, Tryz.ntmps41
  go_upto_region 1 with (fail)
  refine wp_world (fun W => W = w1) (by rw [hw1]; rfl) (fun W hW => ?_)
  rw [hW]
  clear hW W hw1 n0
  obtain ⟨r0, c1, c2, c3⟩ := HB.out _ (Ex.refl _ _ w1)
  go_upto_region 4 with (first
    | (go_at_call 40
       refine (valid23_any c.1 c.2.1 c.2.2.1 c.2.2.2 w1).mono ?_
       rw [HV.out]
       rintro e w2 ⟨rfl, hg⟩
       have HE2 : Hid (Ex w1.heap.size none w1 w2) := Lib.hid hg.ex
       clear r0 c1 c2 c3 hg
       obtain ⟨r0, c1, c2, c3⟩ := HB.out _ HE2.out
       have hn2 : (rowStore 35 ⟨w2.heap.size, 0, none⟩ (.agg #[.int .i64 0, .int .i64 0, .string ⟨#[]⟩, .int .i64 0, .int .i64 10, .int .i64 0, .int .i64 0, .int .i64 0, .slice none 0 0, .slice po n2 pc, .string ⟨#[]⟩, .int .i64 0, .string ⟨#[]⟩])).run Tryz.prog (w2.alloc (.cells #[.int .i64 0, .int .i64 0, .string ⟨#[]⟩, .int .i64 0, .int .i64 0, .int .i64 0, .int .i64 0, .int .i64 0, .slice none 0 0, .slice none 0 0, .string ⟨#[]⟩, .int .i64 0, .string ⟨#[]⟩] 35)) = .ok () (w2.alloc (.cells (stE (pinSt s.pins, ⟨none, 0, 0⟩, ⟨po, n2, pc⟩)).toArray 35)) := stV_new w2 _ (pinSt s.pins, ⟨none, 0, 0⟩, ⟨po, n2, pc⟩) rfl)
    | fail)
  obtain ⟨w3, hw3⟩ : ∃ w3 : World, w3 = w2.alloc (.cells (stE (pinSt s.pins, ⟨none, 0, 0⟩, ⟨po, n2, pc⟩)).toArray 35) := ⟨_, rfl⟩
  have HE3 : Hid (Ex w1.heap.size none w1 w3) := Lib.hid (by rw [hw3]; exact HE2.out.allocX _)
  have r3 : (rowLoad 35 ⟨w2.heap.size, 0, none⟩).run Tryz.prog w3 = .ok (stV (pinSt s.pins, ⟨none, 0, 0⟩, ⟨po, n2, pc⟩)) w3 := stV_box (by rw [hw3]; exact heap_alloc_new _ _)
  refine wp_world (fun W => W = w3) (by rw [hw3]) (fun W hW => ?_)
  rw [hW]
  clear hW W hw3 hn2 r0 c1 c2 c3
  have HLP : Hid (Lies P w3 (pinSt s.pins, ⟨none, 0, 0⟩, ⟨po, n2, pc⟩)) := Lib.hid ⟨Sl.nil _ _, (HL.out w3 HE3.out).2⟩
  by_cases q0 : q = 0
  case neg =>
    have kq : (q == 0) = false := by simpa using q0
    have kq2 : (q != 0) = true := by simpa using q0
    clear q0
    go_wp2_with (first
      | (go_at_call 67
         refine (check03_any (pinSt s.pins) none po 0 0 n2 pc w3 HLP.out ⟨Nat.zero_le _, by show s.pins.length ≤ _; rw [HN.out.2]; omega⟩).mono ?_
         rw [HQ2.out]
         rintro e w4 ⟨rfl, hex⟩
         have HE4 : Hid (Ex w1.heap.size none w1 w4) := Lib.hid (HE3.out.thenW hex)
         clear hex r3)
      | fail)
    go_ret
    exact ⟨by rw [HQ.out, kq]; rfl, HE1.out.thenW HE4.out⟩
  have kq : (q == 0) = true := by simpa using q0
  have kq2 : (q != 0) = false := by simpa using q0
  clear q0
  go_upto_region 6 with (first
    | (go_at_call 67
       refine (check03_any (pinSt s.pins) none po 0 0 n2 pc w3 HLP.out ⟨Nat.zero_le _, by show s.pins.length ≤ _; rw [HN.out.2]; omega⟩).mono ?_
       rw [HQ2.out]
       rintro e w4 ⟨rfl, hex⟩
       have HE4 : Hid (Ex w1.heap.size none w1 w4) := Lib.hid (HE3.out.thenW hex)
       clear hex r3)
    | fail)
  obtain ⟨r0, c1, c2, c3⟩ := HB.out _ HE4.out
  have HI : Hid (IntsAt w4 lo s.list) := Lib.hid (sl_ints (HL.out w4 HE4.out).1).at'
  rcases HC.out with ⟨hk, y0, y1, hl, a1, a2, a3, a4⟩ | ⟨hk, y0, hl, hy⟩
  · have kk : (c.2.1 == 1) = true := by simpa using hk
    have h2 : n1 = 2 := by rw [← HN.out.1, hl]; rfl
    subst h2
    obtain ⟨b, off, z0, hao, hc0, HZ0⟩ := HI.out.get 0 (by rw [hl]; simp)
    obtain ⟨b', off', z1, hao', hc1, HZ1⟩ := HI.out.get 1 (by rw [hl]; simp)
    subst hao
    cases hao'
    obtain rfl : z0 = y0 := by have := HZ0.out; rw [hl] at this; exact this.symm
    obtain rfl : z1 = y1 := by have := HZ1.out; rw [hl] at this; exact this.symm
    have d1 : decide (0 ≤ z0) = true := decide_eq_true a1
    have d2 : decide (z0 < 4294967296) = true := decide_eq_true a2
    have d3 : decide (0 ≤ z1) = true := decide_eq_true a3
    have d4 : decide (z1 < 4294967296) = true := decide_eq_true a4
    simp only [Nat.add_zero] at hc0
    clear hk hl
    go_wp2
    go_ret
    exact ⟨by rw [HQ.out, kq]; rfl, HE1.out.thenW HE4.out⟩
  · have kk : (c.2.1 == 1) = false := by simpa using hk
    have h2 : n1 = 1 := by rw [← HN.out.1, hl]; rfl
    subst h2
    obtain ⟨b, off, z0, hao, hc0, HZ0⟩ := HI.out.get 0 (by rw [hl]; simp)
    subst hao
    obtain rfl : z0 = y0 := by have := HZ0.out; rw [hl] at this; exact this.symm
    simp only [Nat.add_zero] at hc0
    clear hk hl
    rcases hy with rfl | rfl
    · go_wp2
      go_ret
      exact ⟨by rw [HQ.out, kq]; rfl, HE1.out.thenW HE4.out⟩
    · go_wp2
      go_ret
      exact ⟨by rw [HQ.out, kq]; rfl, HE1.out.thenW HE4.out⟩
end Go.Proofs.YtaihmldiglgipaaGreat

namespace Go.Proofs.YtaihmldiglgipaaGreat
open Go.RowKit Go.Sort

theorem rowStore_dr (a : Addr) (v : Value) : storeVar 47 a v = rowStore 47 a v := rfl
theorem rowLoad_dr (a : Addr) : loadVar 47 a = rowLoad 47 a := rfl
theorem Tryz.sizeDr : (Tryz.prog.info? 47).map (·.size) = some 6 := by kernel_rfl
theorem one_drE (x : St × Sv × Sv) : (drE x).toArray.all (·.oneCell') = true := by simp [drE, Value.oneCell', Sv.v]
theorem drV_box {w : World} {g : Nat} {x : St × Sv × Sv} {t : TypeId} {fr : Nat × Nat} (h : w.heap[g]? = some (.cells (drE x).toArray t fr)) : (rowLoad 47 ⟨g, 0, none⟩).run Tryz.prog w = .ok (drV x) w :=
  run_rowLoad (P := Tryz.prog) w g t 47 (drE x).toArray fr _ h Tryz.underlying47 rfl Tryz.sizeDr
theorem drV_set {w : World} {g : Nat} {old : Array Value} (x : St × Sv × Sv) (h : w.heap[g]? = some (.cells old 47 (0, 0))) (ho : old.size = 6) : (rowStore 47 ⟨g, 0, none⟩ (drV x)).run Tryz.prog w = .ok () (w.setRow g (drE x).toArray) :=
  run_rowStore (P := Tryz.prog) w g 47 47 old (drE x).toArray h Tryz.sizeDr (by rw [ho]; rfl) (one_drE x)
theorem drV_new (w : World) (old : Array Value) (x : St × Sv × Sv) (ho : old.size = 6) : (rowStore 47 ⟨w.heap.size, 0, none⟩ (drV x)).run Tryz.prog (w.alloc (.cells old 47)) = .ok () (w.alloc (.cells (drE x).toArray 47)) := by
  have h := drV_set (w := w.alloc (.cells old 47)) (g := w.heap.size) (old := old) x (heap_alloc_new w _) ho
  rw [alloc_setRow] at h
  exact h
theorem wp_callG {P : Program} {o : Oper} {a : Act} {w w' : World} {f : FuncId} {args : Array Value} {K : Act → World → Prop} {Q : Exit → Act → World → Prop} (h : (execOp a.eval o).run P w = .ok (.enter f args) w') (hc : Calls P f args w' fun e w'' => ∃ v, e = .returned v ∧ K (a.put o.dst v) w'') : o.wp P a w K Q := by
  unfold Oper.wp
  rw [h]
  exact hc.mono fun e w'' ⟨v, he, hk⟩ => by subst he; exact hk
/-- The draft of a vote. -/
def drS (c : CaD) (s : St) : St := { author := 0, number := 0, prev := ⟨#[]⟩, time := 0, kind := 10, a := c.1, b := c.2.1 + 16 * c.2.2.2, c := c.2.2.1, list := s.list, pins := s.pins, body := ⟨#[]⟩, key := 0, dig := ⟨#[]⟩ }
def Fact.dr2 (base n1 n2 : Nat) (s : St) : Fact := ⟨fun v w => ∃ ao ac qo qc, v = drV (s, ⟨ao, n1, ac⟩, ⟨qo, n2, qc⟩) ∧ OwnE iE 1 3 w base ao ac s.list ∧ OwnE pinE 3 85 w base qo qc s.pins, fun ⟨ao, ac, qo, qc, h1, h2, h3⟩ hx => ⟨ao, ac, qo, qc, h1, h2.keep hx (Nat.le_refl _) (by simp), h3.keep hx (Nat.le_refl _) (by simp)⟩⟩
theorem own_lies2 {w : World} {base n1 n2 : Nat} {ao qo : Option Addr} {ac qc : Nat} {s t : St} (hn : s.list.length = n1 ∧ s.pins.length = n2) (h1 : OwnE iE 1 3 w base ao ac s.list) (h2 : OwnE pinE 3 85 w base qo qc s.pins) (e1 : t.list = s.list := by rfl) (e2 : t.pins = s.pins := by rfl) : Lies (fun b => base ≤ b) w (t, ⟨ao, n1, ac⟩, ⟨qo, n2, qc⟩) := by
  refine ⟨?_, ?_⟩
  · show Sl intRep _ _ _ t.list
    rw [e1]
    exact iE_slE hn.1 h1
  · show Sl pinRep _ _ _ t.pins
    rw [e2]
    exact own_slK hn.2 h2
/-- What ref23.Draft answers. -/
def DraftE (c : CaD) (s : St) (b : Nat) (e : Ending) (w' : World) : Prop := ∃ (y : St × Sv × Sv) (q : Int), e = .returned (.tuple #[drV y, .int .i64 q]) ∧ ((pinsOK s.pins = false ∧ y = zeroVo) ∨ (q = 0 ∧ pinsOK s.pins = true ∧ y.1 = drS c s)) ∧ Lies (fun k => b ≤ k) w' y
attribute [local go_sem ↓] rowLoad_ca rowStore_ca rowLoad_dr rowStore_dr
set_option maxHeartbeats 16000000 in
set_option maxRecDepth 100000 in
theorem draft23_any {P : Nat → Prop} (c : CaD) (x : St × Sv × Sv) (w : World) (hv : validC c.1 c.2.1 c.2.2.1 c.2.2.2 = true) (hx : Lies P w x) (hc : ContOK c.2.1 x.1.list) (hp : x.1.pins.length ≤ 1000) :
    Calls Tryz.prog 15 #[caV c, coV x] w fun e w' => DraftE c x.1 w.heap.size e w' ∧ Ex w.heap.size none w w' := by
  obtain ⟨hln1, hln2⟩ := lies_len hx
  obtain ⟨d, ⟨lo, n1, lc⟩, ⟨po, n2, pc⟩⟩ := x
  have e1 : n1 = d.list.length := hln1
  have e2 : n2 = d.pins.length := hln2
  have HV := Lib.hid hv
  have HN : Hid (d.list.length = n1 ∧ d.pins.length = n2) := Lib.hid ⟨e1.symm, e2.symm⟩
  have HC : Hid (ContOK c.2.1 d.list ∧ d.pins.length ≤ 100000) := Lib.hid ⟨hc, by have h : d.pins.length ≤ 1000 := hp; omega⟩
  have hm1 : n1 ≤ 2 := by
    rw [e1]
    rcases hc with ⟨_, y0, y1, hl, _⟩ | ⟨_, y0, hl, _⟩
    · have hl' : d.list = [y0, y1] := hl
      rw [hl']; simp
    · have hl' : d.list = [y0] := hl
      rw [hl']; simp
  have hm2 : n2 ≤ 1000 := by rw [e2]; exact hp
  clear hv hln1 hln2 e1 e2 hc hp
  obtain ⟨w1, hw1⟩ : ∃ w1 : World, w1 = ((w.alloc (.cells (caE c).toArray 50)).alloc (.cells #[.slice lo n1 lc, .slice po n2 pc] 57)).alloc (.cells #[.int .i64 0, .int .i64 0, .int .i64 0, .int .i64 0, .slice none 0 0, .slice none 0 0] 47) := ⟨_, rfl⟩
  have HE1 : Hid (Ex w.heap.size none w w1) := Lib.hid (by rw [hw1]; exact ((Ex.new w _).alloc (by simp) _).alloc (by simp; omega) _)
  have hz1 : w1.heap.size = w.heap.size + 1 + 1 + 1 := by rw [hw1]; simp
  have HA1 : Hid (w1.heap[w.heap.size]? = some (.cells (caE c).toArray 50 (0, 0)) ∧ w1.heap[w.heap.size + 1]? = some (.cells #[.slice lo n1 lc, .slice po n2 pc] 57 (0, 0)) ∧ w1.heap[w.heap.size + 1 + 1]? = some (.cells #[.int .i64 0, .int .i64 0, .int .i64 0, .int .i64 0, .slice none 0 0, .slice none 0 0] 47 (0, 0))) := Lib.hid (by
    rw [hw1]
    refine ⟨(at_oldX _ _ _ (by simp; omega)).trans (heap_alloc2_old _ _ _), (at_oldX _ _ _ (by simp)).trans (heap_alloc2_new _ _ _), ?_⟩
    have e := heap_alloc_new ((w.alloc (.cells (caE c).toArray 50)).alloc (.cells #[.slice lo n1 lc, .slice po n2 pc] 57)) (.cells #[.int .i64 0, .int .i64 0, .int .i64 0, .int .i64 0, .slice none 0 0, .slice none 0 0] 47)
    simp only [World.size_alloc] at e
    exact e)
  have HB : Hid (∀ w', Ex w1.heap.size none w1 w' → (rowLoad 50 ⟨w.heap.size, 0, none⟩).run Tryz.prog w' = .ok (caV c) w' ∧ w'.cell? ⟨w.heap.size, 0, none⟩ = some (.int .i64 c.1) ∧ w'.cell? ⟨w.heap.size, 2, none⟩ = some (.int .i64 c.2.2.1) ∧ w'.cell? ⟨w.heap.size + 1, 0, none⟩ = some (.slice lo n1 lc) ∧ w'.cell? ⟨w.heap.size + 1, 1, none⟩ = some (.slice po n2 pc)) := Lib.hid (fun w' h => by
    have k := h.at2 (Nat.le_refl _) HA1.out.1
    have k2 := h.at2 (Nat.le_refl _) HA1.out.2.1
    exact ⟨caV_box k, by rw [cell_of_row _ _ _ _ _ _ k]; rfl, by rw [cell_of_row _ _ _ _ _ _ k]; rfl, by rw [cell_of_row _ _ _ _ _ _ k2]; rfl, by rw [cell_of_row _ _ _ _ _ _ k2]; rfl⟩)
  have HR : Hid (∀ w', Ex w1.heap.size none w1 w' → w'.heap[w.heap.size + 1 + 1]? = some (.cells #[.int .i64 0, .int .i64 0, .int .i64 0, .int .i64 0, .slice none 0 0, .slice none 0 0] 47 (0, 0))) := Lib.hid (fun w' h => h.at2 (Nat.le_refl _) HA1.out.2.2)
  have HL : Hid (∀ w', Ex w1.heap.size none w1 w' → Lies P w' (d, ⟨lo, n1, lc⟩, ⟨po, n2, pc⟩)) := Lib.hid (fun w' h => hx.keep fun b _ hb => (h.block b (by omega) (by simp)).trans (HE1.out.block b hb (by simp)))
  clear hx
  have n0 := caV_new w #[.int .i64 0, .int .i64 0, .int .i64 0, .int .i64 0] c rfl
  go_enter Tryz.func15, Tryz.ntmps15
  go_upto_region 1 with (fail)
  refine wp_world (fun W => W = w1) (by rw [hw1]; rfl) (fun W hW => ?_)
  rw [hW]
  clear hW W hw1 n0
  obtain ⟨r0, c0, c2, k0, k1⟩ := HB.out _ (Ex.refl _ _ w1)
  obtain ⟨pb, hpb⟩ : ∃ pb, pb = pinsOK d.pins := ⟨_, rfl⟩
  have HPB : Hid (pinsOK d.pins = pb) := Lib.hid hpb.symm
  clear hpb
  go_upto_region 3 with (first
    | (go_at_call 40
       refine (valid23_any c.1 c.2.1 c.2.2.1 c.2.2.2 w1).mono ?_
       rw [HV.out]
       rintro e w2 ⟨rfl, hg⟩
       have HE2 : Hid (Ex w1.heap.size none w1 w2) := Lib.hid hg.ex
       clear r0 c0 c2 k0 k1 hg)
    | fail)
  obtain ⟨r0, c0, c2, k0, k1⟩ := HB.out _ HE2.out
  cases pb with
  | false =>
    go_wp2_with (first
      | (go_at_call 41
         refine (right23_any (P := P) c (d, ⟨lo, n1, lc⟩, ⟨po, n2, pc⟩) w2 HV.out (HL.out w2 HE2.out) HC.out.1 HC.out.2).mono ?_
         rw [HPB.out]
         rintro e w3 ⟨rfl, hex⟩
         have HE3 : Hid (Ex w1.heap.size none w1 w3) := Lib.hid (HE2.out.thenW hex)
         have hst : (rowStore 47 ⟨w.heap.size + 1 + 1, 0, none⟩ (.agg #[.int .i64 0, .int .i64 0, .int .i64 0, .int .i64 0, .slice none 0 0, .slice none 0 0])).run Tryz.prog w3 = .ok () (w3.setRow (w.heap.size + 1 + 1) (drE zeroVo).toArray) := drV_set zeroVo (HR.out w3 HE3.out) rfl
         clear hex r0 c0 c2 k0 k1)
      | fail)
    refine bodyPost_ret (v := .tuple #[drV zeroVo, .int .i64 42]) ?_ rfl ?_
    · rw [results_cell_tmp Tryz.results15]
      show ((loadVar 47 ⟨w.heap.size + 1 + 1, 0, none⟩).run Tryz.prog _).andThen _ = _
      rw [rowLoad_dr, drV_box (setRow_heap _ _ _ _ _ _ (HR.out w3 HE3.out))]
      rfl
    exact ⟨⟨zeroVo, 42, rfl, .inl ⟨HPB.out, rfl⟩, zeroVo_lies _ _⟩, (HE1.out.thenW HE3.out).setRow _ _ (.inr (by omega))⟩
  | true =>
    go_upto_region 5 with (first
      | (go_at_call 41
         refine (right23_any (P := P) c (d, ⟨lo, n1, lc⟩, ⟨po, n2, pc⟩) w2 HV.out (HL.out w2 HE2.out) HC.out.1 HC.out.2).mono ?_
         rw [HPB.out]
         rintro e w3 ⟨rfl, hex⟩
         have HE3 : Hid (Ex w1.heap.size none w1 w3) := Lib.hid (HE2.out.thenW hex)
         clear hex r0 c0 c2 k0 k1)
      | fail)
    refine wp_region_steps 30 [Fact.is (.pointer (some ⟨w.heap.size, 0, none⟩)),
        Fact.is (.int .i64 c.1),
        Fact.is (caV c),
        Fact.is (.int .i64 (c.2.1 + 16 * c.2.2.2)),
        Fact.is (.pointer (some ⟨w.heap.size, 2, none⟩)),
        Fact.is (.int .i64 c.2.2.1),
        Fact.emp w3.heap.size 3,
        Fact.is (.pointer (some ⟨w.heap.size + 1, 0, none⟩)),
        Fact.is (.slice lo n1 lc),
        Fact.own iE 1 3 w3.heap.size n1 d.list,
        Fact.emp w3.heap.size 85,
        Fact.is (.pointer (some ⟨w.heap.size + 1, 1, none⟩)),
        Fact.is (.slice po n2 pc),
        Fact.own pinE 3 85 w3.heap.size n2 d.pins,
        Fact.dr2 w3.heap.size n1 n2 (drS c d)] (by kernel_rfl) (by kernel_rfl) rfl ?_ ?_
    · refine ⟨?_, ?_, ?_, ?_, ?_, ?_, ?_, ?_, ?_, ?_, ?_, ?_, ?_, ?_, ?_, trivial⟩
      · -- 0 fieldAddr
        intro a' w' hR hF hK K h
        have e2 : a'.eval (.tmp 2) = .pointer (some ⟨w.heap.size, 0, none⟩) := hF.evalB 2 (by kernel_rfl)
        refine wp_value (v := .pointer (some ⟨w.heap.size, 0, none⟩)) ?_ (h _ _ (Ex.refl _ _ _) rfl)
        generalize a'.eval = ev at e2 ⊢
        go_simp
      · -- 1 load
        intro a' w' hR hF hK K h
        have e15 : a'.eval (.tmp 15) = .pointer (some ⟨w.heap.size, 0, none⟩) := hK { on := 0, ground := .data } (by simp) rfl (by show (0 : Nat) < 15; omega)
        obtain ⟨r0, c0, c2, k0, k1⟩ := HB.out w' (HE3.out.thenW hR)
        refine wp_value (v := .int .i64 c.1) ?_ (h _ _ (Ex.refl _ _ _) rfl)
        generalize a'.eval = ev at e15 ⊢
        go_simp
      · -- 2 load
        intro a' w' hR hF hK K h
        have e2 : a'.eval (.tmp 2) = .pointer (some ⟨w.heap.size, 0, none⟩) := hF.evalB 2 (by kernel_rfl)
        obtain ⟨r0, c0, c2, k0, k1⟩ := HB.out w' (HE3.out.thenW hR)
        refine wp_value (v := caV c) ?_ (h _ _ (Ex.refl _ _ _) rfl)
        generalize a'.eval = ev at e2 ⊢
        go_simp
      · -- 3 call
        intro a' w' hR hF hK K h
        have e17 : a'.eval (.tmp 17) = caV c := hK { on := 2, ground := .data } (by simp) rfl (by show (2 : Nat) < 15; omega)
        refine wp_callG (f := 42) (args := #[caV c]) ?_ ((code23_any c w' HV.out).mono ?_)
        · have ef : a'.eval (.func 42) = .func (.func 42) #[] #[] := rfl
          have en := enters_of Tryz.func42 (by kernel_rfl) rfl
          generalize a'.eval = ev at e17 ef ⊢
          go_simp
        · rintro e w2 ⟨rfl, hex⟩
          exact ⟨_, rfl, h _ _ hex rfl⟩
      · -- 4 fieldAddr
        intro a' w' hR hF hK K h
        have e2 : a'.eval (.tmp 2) = .pointer (some ⟨w.heap.size, 0, none⟩) := hF.evalB 2 (by kernel_rfl)
        refine wp_value (v := .pointer (some ⟨w.heap.size, 2, none⟩)) ?_ (h _ _ (Ex.refl _ _ _) rfl)
        generalize a'.eval = ev at e2 ⊢
        go_simp
      · -- 5 load
        intro a' w' hR hF hK K h
        have e19 : a'.eval (.tmp 19) = .pointer (some ⟨w.heap.size, 2, none⟩) := hK { on := 4, ground := .data } (by simp) rfl (by show (4 : Nat) < 15; omega)
        obtain ⟨r0, c0, c2, k0, k1⟩ := HB.out w' (HE3.out.thenW hR)
        refine wp_value (v := .int .i64 c.2.2.1) ?_ (h _ _ (Ex.refl _ _ _) rfl)
        generalize a'.eval = ev at e19 ⊢
        go_simp
      · -- 6 buildSlice
        intro a' w' hR hF hK K h
        refine wp_value (v := .slice (some ⟨w'.heap.size, 0, none⟩) 0 0) (w' := w'.alloc (.cells #[] 3)) ?_ (h _ _ (Ex.new _ _) ⟨_, rfl, hR.size, heap_alloc_new _ _⟩)
        generalize a'.eval = ev
        go_simp
      · -- 7 fieldAddr
        intro a' w' hR hF hK K h
        have e3 : a'.eval (.tmp 3) = .pointer (some ⟨w.heap.size + 1, 0, none⟩) := hF.evalB 3 (by kernel_rfl)
        refine wp_value (v := .pointer (some ⟨w.heap.size + 1, 0, none⟩)) ?_ (h _ _ (Ex.refl _ _ _) rfl)
        generalize a'.eval = ev at e3 ⊢
        go_simp
      · -- 8 load
        intro a' w' hR hF hK K h
        have e22 : a'.eval (.tmp 22) = .pointer (some ⟨w.heap.size + 1, 0, none⟩) := hK { on := 7, ground := .data } (by simp) rfl (by show (7 : Nat) < 15; omega)
        obtain ⟨r0, c0, c2, k0, k1⟩ := HB.out w' (HE3.out.thenW hR)
        refine wp_value (v := .slice lo n1 lc) ?_ (h _ _ (Ex.refl _ _ _) rfl)
        generalize a'.eval = ev at e22 ⊢
        go_simp
      · -- 9 call
        intro a' w' hR hF hK K h
        have F21 := hK { on := 6, ground := .data } (by simp) rfl (by show (6 : Nat) < 15; omega)
        have e23 : a'.eval (.tmp 23) = .slice lo n1 lc := hK { on := 8, ground := .data } (by simp) rfl (by show (8 : Nat) < 15; omega)
        obtain ⟨b, e21, hb, hbe⟩ := F21
        exact wp_appN rfl (.tmp 21) (.tmp 23) 22 3 (by rfl) Tryz.underlying22 _ 1 8 Tryz.infoInt rfl (by decide) (by decide) iE iE_len one_iE w3.heap.size b e21 hb hbe lo n1 lc e23 d.list HN.out.1 (ints_srcE (sl_ints (HL.out w' (HE3.out.thenW hR)).1)) (by omega) hR.size (fun v w'' hx hf => h v w'' hx hf)
      · -- 10 buildSlice
        intro a' w' hR hF hK K h
        refine wp_value (v := .slice (some ⟨w'.heap.size, 0, none⟩) 0 0) (w' := w'.alloc (.cells #[] 85)) ?_ (h _ _ (Ex.new _ _) ⟨_, rfl, hR.size, heap_alloc_new _ _⟩)
        generalize a'.eval = ev
        go_simp
      · -- 11 fieldAddr
        intro a' w' hR hF hK K h
        have e3 : a'.eval (.tmp 3) = .pointer (some ⟨w.heap.size + 1, 0, none⟩) := hF.evalB 3 (by kernel_rfl)
        refine wp_value (v := .pointer (some ⟨w.heap.size + 1, 1, none⟩)) ?_ (h _ _ (Ex.refl _ _ _) rfl)
        generalize a'.eval = ev at e3 ⊢
        go_simp
      · -- 12 load
        intro a' w' hR hF hK K h
        have e26 : a'.eval (.tmp 26) = .pointer (some ⟨w.heap.size + 1, 1, none⟩) := hK { on := 11, ground := .data } (by simp) rfl (by show (11 : Nat) < 15; omega)
        obtain ⟨r0, c0, c2, k0, k1⟩ := HB.out w' (HE3.out.thenW hR)
        refine wp_value (v := .slice po n2 pc) ?_ (h _ _ (Ex.refl _ _ _) rfl)
        generalize a'.eval = ev at e26 ⊢
        go_simp
      · -- 13 call
        intro a' w' hR hF hK K h
        have F25 := hK { on := 10, ground := .data } (by simp) rfl (by show (10 : Nat) < 15; omega)
        have e27 : a'.eval (.tmp 27) = .slice po n2 pc := hK { on := 12, ground := .data } (by simp) rfl (by show (12 : Nat) < 15; omega)
        obtain ⟨b, e25, hb, hbe⟩ := F25
        exact wp_appN rfl (.tmp 25) (.tmp 27) 31 85 (by rfl) Tryz.underlying31 _ 3 32 Tryz.infoPin rfl (by decide) (by decide) pinE pinE_len one_pinE w3.heap.size b e25 hb hbe po n2 pc e27 d.pins HN.out.2 (pin_src (HL.out w' (HE3.out.thenW hR)).2) (by omega) hR.size (fun v w'' hx hf => h v w'' hx hf)
      · -- 14 build
        intro a' w' hR hF hK K h
        have e16 : a'.eval (.tmp 16) = .int .i64 c.1 := hK { on := 1, ground := .data } (by simp) rfl (by show (1 : Nat) < 15; omega)
        have e18 : a'.eval (.tmp 18) = .int .i64 (c.2.1 + 16 * c.2.2.2) := hK { on := 3, ground := .data } (by simp) rfl (by show (3 : Nat) < 15; omega)
        have e20 : a'.eval (.tmp 20) = .int .i64 c.2.2.1 := hK { on := 5, ground := .data } (by simp) rfl (by show (5 : Nat) < 15; omega)
        have F24 := hK { on := 9, ground := .data } (by simp) rfl (by show (9 : Nat) < 15; omega)
        have F28 := hK { on := 13, ground := .data } (by simp) rfl (by show (13 : Nat) < 15; omega)
        obtain ⟨ao, ac, e24, ho⟩ := F24
        obtain ⟨qo, qc, e28, hq⟩ := F28
        replace e24 : a'.eval (.tmp 24) = .slice ao n1 ac := e24
        replace e28 : a'.eval (.tmp 28) = .slice qo n2 qc := e28
        refine wp_value (v := drV (drS c d, ⟨ao, n1, ac⟩, ⟨qo, n2, qc⟩)) ?_ (h _ _ (Ex.refl _ _ _) ⟨ao, ac, qo, qc, rfl, ho, hq⟩)
        have ec : ∀ v, a'.eval (.const v) = v := fun _ => rfl
        generalize a'.eval = ev at e16 e18 e20 e24 e28 ec ⊢
        go_simp
        rfl
    · intro a' w' hR hF hI
      obtain ⟨ao, ac, qo, qc, e29, ho, hq⟩ := hI 14 (by show (14 : Nat) < 15; omega)
      replace e29 : a'.eval (.tmp 29) = drV (drS c d, ⟨ao, n1, ac⟩, ⟨qo, n2, qc⟩) := e29
      obtain ⟨u21, e21⟩ : ∃ u, a'.eval (.tmp 21) = u := ⟨_, rfl⟩
      obtain ⟨u24, e24⟩ : ∃ u, a'.eval (.tmp 24) = u := ⟨_, rfl⟩
      obtain ⟨u25, e25⟩ : ∃ u, a'.eval (.tmp 25) = u := ⟨_, rfl⟩
      obtain ⟨u28, e28⟩ : ∃ u, a'.eval (.tmp 28) = u := ⟨_, rfl⟩
      have e0 : a'.eval (.tmp 0) = caV c := hF.evalB 0 (by kernel_rfl)
      have e1 : a'.eval (.tmp 1) = coV (d, ⟨lo, n1, lc⟩, ⟨po, n2, pc⟩) := hF.evalB 1 (by kernel_rfl)
      have e2 : a'.eval (.tmp 2) = .pointer (some ⟨w.heap.size, 0, none⟩) := hF.evalB 2 (by kernel_rfl)
      have e3 : a'.eval (.tmp 3) = .pointer (some ⟨w.heap.size + 1, 0, none⟩) := hF.evalB 3 (by kernel_rfl)
      have e4 : a'.eval (.tmp 4) = .pointer (some ⟨w.heap.size + 1 + 1, 0, none⟩) := hF.evalB 4 (by kernel_rfl)
      have e5 : a'.eval (.tmp 5) = .int .i64 0 := hF.evalB 5 (by kernel_rfl)
      have e6 : a'.eval (.tmp 6) = caV c := hF.evalB 6 (by kernel_rfl)
      have e7 : a'.eval (.tmp 7) = .bool true := hF.evalB 7 (by kernel_rfl)
      have e8 : a'.eval (.tmp 8) = .bool false := hF.evalB 8 (by kernel_rfl)
      have e9 : a'.eval (.tmp 9) = undef := hF.evalB 9 (by kernel_rfl)
      have e10 : a'.eval (.tmp 10) = caV c := hF.evalB 10 (by kernel_rfl)
      have e11 : a'.eval (.tmp 11) = .agg #[.slice lo n1 lc, .slice po n2 pc] := hF.evalB 11 (by kernel_rfl)
      have e12 : a'.eval (.tmp 12) = .bool true := hF.evalB 12 (by kernel_rfl)
      have e13 : a'.eval (.tmp 13) = .bool false := hF.evalB 13 (by kernel_rfl)
      have e14 : a'.eval (.tmp 14) = undef := hF.evalB 14 (by kernel_rfl)
      have e15 : a'.eval (.tmp 15) = .pointer (some ⟨w.heap.size, 0, none⟩) := hI 0 (by show (0 : Nat) < 15; omega)
      have e16 : a'.eval (.tmp 16) = .int .i64 c.1 := hI 1 (by show (1 : Nat) < 15; omega)
      have e17 : a'.eval (.tmp 17) = caV c := hI 2 (by show (2 : Nat) < 15; omega)
      have e18 : a'.eval (.tmp 18) = .int .i64 (c.2.1 + 16 * c.2.2.2) := hI 3 (by show (3 : Nat) < 15; omega)
      have e19 : a'.eval (.tmp 19) = .pointer (some ⟨w.heap.size, 2, none⟩) := hI 4 (by show (4 : Nat) < 15; omega)
      have e20 : a'.eval (.tmp 20) = .int .i64 c.2.2.1 := hI 5 (by show (5 : Nat) < 15; omega)
      have e22 : a'.eval (.tmp 22) = .pointer (some ⟨w.heap.size + 1, 0, none⟩) := hI 7 (by show (7 : Nat) < 15; omega)
      have e23 : a'.eval (.tmp 23) = .slice lo n1 lc := hI 8 (by show (8 : Nat) < 15; omega)
      have e26 : a'.eval (.tmp 26) = .pointer (some ⟨w.heap.size + 1, 1, none⟩) := hI 11 (by show (11 : Nat) < 15; omega)
      have e27 : a'.eval (.tmp 27) = .slice po n2 pc := hI 12 (by show (12 : Nat) < 15; omega)
      have ha := act_eta a'
      rw [show a'.tmps.size = 30 from hF.2.1, show a'.defers = [] from hF.2.2, show List.range 30 = [0, 1, 2, 3, 4, 5, 6, 7, 8, 9, 10, 11, 12, 13, 14, 15, 16, 17, 18, 19, 20, 21, 22, 23, 24, 25, 26, 27, 28, 29] from rfl] at ha
      simp only [List.map_cons, List.map_nil, e0, e1, e2, e3, e4, e5, e6, e7, e8, e9, e10, e11, e12, e13, e14, e15, e16, e17, e18, e19, e20, e21, e22, e23, e24, e25, e26, e27, e28, e29] at ha
      rw [ha]
      clear ha hF hI e0 e1 e2 e3 e4 e5 e6 e7 e8 e9 e10 e11 e12 e13 e14 e15 e16 e17 e18 e19 e20 e21 e22 e23 e24 e25 e26 e27 e28 e29
      refine wpAny_drop (n := 15) (by kernel_rfl) ?_
      have hrb := HR.out w' (HE3.out.thenW hR)
      have hst := drV_set (drS c d, ⟨ao, n1, ac⟩, ⟨qo, n2, qc⟩) hrb rfl
      have HLW : Hid (Lies (fun b => w.heap.size + 1 + 1 < b) w' (drS c d, ⟨ao, n1, ac⟩, ⟨qo, n2, qc⟩)) := Lib.hid ((own_lies2 HN.out ho hq).mono fun b hb _ => by have := HE3.out.size; omega)
      have HEW : Hid (Ex w.heap.size none w w') := Lib.hid (HE1.out.thenW (HE3.out.thenW hR))
      have HRB := Lib.hid hrb
      clear ho hq hrb
      go_wp2
      refine bodyPost_ret (v := .tuple #[drV (drS c d, ⟨ao, n1, ac⟩, ⟨qo, n2, qc⟩), .int .i64 0]) ?_ rfl ?_
      · rw [results_cell_tmp Tryz.results15]
        show ((loadVar 47 ⟨w.heap.size + 1 + 1, 0, none⟩).run Tryz.prog _).andThen _ = _
        rw [rowLoad_dr, drV_box (setRow_heap _ _ _ _ _ _ HRB.out)]
        rfl
      exact ⟨⟨_, 0, rfl, .inr ⟨rfl, by rw [HPB.out], rfl⟩, (HLW.out.keep fun b hb _ => setRow_other _ _ _ _ (by omega)).mono fun b hb _ => by omega⟩, HEW.out.setRow _ _ (.inr (by omega))⟩
end Go.Proofs.YtaihmldiglgipaaGreat

namespace Go.Proofs.YtaihmldiglgipaaGreat
open Go.RowKit Go.Sort

theorem someTo_lenV (d : List Int) : ∀ k, (someTo d k).1.length ≤ k
  | 0 => by simp [someTo]
  | k + 1 => by
    have h := someTo_lenV d k
    by_cases c : dVal (someTo d k).2 3 = 0
    · rw [someTo_yes c, List.length_append]; simp; omega
    · rw [someTo_no c]; omega
theorem keysD_lenV (d : List Int) (n : Int) (h : 1 ≤ n) (hm : n ≤ 100) : (keysD d n).1.length ≤ 100 := by
  unfold keysD
  have := someTo_lenV d n.toNat
  split
  · simp
  · omega
theorem keysV_w (N p : Nat) (n : Int) (w : World) (hd : DiceOK N w p) (hN : N ≤ w.heap.size) (h0 : 1 ≤ n) (hn : n ≤ 100) :
    Calls Tryz.prog 36 #[.pointer (some ⟨p, 0, none⟩), .int .i64 n] w fun e w' => ∃ ro rc ks m, e = .returned (.slice ro m rc) ∧ ks.length = m ∧ OwnI w' w.heap.size ro rc ks ∧ ks.length ≤ 100 ∧ DiceOK N w' p ∧ Ex w.heap.size (some p) w w' := by
  obtain ⟨d, hd⟩ := hd
  exact (keys_any N p d n w hd hN (by omega) (by omega)).mono fun e w' ⟨ro, rc, h1, h2, h3, h4⟩ => ⟨ro, rc, _, _, h1, rfl, h2, keysD_lenV d n h0 hn, ⟨_, h3⟩, h4⟩
theorem someV_w (N p : Nat) (n : Int) (w : World) (hd : DiceOK N w p) (hN : N ≤ w.heap.size) (h0 : 1 ≤ n) (hn : n ≤ 100) :
    Calls Tryz.prog 37 #[.pointer (some ⟨p, 0, none⟩), .int .i64 n] w fun e w' => ∃ ro rc ks m, e = .returned (.slice ro m rc) ∧ ks.length = m ∧ OwnI w' w.heap.size ro rc ks ∧ ks.length ≤ 100 ∧ DiceOK N w' p ∧ Ex w.heap.size (some p) w w' := by
  obtain ⟨d, hd⟩ := hd
  exact (some_any N p d n w hd hN (by omega) (by omega)).mono fun e w' ⟨ro, rc, h1, h2, h3, h4⟩ => ⟨ro, rc, _, _, h1, rfl, h2, by have := someTo_lenV d n.toNat; omega, ⟨_, h3⟩, h4⟩
def drD (k a b c : Int) (l : List Int) : St := { author := 0, number := 0, prev := ⟨#[]⟩, time := 0, kind := k, a := a, b := b, c := c, list := l, pins := [], body := ⟨#[]⟩, key := 0, dig := ⟨#[]⟩ }
/-- What mill.Draft answers: a draft that is no vote. -/
def DrE (b : Nat) (e : Ending) (w' : World) : Prop := ∃ y : St × Sv × Sv, e = .returned (drV y) ∧ y.1.kind ≠ 10 ∧ y.1.list.length ≤ 100 ∧ y.1.pins = [] ∧ Lies (fun c => b ≤ c) w' y
attribute [local go_sem ↓] rowLoad_dr rowStore_dr
set_option maxHeartbeats 16000000 in
set_option maxRecDepth 100000 in
theorem draftM_w (N p : Nat) (me t : Int) (w : World) (hd : DiceOK N w p) (hN : N ≤ w.heap.size) (hme : 0 ≤ me ∧ me ≤ 63) (ht : 0 ≤ t ∧ t ≤ 1000000) :
    Calls Tryz.prog 11 #[.pointer (some ⟨p, 0, none⟩), .int .i64 me, .int .i64 5, .int .i64 t] w fun e w' => DrE w.heap.size e w' ∧ DiceOK N w' p ∧ Ex w.heap.size (some p) w w' := by
  have hpN := hd.lt
  obtain ⟨w1, hw1⟩ : ∃ w1 : World, w1 = w.alloc (.cells #[.int .i64 0, .int .i64 0, .int .i64 0, .int .i64 0, .slice none 0 0, .slice none 0 0] 47) := ⟨_, rfl⟩
  have HE0 : Hid (Ex w.heap.size none w w1) := Lib.hid (by rw [hw1]; exact Ex.new w _)
  have HD1 : Hid (DiceOK N w1 p) := Lib.hid (hd.keep HE0.out hN)
  have hz1 : w1.heap.size = w.heap.size + 1 := by rw [hw1]; simp
  have HR1 : Hid (∀ w', Ex w1.heap.size (some p) w1 w' → w'.heap[w.heap.size]? = some (.cells #[.int .i64 0, .int .i64 0, .int .i64 0, .int .i64 0, .slice none 0 0, .slice none 0 0] 47 (0, 0))) := Lib.hid (fun w' h => (h.block _ (by omega) (by simp; omega)).trans (by rw [hw1]; exact heap_alloc_new _ _))
  clear hd
  have hwm : IntKind.i64.wrap (me + 1) = me + 1 := by rw [IntKind.wrap_i64]; omega
  go_enter Tryz.func11, Tryz.ntmps11
  go_upto_region 1 with (fail)
  refine wp_world (fun W => W = w1) (by rw [hw1]) (fun W hW => ?_)
  rw [hW]
  clear hW W hw1
  go_upto_region 2 with (first
    | (go_at_call 13
       refine (next_w N p 4 w1 HD1.out (by omega) (by omega)).mono ?_
       rintro e w2 ⟨k0, rfl, hk0, hd2, hex2⟩
       have H2 : Hid (DiceOK N w2 p) := Lib.hid hd2
       have HE2 : Hid (Ex w1.heap.size (some p) w1 w2) := Lib.hid hex2
       have hz2 : w1.heap.size ≤ w2.heap.size := hex2.size
       have hwk : IntKind.i64.wrap (me + 1 + (k0 : Int)) = me + 1 + (k0 : Int) := by rw [IntKind.wrap_i64]; omega
       clear hd2 hex2)
    | (go_at_call 34
       refine (millMod_any (me + 1 + (k0 : Int)) 5 w2 (by omega)).mono ?_
       rintro e w' ⟨rfl, rfl⟩
       obtain ⟨o, ho⟩ : ∃ o, o = modI (me + 1 + (k0 : Int)) 5 := ⟨_, rfl⟩
       rw [← ho]
       clear ho)
    | fail)
  go_upto_region 3 with (first
    | (go_at_call 13
       refine (next_w N p 10 w2 H2.out (by omega) (by omega)).mono ?_
       rintro e w3 ⟨k, rfl, hk, hd3, hex3⟩
       have H3 : Hid (DiceOK N w3 p) := Lib.hid hd3
       have HE3 : Hid (Ex w1.heap.size (some p) w1 w3) := Lib.hid (HE2.out.trans hex3 (by omega) (fun q h _ => h))
       have hz3 : w2.heap.size ≤ w3.heap.size := hex3.size
       clear hd3 hex3)
    | fail)
  have hk' : k = 0 ∨ k = 1 ∨ k = 2 ∨ k = 3 ∨ k = 4 ∨ k = 5 ∨ k = 6 ∨ k = 7 ∨ k = 8 ∨ k = 9 := by omega
  clear hk
  rcases hk' with rfl | rfl | rfl | rfl | rfl | rfl | rfl | rfl | rfl | rfl
  · go_wp2_with (first
      | (go_at_call 13
         refine (next_w N p 4 w3 H3.out (by omega) (by omega)).mono ?_
         rintro e w4 ⟨a, rfl, ha, hd4, hex4⟩
         have H4 : Hid (DiceOK N w4 p) := Lib.hid hd4
         have HE4 : Hid (Ex w1.heap.size (some p) w1 w4) := Lib.hid (HE3.out.trans hex4 (by omega) (fun q h _ => h))
         have hz4 : w3.heap.size ≤ w4.heap.size := hex4.size
         have hst : (rowStore 47 ⟨w.heap.size, 0, none⟩ (.agg #[.int .i64 2, .int .i64 (a : Int), .int .i64 0, .int .i64 0, .slice none 0 0, .slice none 0 0])).run Tryz.prog w4 = .ok () (w4.setRow w.heap.size (drE (drD 2 (a : Int) 0 0 [], ⟨none, 0, 0⟩, ⟨none, 0, 0⟩)).toArray) := drV_set (drD 2 (a : Int) 0 0 [], ⟨none, 0, 0⟩, ⟨none, 0, 0⟩) (HR1.out w4 HE4.out) rfl
         clear hd4 hex4)
      | fail)
    refine bodyPost_ret (v := drV (drD 2 (a : Int) 0 0 [], ⟨none, 0, 0⟩, ⟨none, 0, 0⟩)) (results_cell_row rfl _ _ w.heap.size 47 (drE (drD 2 (a : Int) 0 0 [], ⟨none, 0, 0⟩, ⟨none, 0, 0⟩)).toArray (0, 0) _ (by rfl) (setRow_heap _ _ _ _ _ _ (HR1.out w4 HE4.out)) Tryz.underlying47 rfl Tryz.sizeDr) rfl ?_
    exact ⟨⟨(drD 2 (a : Int) 0 0 [], ⟨none, 0, 0⟩, ⟨none, 0, 0⟩), rfl, by show (2 : Int) ≠ 10; decide, Nat.zero_le _, rfl, ⟨Sl.nil _ _, Sl.nil _ _⟩⟩, DiceOK.keep H4.out ((Ex.refl N none w4).setRow _ _ (.inr hN)) (Nat.le_refl _), ((HE0.out.weaken (some p)).trans HE4.out (by omega) (fun q h _ => h)).setRow _ _ (.inr (Nat.le_refl _))⟩
  · have hst : (rowStore 47 ⟨w.heap.size, 0, none⟩ (.agg #[.int .i64 11, .int .i64 0, .int .i64 0, .int .i64 0, .slice none 0 0, .slice none 0 0])).run Tryz.prog w3 = .ok () (w3.setRow w.heap.size (drE (drD 11 0 0 0 [], ⟨none, 0, 0⟩, ⟨none, 0, 0⟩)).toArray) := drV_set (drD 11 0 0 0 [], ⟨none, 0, 0⟩, ⟨none, 0, 0⟩) (HR1.out w3 HE3.out) rfl
    go_wp2
    refine bodyPost_ret (v := drV (drD 11 0 0 0 [], ⟨none, 0, 0⟩, ⟨none, 0, 0⟩)) (results_cell_row rfl _ _ w.heap.size 47 (drE (drD 11 0 0 0 [], ⟨none, 0, 0⟩, ⟨none, 0, 0⟩)).toArray (0, 0) _ (by rfl) (setRow_heap _ _ _ _ _ _ (HR1.out w3 HE3.out)) Tryz.underlying47 rfl Tryz.sizeDr) rfl ?_
    exact ⟨⟨(drD 11 0 0 0 [], ⟨none, 0, 0⟩, ⟨none, 0, 0⟩), rfl, by show (11 : Int) ≠ 10; decide, Nat.zero_le _, rfl, ⟨Sl.nil _ _, Sl.nil _ _⟩⟩, DiceOK.keep H3.out ((Ex.refl N none w3).setRow _ _ (.inr hN)) (Nat.le_refl _), ((HE0.out.weaken (some p)).trans HE3.out (by omega) (fun q h _ => h)).setRow _ _ (.inr (Nat.le_refl _))⟩
  · have hst : (rowStore 47 ⟨w.heap.size, 0, none⟩ (.agg #[.int .i64 11, .int .i64 0, .int .i64 0, .int .i64 0, .slice none 0 0, .slice none 0 0])).run Tryz.prog w3 = .ok () (w3.setRow w.heap.size (drE (drD 11 0 0 0 [], ⟨none, 0, 0⟩, ⟨none, 0, 0⟩)).toArray) := drV_set (drD 11 0 0 0 [], ⟨none, 0, 0⟩, ⟨none, 0, 0⟩) (HR1.out w3 HE3.out) rfl
    go_wp2
    refine bodyPost_ret (v := drV (drD 11 0 0 0 [], ⟨none, 0, 0⟩, ⟨none, 0, 0⟩)) (results_cell_row rfl _ _ w.heap.size 47 (drE (drD 11 0 0 0 [], ⟨none, 0, 0⟩, ⟨none, 0, 0⟩)).toArray (0, 0) _ (by rfl) (setRow_heap _ _ _ _ _ _ (HR1.out w3 HE3.out)) Tryz.underlying47 rfl Tryz.sizeDr) rfl ?_
    exact ⟨⟨(drD 11 0 0 0 [], ⟨none, 0, 0⟩, ⟨none, 0, 0⟩), rfl, by show (11 : Int) ≠ 10; decide, Nat.zero_le _, rfl, ⟨Sl.nil _ _, Sl.nil _ _⟩⟩, DiceOK.keep H3.out ((Ex.refl N none w3).setRow _ _ (.inr hN)) (Nat.le_refl _), ((HE0.out.weaken (some p)).trans HE3.out (by omega) (fun q h _ => h)).setRow _ _ (.inr (Nat.le_refl _))⟩
  · go_wp2_with (first
      | (go_at_call 36
         refine (keysV_w N p 5 w3 H3.out (by omega) (by omega) (by omega)).mono ?_
         rintro e w4 ⟨ko, kc, ks, km, rfl, hkm, hown, hks, hd4, hex4⟩
         have H4 : Hid (DiceOK N w4 p) := Lib.hid hd4
         have HE4 : Hid (Ex w1.heap.size (some p) w1 w4) := Lib.hid (HE3.out.trans hex4 (by omega) (fun q h _ => h))
         have hz4 : w3.heap.size ≤ w4.heap.size := hex4.size
         have HI4 : Hid (Ints w4 (.slice ko km kc) ks) := Lib.hid (by rw [← hkm]; exact hown.v)
         have HK4 : Hid (ks.length ≤ 100) := Lib.hid hks
         clear hkm hown hks
         clear hd4 hex4)
      | (go_at_call 35
         refine (minus_any (.slice ko km kc) (.slice (some ⟨w4.heap.size, 0, none⟩) 1 1) ks [me] _ (HI4.out.keep (Ex.new w4 _) (Nat.le_refl _)) ⟨_, 1, rfl, IntsAt.lit w4 [me]⟩ (by have := HK4.out; omega) (by simp)).mono ?_
         rintro e w5 ⟨ga, gc, rfl, hown, hex⟩
         obtain ⟨gs, hgs⟩ : ∃ gs, gs = minusI ks [me] := ⟨_, rfl⟩
         have hgl : gs.length ≤ 64 := by rw [hgs]; exact keysTo_le _ 64
         rw [← hgs] at hown ⊢
         obtain ⟨gl, hgln⟩ : ∃ gl, gl = gs.length := ⟨_, rfl⟩
         have HG5 : Hid (Ints w5 (.slice ga gs.length gc) gs ∧ gl = gs.length) := Lib.hid ⟨hown.v, hgln⟩
         have HGO : Hid (∀ a, ga = some a → w4.heap.size ≤ a.block) := Lib.hid (fun a h => by have := (hown.lt a h).1; simp at this; omega)
         rw [← hgln] at hgl ⊢
         have HX5 : Hid (Ex w4.heap.size none w4 w5) := Lib.hid ((Ex.new w4 _).trans hex (by simp) (by simp))
         have H5 : Hid (DiceOK N w5 p) := Lib.hid (H4.out.keep HX5.out (by omega))
         have HE5 : Hid (Ex w1.heap.size (some p) w1 w5) := Lib.hid (HE4.out.trans HX5.out (by omega) (by simp))
         have hz5 : w4.heap.size ≤ w5.heap.size := HX5.out.size
         clear hown hex hgs hgln)
      | (go_at_call 13
         refine (next_w N p _ w5 H5.out (by first | omega | (split <;> omega) | (simp; omega)) (by first | omega | (split <;> omega) | (simp; omega))).mono ?_
         rintro e w6 ⟨a, rfl, ha, hd6, hex6⟩
         have H6 : Hid (DiceOK N w6 p) := Lib.hid hd6
         have HE6 : Hid (Ex w1.heap.size (some p) w1 w6) := Lib.hid (HE5.out.trans hex6 (by omega) (fun q h _ => h))
         have hz6 : w5.heap.size ≤ w6.heap.size := hex6.size
         have hwp : IntKind.i64.wrap (1 + (a : Int)) = 1 + (a : Int) := by rw [IntKind.wrap_i64]; have ha2 : (a : Int) < 100 := (by first | omega | (split at ha <;> omega) | (simp at ha; omega)); omega
         have HL6 : Hid (Sl intRep (fun b => w1.heap.size ≤ b) w6 (.slice ga gl gc) gs) := Lib.hid (by rw [HG5.out.2]; exact (ints_sl (P := fun b => w1.heap.size ≤ b) HG5.out.1 (fun ao n c he hne ad had => by cases he; have := HGO.out ad had; omega)).keep (by decide) fun b hb hlt => hex6.block b hlt (by simp; omega))
         have hst : (rowStore 47 ⟨w.heap.size, 0, none⟩ (.agg #[.int .i64 12, .int .i64 (1 + (a : Int)), .int .i64 0, .int .i64 0, .slice ga gl gc, .slice none 0 0])).run Tryz.prog w6 = .ok () (w6.setRow w.heap.size (drE (drD 12 (1 + (a : Int)) 0 0 gs, ⟨ga, gl, gc⟩, ⟨none, 0, 0⟩)).toArray) := drV_set (drD 12 (1 + (a : Int)) 0 0 gs, ⟨ga, gl, gc⟩, ⟨none, 0, 0⟩) (HR1.out w6 HE6.out) rfl
         clear hd6 hex6)
      | fail)
    refine bodyPost_ret (v := drV (drD 12 (1 + (a : Int)) 0 0 gs, ⟨ga, gl, gc⟩, ⟨none, 0, 0⟩)) (results_cell_row rfl _ _ w.heap.size 47 (drE (drD 12 (1 + (a : Int)) 0 0 gs, ⟨ga, gl, gc⟩, ⟨none, 0, 0⟩)).toArray (0, 0) _ (by rfl) (setRow_heap _ _ _ _ _ _ (HR1.out w6 HE6.out)) Tryz.underlying47 rfl Tryz.sizeDr) rfl ?_
    exact ⟨⟨(drD 12 (1 + (a : Int)) 0 0 gs, ⟨ga, gl, gc⟩, ⟨none, 0, 0⟩), rfl, by show (12 : Int) ≠ 10; decide, by show gs.length ≤ _; rw [← HG5.out.2]; omega, rfl, ⟨((HL6.out.keep (by decide) fun b hb _ => setRow_other _ _ _ _ (by omega)).mono (by decide) fun b hb _ => by omega), Sl.nil _ _⟩⟩, DiceOK.keep H6.out ((Ex.refl N none w6).setRow _ _ (.inr hN)) (Nat.le_refl _), ((HE0.out.weaken (some p)).trans HE6.out (by omega) (fun q h _ => h)).setRow _ _ (.inr (Nat.le_refl _))⟩
  · go_wp2_with (first
      | (go_at_call 13
         refine (next_w N p 5 w3 H3.out (by omega) (by omega)).mono ?_
         rintro e w4 ⟨a, rfl, ha, hd4, hex4⟩
         have H4 : Hid (DiceOK N w4 p) := Lib.hid hd4
         have HE4 : Hid (Ex w1.heap.size (some p) w1 w4) := Lib.hid (HE3.out.trans hex4 (by omega) (fun q h _ => h))
         have hz4 : w3.heap.size ≤ w4.heap.size := hex4.size
         have hst : (rowStore 47 ⟨w.heap.size, 0, none⟩ (.agg #[.int .i64 13, .int .i64 o, .int .i64 (a : Int), .int .i64 0, .slice none 0 0, .slice none 0 0])).run Tryz.prog w4 = .ok () (w4.setRow w.heap.size (drE (drD 13 o (a : Int) 0 [], ⟨none, 0, 0⟩, ⟨none, 0, 0⟩)).toArray) := drV_set (drD 13 o (a : Int) 0 [], ⟨none, 0, 0⟩, ⟨none, 0, 0⟩) (HR1.out w4 HE4.out) rfl
         clear hd4 hex4)
      | fail)
    refine bodyPost_ret (v := drV (drD 13 o (a : Int) 0 [], ⟨none, 0, 0⟩, ⟨none, 0, 0⟩)) (results_cell_row rfl _ _ w.heap.size 47 (drE (drD 13 o (a : Int) 0 [], ⟨none, 0, 0⟩, ⟨none, 0, 0⟩)).toArray (0, 0) _ (by rfl) (setRow_heap _ _ _ _ _ _ (HR1.out w4 HE4.out)) Tryz.underlying47 rfl Tryz.sizeDr) rfl ?_
    exact ⟨⟨(drD 13 o (a : Int) 0 [], ⟨none, 0, 0⟩, ⟨none, 0, 0⟩), rfl, by show (13 : Int) ≠ 10; decide, Nat.zero_le _, rfl, ⟨Sl.nil _ _, Sl.nil _ _⟩⟩, DiceOK.keep H4.out ((Ex.refl N none w4).setRow _ _ (.inr hN)) (Nat.le_refl _), ((HE0.out.weaken (some p)).trans HE4.out (by omega) (fun q h _ => h)).setRow _ _ (.inr (Nat.le_refl _))⟩
  · go_wp2_with (first
      | (go_at_call 13
         refine (next_w N p 2 w3 H3.out (by omega) (by omega)).mono ?_
         rintro e w4 ⟨a, rfl, ha, hd4, hex4⟩
         have H4 : Hid (DiceOK N w4 p) := Lib.hid hd4
         have HE4 : Hid (Ex w1.heap.size (some p) w1 w4) := Lib.hid (HE3.out.trans hex4 (by omega) (fun q h _ => h))
         have hz4 : w3.heap.size ≤ w4.heap.size := hex4.size
         clear hd4 hex4)
      | (go_at_call 37
         refine (someV_w N p 5 w4 H4.out (by omega) (by omega) (by omega)).mono ?_
         rintro e w5 ⟨ko, kc, ks, km, rfl, hkm, hown, hks, hd5, hex5⟩
         have H5 : Hid (DiceOK N w5 p) := Lib.hid hd5
         have HE5 : Hid (Ex w1.heap.size (some p) w1 w5) := Lib.hid (HE4.out.trans hex5 (by omega) (fun q h _ => h))
         have hz5 : w4.heap.size ≤ w5.heap.size := hex5.size
         have HL5 : Hid (Sl intRep (fun b => w1.heap.size ≤ b) w5 (.slice ko km kc) ks) := Lib.hid (by rw [← hkm]; exact ints_sl (P := fun b => w1.heap.size ≤ b) hown.v (fun ao n c he hne ad had => by cases he; have := (hown.lt ad had).1; omega))
         have HK5 : Hid (ks.length ≤ 100) := Lib.hid hks
         clear hkm hown hks
         have hst : (rowStore 47 ⟨w.heap.size, 0, none⟩ (.agg #[.int .i64 14, .int .i64 (a : Int), .int .i64 0, .int .i64 0, .slice ko km kc, .slice none 0 0])).run Tryz.prog w5 = .ok () (w5.setRow w.heap.size (drE (drD 14 (a : Int) 0 0 ks, ⟨ko, km, kc⟩, ⟨none, 0, 0⟩)).toArray) := drV_set (drD 14 (a : Int) 0 0 ks, ⟨ko, km, kc⟩, ⟨none, 0, 0⟩) (HR1.out w5 HE5.out) rfl
         clear hd5 hex5)
      | fail)
    refine bodyPost_ret (v := drV (drD 14 (a : Int) 0 0 ks, ⟨ko, km, kc⟩, ⟨none, 0, 0⟩)) (results_cell_row rfl _ _ w.heap.size 47 (drE (drD 14 (a : Int) 0 0 ks, ⟨ko, km, kc⟩, ⟨none, 0, 0⟩)).toArray (0, 0) _ (by rfl) (setRow_heap _ _ _ _ _ _ (HR1.out w5 HE5.out)) Tryz.underlying47 rfl Tryz.sizeDr) rfl ?_
    exact ⟨⟨(drD 14 (a : Int) 0 0 ks, ⟨ko, km, kc⟩, ⟨none, 0, 0⟩), rfl, by show (14 : Int) ≠ 10; decide, HK5.out, rfl, ⟨((HL5.out.keep (by decide) fun b hb _ => setRow_other _ _ _ _ (by omega)).mono (by decide) fun b hb _ => by omega), Sl.nil _ _⟩⟩, DiceOK.keep H5.out ((Ex.refl N none w5).setRow _ _ (.inr hN)) (Nat.le_refl _), ((HE0.out.weaken (some p)).trans HE5.out (by omega) (fun q h _ => h)).setRow _ _ (.inr (Nat.le_refl _))⟩
  · go_wp2_with (first
      | (go_at_call 13
         fail_if_success (have _x := H4)
         refine (next_w N p 2 w3 H3.out (by omega) (by omega)).mono ?_
         rintro e w4 ⟨a, rfl, ha, hd4, hex4⟩
         have H4 : Hid (DiceOK N w4 p) := Lib.hid hd4
         have HE4 : Hid (Ex w1.heap.size (some p) w1 w4) := Lib.hid (HE3.out.trans hex4 (by omega) (fun q h _ => h))
         have hz4 : w3.heap.size ≤ w4.heap.size := hex4.size
         have hwp : IntKind.i64.wrap (2 + (a : Int)) = 2 + (a : Int) := by rw [IntKind.wrap_i64]; omega
         clear hd4 hex4)
      | (go_at_call 13
         refine (next_w N p 5 w4 H4.out (by omega) (by omega)).mono ?_
         rintro e w5 ⟨b, rfl, hb, hd5, hex5⟩
         have H5 : Hid (DiceOK N w5 p) := Lib.hid hd5
         have HE5 : Hid (Ex w1.heap.size (some p) w1 w5) := Lib.hid (HE4.out.trans hex5 (by omega) (fun q h _ => h))
         have hz5 : w4.heap.size ≤ w5.heap.size := hex5.size
         have hst : (rowStore 47 ⟨w.heap.size, 0, none⟩ (.agg #[.int .i64 15, .int .i64 0, .int .i64 (2 + (a : Int)), .int .i64 (b : Int), .slice none 0 0, .slice none 0 0])).run Tryz.prog w5 = .ok () (w5.setRow w.heap.size (drE (drD 15 0 (2 + (a : Int)) (b : Int) [], ⟨none, 0, 0⟩, ⟨none, 0, 0⟩)).toArray) := drV_set (drD 15 0 (2 + (a : Int)) (b : Int) [], ⟨none, 0, 0⟩, ⟨none, 0, 0⟩) (HR1.out w5 HE5.out) rfl
         clear hd5 hex5)
      | fail)
    refine bodyPost_ret (v := drV (drD 15 0 (2 + (a : Int)) (b : Int) [], ⟨none, 0, 0⟩, ⟨none, 0, 0⟩)) (results_cell_row rfl _ _ w.heap.size 47 (drE (drD 15 0 (2 + (a : Int)) (b : Int) [], ⟨none, 0, 0⟩, ⟨none, 0, 0⟩)).toArray (0, 0) _ (by rfl) (setRow_heap _ _ _ _ _ _ (HR1.out w5 HE5.out)) Tryz.underlying47 rfl Tryz.sizeDr) rfl ?_
    exact ⟨⟨(drD 15 0 (2 + (a : Int)) (b : Int) [], ⟨none, 0, 0⟩, ⟨none, 0, 0⟩), rfl, by show (15 : Int) ≠ 10; decide, Nat.zero_le _, rfl, ⟨Sl.nil _ _, Sl.nil _ _⟩⟩, DiceOK.keep H5.out ((Ex.refl N none w5).setRow _ _ (.inr hN)) (Nat.le_refl _), ((HE0.out.weaken (some p)).trans HE5.out (by omega) (fun q h _ => h)).setRow _ _ (.inr (Nat.le_refl _))⟩
  · go_wp2_with (first
      | (go_at_call 13
         refine (next_w N p 3 w3 H3.out (by omega) (by omega)).mono ?_
         rintro e w4 ⟨a, rfl, ha, hd4, hex4⟩
         have H4 : Hid (DiceOK N w4 p) := Lib.hid hd4
         have HE4 : Hid (Ex w1.heap.size (some p) w1 w4) := Lib.hid (HE3.out.trans hex4 (by omega) (fun q h _ => h))
         have hz4 : w3.heap.size ≤ w4.heap.size := hex4.size
         have hwp : IntKind.i64.wrap (1 + (a : Int)) = 1 + (a : Int) := by rw [IntKind.wrap_i64]; omega
         clear hd4 hex4)
      | (go_at_call 38
         refine (of_w N p (.slice (some ⟨w4.heap.size, 0, none⟩) 3 3) [100, 30, 5] _ (H4.out.keep (Ex.new w4 _) (by omega)) (IntsO.lit [100, 30, 5] rfl rfl (by omega)) (by decide) (by decide)).mono ?_
         rintro e w5 ⟨v, rfl, hv, hd5, hex5⟩
         have hv2 : v = 100 ∨ v = 30 ∨ v = 5 := by simpa using hv
         have hwp2 : IntKind.i64.wrap (t + v) = t + v := by rw [IntKind.wrap_i64]; rcases hv2 with rfl | rfl | rfl <;> omega
         have H5 : Hid (DiceOK N w5 p) := Lib.hid hd5
         have HE5 : Hid (Ex w1.heap.size (some p) w1 w5) := Lib.hid ((HE4.out.alloc (by omega) _).trans hex5 (by simp; omega) (fun q h _ => h))
         have hst : (rowStore 47 ⟨w.heap.size, 0, none⟩ (.agg #[.int .i64 1, .int .i64 o, .int .i64 (1 + (a : Int)), .int .i64 (t + v), .slice none 0 0, .slice none 0 0])).run Tryz.prog w5 = .ok () (w5.setRow w.heap.size (drE (drD 1 o (1 + (a : Int)) (t + v) [], ⟨none, 0, 0⟩, ⟨none, 0, 0⟩)).toArray) := drV_set (drD 1 o (1 + (a : Int)) (t + v) [], ⟨none, 0, 0⟩, ⟨none, 0, 0⟩) (HR1.out w5 HE5.out) rfl
         clear hd5 hex5 hv hv2)
      | fail)
    refine bodyPost_ret (v := drV (drD 1 o (1 + (a : Int)) (t + v) [], ⟨none, 0, 0⟩, ⟨none, 0, 0⟩)) (results_cell_row rfl _ _ w.heap.size 47 (drE (drD 1 o (1 + (a : Int)) (t + v) [], ⟨none, 0, 0⟩, ⟨none, 0, 0⟩)).toArray (0, 0) _ (by rfl) (setRow_heap _ _ _ _ _ _ (HR1.out w5 HE5.out)) Tryz.underlying47 rfl Tryz.sizeDr) rfl ?_
    exact ⟨⟨(drD 1 o (1 + (a : Int)) (t + v) [], ⟨none, 0, 0⟩, ⟨none, 0, 0⟩), rfl, by show (1 : Int) ≠ 10; decide, Nat.zero_le _, rfl, ⟨Sl.nil _ _, Sl.nil _ _⟩⟩, DiceOK.keep H5.out ((Ex.refl N none w5).setRow _ _ (.inr hN)) (Nat.le_refl _), ((HE0.out.weaken (some p)).trans HE5.out (by omega) (fun q h _ => h)).setRow _ _ (.inr (Nat.le_refl _))⟩
  · go_wp2_with (first
      | (go_at_call 13
         refine (next_w N p 3 w3 H3.out (by omega) (by omega)).mono ?_
         rintro e w4 ⟨a, rfl, ha, hd4, hex4⟩
         have H4 : Hid (DiceOK N w4 p) := Lib.hid hd4
         have HE4 : Hid (Ex w1.heap.size (some p) w1 w4) := Lib.hid (HE3.out.trans hex4 (by omega) (fun q h _ => h))
         have hz4 : w3.heap.size ≤ w4.heap.size := hex4.size
         have hwp : IntKind.i64.wrap (1 + (a : Int)) = 1 + (a : Int) := by rw [IntKind.wrap_i64]; omega
         clear hd4 hex4)
      | (go_at_call 38
         refine (of_w N p (.slice (some ⟨w4.heap.size, 0, none⟩) 3 3) [100, 30, 5] _ (H4.out.keep (Ex.new w4 _) (by omega)) (IntsO.lit [100, 30, 5] rfl rfl (by omega)) (by decide) (by decide)).mono ?_
         rintro e w5 ⟨v, rfl, hv, hd5, hex5⟩
         have hv2 : v = 100 ∨ v = 30 ∨ v = 5 := by simpa using hv
         have hwp2 : IntKind.i64.wrap (t + v) = t + v := by rw [IntKind.wrap_i64]; rcases hv2 with rfl | rfl | rfl <;> omega
         have H5 : Hid (DiceOK N w5 p) := Lib.hid hd5
         have HE5 : Hid (Ex w1.heap.size (some p) w1 w5) := Lib.hid ((HE4.out.alloc (by omega) _).trans hex5 (by simp; omega) (fun q h _ => h))
         have hst : (rowStore 47 ⟨w.heap.size, 0, none⟩ (.agg #[.int .i64 1, .int .i64 o, .int .i64 (1 + (a : Int)), .int .i64 (t + v), .slice none 0 0, .slice none 0 0])).run Tryz.prog w5 = .ok () (w5.setRow w.heap.size (drE (drD 1 o (1 + (a : Int)) (t + v) [], ⟨none, 0, 0⟩, ⟨none, 0, 0⟩)).toArray) := drV_set (drD 1 o (1 + (a : Int)) (t + v) [], ⟨none, 0, 0⟩, ⟨none, 0, 0⟩) (HR1.out w5 HE5.out) rfl
         clear hd5 hex5 hv hv2)
      | fail)
    refine bodyPost_ret (v := drV (drD 1 o (1 + (a : Int)) (t + v) [], ⟨none, 0, 0⟩, ⟨none, 0, 0⟩)) (results_cell_row rfl _ _ w.heap.size 47 (drE (drD 1 o (1 + (a : Int)) (t + v) [], ⟨none, 0, 0⟩, ⟨none, 0, 0⟩)).toArray (0, 0) _ (by rfl) (setRow_heap _ _ _ _ _ _ (HR1.out w5 HE5.out)) Tryz.underlying47 rfl Tryz.sizeDr) rfl ?_
    exact ⟨⟨(drD 1 o (1 + (a : Int)) (t + v) [], ⟨none, 0, 0⟩, ⟨none, 0, 0⟩), rfl, by show (1 : Int) ≠ 10; decide, Nat.zero_le _, rfl, ⟨Sl.nil _ _, Sl.nil _ _⟩⟩, DiceOK.keep H5.out ((Ex.refl N none w5).setRow _ _ (.inr hN)) (Nat.le_refl _), ((HE0.out.weaken (some p)).trans HE5.out (by omega) (fun q h _ => h)).setRow _ _ (.inr (Nat.le_refl _))⟩
  · go_wp2_with (first
      | (go_at_call 13
         refine (next_w N p 3 w3 H3.out (by omega) (by omega)).mono ?_
         rintro e w4 ⟨a, rfl, ha, hd4, hex4⟩
         have H4 : Hid (DiceOK N w4 p) := Lib.hid hd4
         have HE4 : Hid (Ex w1.heap.size (some p) w1 w4) := Lib.hid (HE3.out.trans hex4 (by omega) (fun q h _ => h))
         have hz4 : w3.heap.size ≤ w4.heap.size := hex4.size
         have hwp : IntKind.i64.wrap (1 + (a : Int)) = 1 + (a : Int) := by rw [IntKind.wrap_i64]; omega
         clear hd4 hex4)
      | (go_at_call 38
         refine (of_w N p (.slice (some ⟨w4.heap.size, 0, none⟩) 3 3) [100, 30, 5] _ (H4.out.keep (Ex.new w4 _) (by omega)) (IntsO.lit [100, 30, 5] rfl rfl (by omega)) (by decide) (by decide)).mono ?_
         rintro e w5 ⟨v, rfl, hv, hd5, hex5⟩
         have hv2 : v = 100 ∨ v = 30 ∨ v = 5 := by simpa using hv
         have hwp2 : IntKind.i64.wrap (t + v) = t + v := by rw [IntKind.wrap_i64]; rcases hv2 with rfl | rfl | rfl <;> omega
         have H5 : Hid (DiceOK N w5 p) := Lib.hid hd5
         have HE5 : Hid (Ex w1.heap.size (some p) w1 w5) := Lib.hid ((HE4.out.alloc (by omega) _).trans hex5 (by simp; omega) (fun q h _ => h))
         have hst : (rowStore 47 ⟨w.heap.size, 0, none⟩ (.agg #[.int .i64 1, .int .i64 o, .int .i64 (1 + (a : Int)), .int .i64 (t + v), .slice none 0 0, .slice none 0 0])).run Tryz.prog w5 = .ok () (w5.setRow w.heap.size (drE (drD 1 o (1 + (a : Int)) (t + v) [], ⟨none, 0, 0⟩, ⟨none, 0, 0⟩)).toArray) := drV_set (drD 1 o (1 + (a : Int)) (t + v) [], ⟨none, 0, 0⟩, ⟨none, 0, 0⟩) (HR1.out w5 HE5.out) rfl
         clear hd5 hex5 hv hv2)
      | fail)
    refine bodyPost_ret (v := drV (drD 1 o (1 + (a : Int)) (t + v) [], ⟨none, 0, 0⟩, ⟨none, 0, 0⟩)) (results_cell_row rfl _ _ w.heap.size 47 (drE (drD 1 o (1 + (a : Int)) (t + v) [], ⟨none, 0, 0⟩, ⟨none, 0, 0⟩)).toArray (0, 0) _ (by rfl) (setRow_heap _ _ _ _ _ _ (HR1.out w5 HE5.out)) Tryz.underlying47 rfl Tryz.sizeDr) rfl ?_
    exact ⟨⟨(drD 1 o (1 + (a : Int)) (t + v) [], ⟨none, 0, 0⟩, ⟨none, 0, 0⟩), rfl, by show (1 : Int) ≠ 10; decide, Nat.zero_le _, rfl, ⟨Sl.nil _ _, Sl.nil _ _⟩⟩, DiceOK.keep H5.out ((Ex.refl N none w5).setRow _ _ (.inr hN)) (Nat.le_refl _), ((HE0.out.weaken (some p)).trans HE5.out (by omega) (fun q h _ => h)).setRow _ _ (.inr (Nat.le_refl _))⟩
end Go.Proofs.YtaihmldiglgipaaGreat

namespace Go.Proofs.YtaihmldiglgipaaGreat
open Go.RowKit Go.Sort

section
variable {α β : Type} [Inhabited α] {eq : α → α → Bool}
/-- Each element of a row has its like in what stays. -/
theorem cpt_key (k : α → β) (he : ∀ x y, eq x y = true → k x = k y) (d : Array α) : ∀ n, ∀ i, i < n → ∃ y ∈ cpt eq d n, k y = k d[i]! := by
  intro n
  induction n with
  | zero => intro i hi; omega
  | succ n ih =>
    intro i hi
    by_cases hs : stays eq d n = true
    · rw [cpt_yes hs]
      rcases Nat.lt_succ_iff_lt_or_eq.1 hi with h | rfl
      · obtain ⟨y, hy, e⟩ := ih i h
        exact ⟨y, List.mem_append_left _ hy, e⟩
      · exact ⟨d[i]!, by simp, rfl⟩
    · have hs' : stays eq d n = false := by simpa using hs
      rw [cpt_no hs']
      rcases Nat.lt_succ_iff_lt_or_eq.1 hi with h | rfl
      · exact ih i h
      · unfold stays at hs'
        simp only [Bool.or_eq_false_iff, decide_eq_false_iff_not, Bool.not_eq_eq_eq_not, Bool.not_false] at hs'
        obtain ⟨h0, h1⟩ := hs'
        obtain ⟨y, hy, e⟩ := ih (i - 1) (by omega)
        exact ⟨y, hy, by rw [e, he _ _ h1]⟩
end
theorem ordN_zero {x y : St} (h : ordN x y = 0) : x.dig = y.dig := by
  unfold ordN lexC at h
  split at h
  · rename_i h2; exact absurd h h2
  · exact strC_zero h
theorem OwnR.digs {a : Int} {l ls : List St} (h : OwnR a l ls) : ∀ s ∈ l, okB a s = true → ∃ t ∈ ls, t.dig = s.dig := fun s hs ho => by
  obtain ⟨d, hp, _, rfl⟩ := h
  have h1 : s ∈ d := hp.mem_iff.2 (List.mem_filter.2 ⟨hs, ho⟩)
  obtain ⟨i, hi, rfl⟩ := List.mem_iff_getElem.1 h1
  obtain ⟨y, hy, e⟩ := cpt_key (eq := sameNDs) (fun s : St => s.dig) (fun x y h => ordN_zero (of_decide_eq_true h)) d.toArray d.length i hi
  refine ⟨y, hy, ?_⟩
  rw [e, getElem!_pos d.toArray i (by simpa using hi)]
  simp
theorem OwnR.none {a : Int} {l ls : List St} (h : OwnR a l ls) (hn : ∀ s ∈ l, okB a s = false) : ls = [] := by
  match ls, h.mem, h.ok with
  | [], _, _ => rfl
  | s :: _, hm, hk => exact absurd (hk s (by simp)) (by rw [hn s (hm s (by simp))]; simp)
theorem doubles_none {ls : List St} {ds : List PrD} (h : DoublesR ls ds) (hn : ∀ s ∈ ls, voteB s = false) : ds = [] := by
  match ds, h with
  | [], _ => rfl
  | p :: _, h =>
    obtain ⟨_, h2, _, h4, _⟩ := h.2 p (by simp)
    rw [hn _ h2] at h4; cases h4
theorem two_row {α : Type} {r : α → α → Prop} (irr : ∀ x, ¬ r x x) {s t : α} (hst : s ≠ t) {ls : List α} (hr : ls.Pairwise r) (hu : s ∈ ls) (hv : t ∈ ls) (hm : ∀ x ∈ ls, x = s ∨ x = t) : ls = [s, t] ∨ ls = [t, s] := by
  match ls, hr, hu, hv, hm with
  | [], _, hu, _, _ => cases hu
  | [x], _, hu, hv, _ => exact absurd ((List.mem_singleton.1 hu).trans (List.mem_singleton.1 hv).symm) hst
  | [x, y], hr, hu, hv, hm =>
    have hxy : r x y := (List.pairwise_cons.1 hr).1 y (by simp)
    rcases hm x (by simp) with e | e <;> rcases hm y (by simp) with e2 | e2
    · rw [e, e2] at hxy; exact absurd hxy (irr _)
    · exact .inl (by rw [e, e2])
    · exact .inr (by rw [e, e2])
    · rw [e, e2] at hxy; exact absurd hxy (irr _)
  | x :: y :: z :: _, hr, _, _, hm =>
    have h1 := List.pairwise_cons.1 hr
    have h2 := List.pairwise_cons.1 h1.2
    have a1 := h1.1 y (by simp)
    have a2 := h1.1 z (by simp)
    have a3 := h2.1 z (by simp)
    rcases hm x (by simp) with e | e <;> rcases hm y (by simp) with e2 | e2 <;> rcases hm z (by simp) with e3 | e3 <;> rw [e, e2] at a1 <;> rw [e, e3] at a2 <;> rw [e2, e3] at a3 <;> first | exact absurd a1 (irr _) | exact absurd a2 (irr _) | exact absurd a3 (irr _)
/-- What Find tells where one author alone has written, two statements with one number, and no vote. -/
theorem find_one {l : List St} {a : Nat} (s t : St) (hl : ∀ x ∈ l, x = s ∨ x = t) (hs : s ∈ l) (ht : t ∈ l) (hos : okB (a : Int) s = true) (hot : okB (a : Int) t = true) (hv : ∀ x ∈ l, voteB x = false) (hn : s.number = t.number) (hd : s.dig ≠ t.dig) :
    ∀ k ps, FindR l k ps → (k ≤ a → ps = []) ∧ (a < k → ∃ x y, ps = [(1, x, y)] ∧ x.author = (a : Int)) := by
  have hother : ∀ k : Nat, k ≠ a → ∀ ls, OwnR ((k : Nat) : Int) l ls → ls = [] := fun k hk ls h => h.none fun x hx => by
    have hax : x.author = (a : Int) := by
      rcases hl x hx with rfl | rfl
      · exact (okB_parts hos).1
      · exact (okB_parts hot).1
    have : ¬ x.author = ((k : Nat) : Int) := by omega
    unfold okB
    simp [this]
  have htwo : ∀ ls, OwnR ((a : Nat) : Int) l ls → ls = [s, t] ∨ ls = [t, s] := fun ls h => by
    obtain ⟨u, hu, eu⟩ := h.digs s hs hos
    obtain ⟨v, hv, ev⟩ := h.digs t ht hot
    have hu' : u = s := by
      rcases hl u (h.mem u hu) with e | e
      · exact e
      · rw [e] at eu; exact absurd eu.symm hd
    have hv' : v = t := by
      rcases hl v (h.mem v hv) with e | e
      · rw [e] at ev; exact absurd ev hd
      · exact e
    rw [hu'] at hu
    rw [hv'] at hv
    exact two_row (fun x hx => by have := (good_ordN.anti x x).1 hx; omega) (fun e => hd (by rw [e])) h.rise hu hv fun x hx => hl x (h.mem x hx)
  have hnil : ∀ fs, ForksR [] fs → fs = [] := fun fs h => by
    rcases h with ⟨_, e⟩ | ⟨x, y, h, _⟩
    · exact e
    · cases h
  have hdn : ∀ ds, DoublesR [] ds → ds = [] := fun ds h => doubles_none h (by simp)
  intro k ps h
  induction h with
  | zero => exact ⟨fun _ => rfl, fun h => by omega⟩
  | @few k ps ls h hl2 hn2 ih =>
    refine ⟨fun hk => ih.1 (by omega), fun hk => ?_⟩
    rcases Nat.lt_or_eq_of_le (Nat.le_of_lt_succ hk) with h3 | rfl
    · exact ih.2 h3
    · rcases htwo ls hl2 with rfl | rfl <;> simp at hn2
  | @more k ps fs ds ls h hl2 hf hdb ih =>
    by_cases hka : k = a
    · subst hka
      have e0 := ih.1 (Nat.le_refl _)
      have hdv : ds = [] := doubles_none hdb fun x hx => hv x (hl2.mem x hx)
      refine ⟨fun h => by omega, fun _ => ?_⟩
      subst e0 hdv
      rw [List.append_nil, List.nil_append]
      rcases htwo ls hl2 with rfl | rfl
      · have e : forkF [s, t] = some (s, t) := by unfold forkF; rw [if_pos hn]
        rcases hf with ⟨h, _⟩ | ⟨x, y, h, rfl⟩
        · rw [e] at h; cases h
        · rw [e] at h; cases h
          exact ⟨_, _, rfl, (okB_parts hos).1⟩
      · have e : forkF [t, s] = some (t, s) := by unfold forkF; rw [if_pos hn.symm]
        rcases hf with ⟨h, _⟩ | ⟨x, y, h, rfl⟩
        · rw [e] at h; cases h
        · rw [e] at h; cases h
          exact ⟨_, _, rfl, (okB_parts hot).1⟩
    · have e1 := hother k hka ls hl2
      subst e1
      rw [hnil fs hf, hdn ds hdb, List.append_nil, List.append_nil]
      exact ⟨fun h => ih.1 (by omega), fun h => ih.2 (by omega)⟩
/-- A proof that shows it is right. -/
theorem PairOK.chk {p : PrD} (h : PairOK p) : chkX p = 0 := by
  obtain ⟨h1, h2, h3, h4, h5, h6⟩ := h
  have e1 : p.2.1.dig = sha (stB p.2.1) := by unfold sealedB at h3; simp only [Bool.and_eq_true, decide_eq_true_eq] at h3; exact h3.2
  have e2 : p.2.2.dig = sha (stB p.2.2) := by unfold sealedB at h4; simp only [Bool.and_eq_true, decide_eq_true_eq] at h4; exact h4.2
  have hk : ((decide (p.1 = 1) && kindB1 p.2.1 p.2.2) || (decide (p.1 = 2) && kindB2 p.2.1 p.2.2)) = true := by
    rcases h6 with ⟨k1, k2, k3⟩ | ⟨k1, k2, k3, k4, k5⟩
    · rw [Bool.or_eq_true]
      left
      unfold kindB1
      rw [← e1, ← e2]
      simp [k1, k2, k3]
    · rw [Bool.or_eq_true]
      right
      unfold caseB at k4
      simp only [Bool.and_eq_true, decide_eq_true_eq] at k4
      obtain ⟨⟨⟨c1, c2⟩, c3⟩, c4⟩ := k4
      unfold kindB2 caseB
      simp [k1, k2, k3, c1, c2, c3, c4, k5]
  unfold chkX
  rw [h3, h4, hk]
  rfl
/-- The two statements of law36.awake. -/
def awS (ti : Nat) : St := millS 2 4 (ti : Int) (drD 11 0 0 0 [])
theorem awS_eq (ti : Nat) : awS ti = sealS ⟨((2 : Nat) : Int), ((4 : Nat) : Int), dgW [0, 0, 0, 0, 0, 0, 0, 0], (ti : Int), ((11 : Nat) : Int), ((0 : Nat) : Int), 0, 0, [], [], ⟨#[]⟩, 0, ⟨#[]⟩⟩ := by
  have e : (if (0 : Int) < 4 then strOf (List.replicate 32 (0 : UInt8)) else ⟨#[]⟩) = dgW [0, 0, 0, 0, 0, 0, 0, 0] := by
    rw [if_pos (by decide)]
    kernel_rfl
  unfold awS millS
  rw [e]
  rfl
theorem awS_ok (ti : Nat) (h : ti ≤ 1) : okB ((2 : Nat) : Int) (awS ti) = true := by
  rw [awS_eq]
  refine okB_iff.2 ⟨rfl, ?_, sealS_sealed _⟩
  exact plain_check (by decide) (by decide) (fun h => absurd h (by decide)) (fun _ => dgW_size _ rfl) (by omega) (by decide) (by decide)
theorem awS_vote (ti : Nat) : voteB (awS ti) = false := voteB_kind (by show (11 : Int) ≠ 10; decide)
set_option maxRecDepth 100000 in
theorem shaW0 : sha (stB ⟨((2 : Nat) : Int), ((4 : Nat) : Int), dgW [0, 0, 0, 0, 0, 0, 0, 0], ((0 : Nat) : Int), ((11 : Nat) : Int), ((0 : Nat) : Int), ((0 : Nat) : Int), ((0 : Nat) : Int), [], [], ⟨#[]⟩, 0, ⟨#[]⟩⟩) = dgW ([3113054183, 3007760211, 654458685, 2410820234, 1132174521, 99787446, 2766103030, 1363547010].map UInt32.ofNat) := shaOf3 (by decide) (by kernel_rfl : stN3 2 4 (0 : UInt32).toNat (0 : UInt32).toNat (0 : UInt32).toNat (0 : UInt32).toNat (0 : UInt32).toNat (0 : UInt32).toNat (0 : UInt32).toNat (0 : UInt32).toNat 0 11 0 0 0 lk8 = [3113054183, 3007760211, 654458685, 2410820234, 1132174521, 99787446, 2766103030, 1363547010])
set_option maxRecDepth 100000 in
theorem shaW1 : sha (stB ⟨((2 : Nat) : Int), ((4 : Nat) : Int), dgW [0, 0, 0, 0, 0, 0, 0, 0], ((1 : Nat) : Int), ((11 : Nat) : Int), ((0 : Nat) : Int), ((0 : Nat) : Int), ((0 : Nat) : Int), [], [], ⟨#[]⟩, 0, ⟨#[]⟩⟩) = dgW ([1538569275, 636141278, 61743591, 3502319244, 3224967066, 1590997244, 4196561366, 337215333].map UInt32.ofNat) := shaOf3 (by decide) (by kernel_rfl : stN3 2 4 (0 : UInt32).toNat (0 : UInt32).toNat (0 : UInt32).toNat (0 : UInt32).toNat (0 : UInt32).toNat (0 : UInt32).toNat (0 : UInt32).toNat (0 : UInt32).toNat 1 11 0 0 0 lk8 = [1538569275, 636141278, 61743591, 3502319244, 3224967066, 1590997244, 4196561366, 337215333])
theorem seal_dig (s : St) : (sealS s).dig = sha (stB s) := rfl
theorem awS_dg (ti : Nat) : (awS ti).dig = sha (stB ⟨((2 : Nat) : Int), ((4 : Nat) : Int), dgW [0, 0, 0, 0, 0, 0, 0, 0], ((ti : Nat) : Int), ((11 : Nat) : Int), ((0 : Nat) : Int), ((0 : Nat) : Int), ((0 : Nat) : Int), [], [], ⟨#[]⟩, 0, ⟨#[]⟩⟩) := by
  rw [awS_eq, seal_dig]
  exact congrArg (fun z : Int => sha (stB ⟨((2 : Nat) : Int), ((4 : Nat) : Int), dgW [0, 0, 0, 0, 0, 0, 0, 0], ((ti : Nat) : Int), ((11 : Nat) : Int), ((0 : Nat) : Int), z, z, [], [], ⟨#[]⟩, 0, ⟨#[]⟩⟩)) (rfl : (0 : Int) = ((0 : Nat) : Int))
theorem awS_dig : (awS 0).dig ≠ (awS 1).dig := by
  rw [awS_dg, awS_dg, shaW0, shaW1]
  intro h
  exact absurd (dgW_head h) (by decide)
/-- What Find tells of them, whatever their order. -/
theorem aw_find {l : List St} (hl : ∀ x ∈ l, x = awS 0 ∨ x = awS 1) (h0 : awS 0 ∈ l) (h1 : awS 1 ∈ l) {ps : List PrD} (h : FindR l 64 ps) : ∃ x y, ps = [(1, x, y)] ∧ x.author = 2 ∧ Lib.compact (ps.map fun p => p.2.1.author) = [2] := by
  have hv : ∀ x ∈ l, voteB x = false := fun x hx => by rcases hl x hx with rfl | rfl <;> exact awS_vote _
  obtain ⟨x, y, rfl, e⟩ := (find_one (a := 2) (awS 0) (awS 1) hl h0 h1 (awS_ok 0 (by omega)) (awS_ok 1 (by omega)) hv rfl awS_dig 64 ps h).2 (by omega)
  refine ⟨x, y, rfl, e, ?_⟩
  show Lib.compact [x.author] = [2]
  rw [e]
  rfl
end Go.Proofs.YtaihmldiglgipaaGreat

namespace Go.Proofs.YtaihmldiglgipaaGreat
open Go.RowKit Go.Sort

theorem tape_setC (g : Nat) : ∀ (vs : List Value) (o : Nat) (w : World), (w.setCells g o vs).tape = w.tape
  | [], _, _ => rfl
  | v :: r, o, w => by rw [World.setCells, tape_setC g r]; unfold World.setCell; split <;> rfl
theorem size_setC (g : Nat) : ∀ (vs : List Value) (o : Nat) (w : World), (w.setCells g o vs).heap.size = w.heap.size
  | [], _, _ => rfl
  | v :: r, o, w => by rw [World.setCells, size_setC g r]; simp
theorem heap_setC (w : World) (g o : Nat) (vs : List Value) (i : Nat) (hne : i ≠ g) : (w.setCells g o vs).heap[i]? = w.heap[i]? := by
  by_cases hi : i < w.heap.size
  · exact World.heap_setCells_other w g o vs hi hne
  · rw [Array.getElem?_eq_none (by rw [size_setC]; omega), Array.getElem?_eq_none (by omega)]
theorem Ex.setCells {B : Nat} {a w : World} (h : Ex B none a w) (g o : Nat) (vs : List Value) (hp : B ≤ g) : Ex B none a (w.setCells g o vs) :=
  ⟨(World.os_setCells w g o vs).trans h.os, (tape_setC g vs o w).trans h.tape, (World.output_setCells w g o vs).trans h.output, by rw [size_setC]; exact h.size, fun k hk hne => (heap_setC w g o vs k (by omega)).trans (h.block k hk hne)⟩
/-- A proof in a box that may be written. -/
def BoxR (g : Nat) (x : PrX) (w : World) : Prop := w.rangeAt g 0 [.int .i64 x.1] ∧ w.rangeAt g 1 (stE x.2.1) ∧ w.rangeAt g 14 (stE x.2.2) ∧ w.there g 0 27
theorem BoxR.range {g : Nat} {x : PrX} {w : World} (h : BoxR g x w) : w.rangeAt g 0 (prE x) := fun j v hj => by
  obtain ⟨h0, h1, h2, _⟩ := h
  rw [Nat.zero_add]
  match j, hj with
  | 0, hj => exact h0 0 v hj
  | j + 1, hj =>
    have hj' : (stE x.2.1 ++ stE x.2.2)[j]? = some v := hj
    by_cases c : j < 13
    · rw [List.getElem?_append_left (by rw [stE_len]; exact c)] at hj'
      have := h1 j v hj'
      rwa [Nat.add_comm] at this
    · rw [List.getElem?_append_right (by rw [stE_len]; omega), stE_len] at hj'
      have := h2 (j - 13) v hj'
      rwa [show 14 + (j - 13) = j + 1 by omega] at this
theorem BoxR.load {g : Nat} {x : PrX} {w : World} (h : BoxR g x w) : (rowLoad 37 ⟨g, 0, none⟩).run Tryz.prog w = .ok (prV x) w := prV_load h.range
theorem BoxR.of {g : Nat} {x : PrX} {w : World} (h : w.heap[g]? = some (.cells (prE x).toArray 37 (0, 0))) : BoxR g x w := by
  refine ⟨fun j v hj => ?_, fun j v hj => ?_, fun j v hj => ?_, fun j hj => ⟨?_, by simp [World.frozen?, h]⟩⟩
  · rw [cell_of_row _ _ _ _ _ _ h, List.getElem?_toArray, Nat.zero_add]
    match j, hj with
    | 0, hj => exact hj
  · rw [cell_of_row _ _ _ _ _ _ h, List.getElem?_toArray, Nat.add_comm]
    have hl := (List.getElem?_eq_some_iff.1 hj).1
    show (stE x.2.1 ++ stE x.2.2)[j]? = some v
    rw [List.getElem?_append_left hl]; exact hj
  · rw [cell_of_row _ _ _ _ _ _ h, List.getElem?_toArray, show 14 + j = (13 + j) + 1 by omega]
    show (stE x.2.1 ++ stE x.2.2)[13 + j]? = some v
    rw [List.getElem?_append_right (by rw [stE_len]; omega), stE_len, show 13 + j - 13 = j by omega]; exact hj
  · rw [cell_of_row _ _ _ _ _ _ h, List.getElem?_toArray, Nat.zero_add]
    simp [prE_len, hj]
theorem BoxR.lt {g : Nat} {x : PrX} {w : World} (h : BoxR g x w) : g < w.heap.size := rangeAt_lt h.range (by rw [prE_len]; decide)
theorem BoxR.keep {g : Nat} {x : PrX} {w w' : World} (h : BoxR g x w) (hk : w'.heap[g]? = w.heap[g]?) : BoxR g x w' := by
  obtain ⟨h0, h1, h2, h3⟩ := h
  exact ⟨rangeAt_keep h0 hk, rangeAt_keep h1 hk, rangeAt_keep h2 hk, fun j hj => ⟨by rw [World.cell?_of_block (a := ⟨g, 0 + j, none⟩) hk]; exact (h3 j hj).1, by rw [World.frozen?_of_block (a := ⟨g, 0 + j, none⟩) hk]; exact (h3 j hj).2⟩⟩
theorem BoxR.other {g g' : Nat} {x : PrX} {w : World} (h : BoxR g x w) (hne : g ≠ g') (o : Nat) (vs : List Value) : BoxR g x (w.setCells g' o vs) := h.keep (heap_setC w g' o vs g hne)
theorem there_sub {w : World} {g n o m : Nat} (h : w.there g 0 n) (hm : o + m ≤ n) : w.there g o m := fun j hj => by
  have := h (o + j) (by omega)
  rwa [Nat.zero_add] at this
theorem BoxR.put1 {g : Nat} {x : PrX} {w : World} (h : BoxR g x w) (y : St × Sv × Sv) : (rowStore 35 ⟨g, 1, none⟩ (stV y)).run Tryz.prog w = .ok () (w.setCells g 1 (stE y)) ∧ BoxR g (x.1, y, x.2.2) (w.setCells g 1 (stE y)) := by
  obtain ⟨h0, h1, h2, h3⟩ := h
  refine ⟨run_storeVar_mid (P := Tryz.prog) w g 1 35 (stE y).toArray (there_sub h3 (by show 1 + 13 ≤ 27; omega)) Tryz.sizeStv (stV_one y), World.rangeAt_setCells_apart h0 g 1 _ (.inr (.inl (by simp))), World.rangeAt_setCells_same w g 1 _ (there_sub h3 (by rw [stE_len]; omega)), World.rangeAt_setCells_apart h2 g 1 _ (.inr (.inr (by rw [stE_len]; omega))), World.there_setCells h3 g 1 _⟩
theorem BoxR.put2 {g : Nat} {x : PrX} {w : World} (h : BoxR g x w) (y : St × Sv × Sv) : (rowStore 35 ⟨g, 14, none⟩ (stV y)).run Tryz.prog w = .ok () (w.setCells g 14 (stE y)) ∧ BoxR g (x.1, x.2.1, y) (w.setCells g 14 (stE y)) := by
  obtain ⟨h0, h1, h2, h3⟩ := h
  refine ⟨run_storeVar_mid (P := Tryz.prog) w g 14 35 (stE y).toArray (there_sub h3 (by show 14 + 13 ≤ 27; omega)) Tryz.sizeStv (stV_one y), World.rangeAt_setCells_apart h0 g 14 _ (.inr (.inl (by simp))), World.rangeAt_setCells_apart h1 g 14 _ (.inr (.inl (by rw [stE_len]; omega))), World.rangeAt_setCells_same w g 14 _ (there_sub h3 (by rw [stE_len]; omega)), World.there_setCells h3 g 14 _⟩
theorem BoxR.cell {g : Nat} {x : PrX} {w : World} (h : BoxR g x w) (j : Nat) (hj : j < 27) : w.cell? ⟨g, j, none⟩ = (prE x)[j]? ∧ w.frozen? ⟨g, j, none⟩ = false := by
  have h1 := h.range
  have hl : j < (prE x).length := by rw [prE_len]; exact hj
  have h2 := h1 j (prE x)[j] (List.getElem?_eq_getElem hl)
  rw [Nat.zero_add] at h2
  refine ⟨by rw [h2, List.getElem?_eq_getElem hl], ?_⟩
  have h3 := (h.2.2.2 j hj).2
  rwa [Nat.zero_add] at h3
theorem BoxR.putN {g : Nat} {x : PrX} {w : World} (h : BoxR g x w) (k : Int) : BoxR g (k, x.2.1, x.2.2) (w.setCell ⟨g, 0, none⟩ (.int .i64 k)) := by
  obtain ⟨h0, h1, h2, h3⟩ := h
  have e : w.setCell ⟨g, 0, none⟩ (.int .i64 k) = w.setCells g 0 [.int .i64 k] := rfl
  rw [e]
  exact ⟨World.rangeAt_setCells_same w g 0 _ (there_sub h3 (by simp)), World.rangeAt_setCells_apart h1 g 0 _ (.inr (.inr (by simp))), World.rangeAt_setCells_apart h2 g 0 _ (.inr (.inr (by simp))), World.there_setCells h3 g 0 _⟩
/-- A statement with another key. -/
def keyS (s : St) (k : Int) : St := { s with key := k }
theorem BoxR.putK {g : Nat} {x : PrX} {w : World} (h : BoxR g x w) (k : Int) : BoxR g (x.1, x.2.1, (keyS x.2.2.1 k, x.2.2.2)) (w.setCell ⟨g, 25, none⟩ (.int .i64 k)) := by
  obtain ⟨h0, h1, h2, h3⟩ := h
  have e : w.setCell ⟨g, 25, none⟩ (.int .i64 k) = w.setCells g 25 [.int .i64 k] := rfl
  rw [e]
  refine ⟨World.rangeAt_setCells_apart h0 g 25 _ (.inr (.inl (by simp))), World.rangeAt_setCells_apart h1 g 25 _ (.inr (.inl (by rw [stE_len]; omega))), fun j v hj => ?_, World.there_setCells h3 g 25 _⟩
  have hs := World.rangeAt_setCells_same w g 25 [.int .i64 k] (there_sub h3 (by simp))
  by_cases c : j = 11
  · subst c
    have hv : v = .int .i64 k := by
      have : some (Value.int .i64 k) = some v := hj
      exact (Option.some.inj this).symm
    subst hv
    exact hs 0 _ rfl
  · have hj2 : (stE x.2.2)[j]? = some v := by
      have hl := (List.getElem?_eq_some_iff.1 hj).1
      rw [stE_len] at hl
      rw [← hj]
      match j, hl, c with
      | 0, _, _ => rfl
      | 1, _, _ => rfl
      | 2, _, _ => rfl
      | 3, _, _ => rfl
      | 4, _, _ => rfl
      | 5, _, _ => rfl
      | 6, _, _ => rfl
      | 7, _, _ => rfl
      | 8, _, _ => rfl
      | 9, _, _ => rfl
      | 10, _, _ => rfl
      | 12, _, _ => rfl
    rw [World.cell?_setCells_out g [.int .i64 k] 25 w ⟨g, 14 + j, none⟩ (fun _ _ => by show 14 + j < 25 ∨ 25 + 1 ≤ 14 + j; omega)]
    exact h2 j v hj2
end Go.Proofs.YtaihmldiglgipaaGreat

namespace Go.Proofs.YtaihmldiglgipaaGreat
open Go.RowKit Go.Sort

theorem chk48 {p : PrD} (h1 : sealedB p.2.1 = true) (h2 : sealedB p.2.2 = true) (h3 : p.1 = 1 → kindB1 p.2.1 p.2.2 = false) (h4 : p.1 = 2 → kindB2 p.2.1 p.2.2 = false) : chkX p = 48 := by
  unfold chkX
  rw [h1, h2]
  have e : ((decide (p.1 = 1) && kindB1 p.2.1 p.2.2) || (decide (p.1 = 2) && kindB2 p.2.1 p.2.2)) = false := by
    by_cases c1 : p.1 = 1
    · rw [h3 c1, Bool.and_false, Bool.false_or, decide_eq_false (by omega : ¬ p.1 = 2), Bool.false_and]
    · by_cases c2 : p.1 = 2
      · rw [h4 c2, Bool.and_false, decide_eq_false c1, Bool.false_and]; rfl
      · rw [decide_eq_false c1, decide_eq_false c2, Bool.false_and, Bool.false_and]; rfl
  rw [e]
  rfl
theorem seal_sha {s : St} (h : sealedB s = true) : s.dig = sha (stB s) := by unfold sealedB at h; simp only [Bool.and_eq_true, decide_eq_true_eq] at h; exact h.2
theorem kind1_no {s t : St} (h : ¬ strC (sha (stB s)) (sha (stB t)) < 0) : kindB1 s t = false := by unfold kindB1; rw [decide_eq_false h, Bool.and_false]
theorem kind2_no {s t : St} (h : ¬ ordC s t < 0) : kindB2 s t = false := by unfold kindB2; rw [decide_eq_false h, Bool.and_false, Bool.and_false, Bool.and_false]
theorem PairOK.swap {p : PrD} (h : PairOK p) : chkX (p.1, p.2.2, p.2.1) = 48 := by
  obtain ⟨_, _, h3, h4, _, h6⟩ := h
  refine chk48 h4 h3 (fun e => kind1_no ?_) (fun e => kind2_no ?_)
  · have e' : p.1 = 1 := e
    rcases h6 with ⟨_, _, k⟩ | ⟨k, _⟩
    · rw [seal_sha h3, seal_sha h4] at k
      show ¬ strC (sha (stB p.2.2)) (sha (stB p.2.1)) < 0
      have := (good_strC.anti _ _).1 k
      omega
    · omega
  · have e' : p.1 = 2 := e
    rcases h6 with ⟨k, _⟩ | ⟨_, _, _, _, k⟩
    · omega
    · show ¬ ordC p.2.2 p.2.1 < 0
      have := (good_ordC.anti _ _).1 k
      omega
theorem PairOK.same {p : PrD} (h : PairOK p) : chkX (p.1, p.2.1, p.2.1) = 48 := by
  obtain ⟨_, _, h3, _, _, _⟩ := h
  refine chk48 h3 h3 (fun _ => kind1_no ?_) (fun _ => kind2_no ?_)
  · intro k
    have h1 : strC (sha (stB p.2.1)) (sha (stB p.2.1)) < 0 := k
    have := (good_strC.anti _ _).1 h1
    omega
  · intro k
    have h1 : ordC p.2.1 p.2.1 < 0 := k
    have := (good_ordC.anti _ _).1 h1
    omega
theorem PairOK.three {p : PrD} (h : PairOK p) : chkX (3, p.2.1, p.2.2) = 48 := by
  obtain ⟨_, _, h3, h4, _, _⟩ := h
  refine chk48 h3 h4 (fun e => ?_) (fun e => ?_)
  · exact absurd (show (3 : Int) = 1 from e) (by decide)
  · exact absurd (show (3 : Int) = 2 from e) (by decide)
theorem PairOK.key {p : PrD} {k : Int} (hk : k ≠ p.2.2.author) : chkX (p.1, p.2.1, keyS p.2.2 k) = 6 := by
  have e : sealedB (keyS p.2.2 k) = false := by
    unfold sealedB
    rw [decide_eq_false (show ¬ (keyS p.2.2 k).key = (keyS p.2.2 k).author from hk), Bool.false_and]
  unfold chkX
  rw [show sealedB ((p.1, p.2.1, keyS p.2.2 k) : PrD).2.2 = false from e, Bool.and_false]
  rfl
theorem author_bd {s : St} (h : checkI s = 0) : 0 ≤ s.author ∧ s.author < 64 := by
  unfold checkI at h
  split at h
  · cases h
  · rename_i h1
    exact keyB_iff.1 (by simpa using h1)
/-- A proof of a row, in parts. -/
theorem prv_get2 {P : Nat → Prop} {w : World} {ao : Option Addr} {l : List PrD} (h : SlAt prRep P w ao l) (k : Nat) (hk : k < l.length) :
    ∃ b off x, ao = some ⟨b, off, none⟩ ∧ P b ∧ b < w.heap.size ∧ Hid (l[k]? = some x.d) ∧ LiesP P w x ∧ Hid (∀ w' : World, w'.heap[b]? = w.heap[b]? → w'.rangeAt b (off + k * 27) (prE x)) := by
  obtain ⟨b, off, cs, p, e, hp, hr, ⟨x, hx, rfl, hl⟩, hk2⟩ := h.get k hk
  subst hx
  exact ⟨b, off, x, e, hp, rangeAt_lt hr (by rw [prE_len]; decide), hk2, hl, Lib.hid fun w' hw => rangeAt_keep hr hw⟩
theorem pr_parts {w : World} {b o : Nat} {x : PrX} (h : w.rangeAt b o (prE x)) : (rowLoad 37 ⟨b, o, none⟩).run Tryz.prog w = .ok (prV x) w ∧ (rowLoad 35 ⟨b, o + 1, none⟩).run Tryz.prog w = .ok (stV x.2.1) w ∧ (rowLoad 35 ⟨b, o + 14, none⟩).run Tryz.prog w = .ok (stV x.2.2) w ∧ w.cell? ⟨b, o + 14, none⟩ = some (.int .i64 x.2.2.1.author) := by
  have h1 : w.rangeAt b (o + 1) (stE x.2.1) := fun j v hj => by
    have hl := (List.getElem?_eq_some_iff.1 hj).1
    have := h (j + 1) v (by show (stE x.2.1 ++ stE x.2.2)[j]? = some v; rw [List.getElem?_append_left hl]; exact hj)
    rwa [show o + (j + 1) = o + 1 + j by omega] at this
  have h2 : w.rangeAt b (o + 14) (stE x.2.2) := fun j v hj => by
    have := h (13 + j + 1) v (by show (stE x.2.1 ++ stE x.2.2)[13 + j]? = some v; rw [List.getElem?_append_right (by rw [stE_len]; omega), stE_len, show 13 + j - 13 = j by omega]; exact hj)
    rwa [show o + (13 + j + 1) = o + 14 + j by omega] at this
  exact ⟨prV_load h, stV_load h1, stV_load h2, by have := h2 0 (.int .i64 x.2.2.1.author) rfl; rwa [Nat.add_zero] at this⟩
end Go.Proofs.YtaihmldiglgipaaGreat
