/- ref34.Draft: contracts, no statement of the seat. -/
import Derived.Test.YtaghfcnpnfhacaaGreatMg05
import Derived.Test.YtaghfcnpnfhacaaGreatMg01
import Derived.Test.YtaghfcnpnfhacaaGreatSeal03G
import Derived.Laws.ResultCell
import Derived.Great.BuildSlice
import Derived.Deep.RegionHeld3
namespace Go.Proofs.YtaghfcnpnfhacaaGreat
open Go.RowKit Go.Sort

theorem Tryz.sizeDraft : (Tryz.prog.info? 34).map (·.size) = some 6 := by kernel_rfl
set_option maxHeartbeats 4000000 in
set_option maxRecDepth 100000 in
theorem draft34_no {P : Nat → Prop} (o n : Int) (go : Option Addr) (gn gc : Nat) (g : List Int) (w : World) (hg : Sl intRep P w (.slice go gn gc) g) (hm : g.length ≤ 1000000) (hv : validG o n g = false) :
    Calls Tryz.prog 66 #[.agg #[.int .i64 o, .int .i64 n, .slice go gn gc]] w fun e w' => e = .returned (.tuple #[.agg #[.int .i64 0, .int .i64 0, .int .i64 0, .int .i64 0, .slice none 0 0, .slice none 0 0], .int .i64 47]) ∧ Ex w.heap.size none w w' := by
  have HG := Lib.hid hg
  have HGN : Hid (gn = g.length) := by obtain ⟨_, _, e, _⟩ := hg; cases e; exact rfl
  clear hg
  go_enter Tryz.func66, Tryz.ntmps66
  go_upto_region 1 with (fail)
  obtain ⟨w0, hw0⟩ : ∃ w0 : World, w0 = (w.alloc (.cells #[.int .i64 o, .int .i64 n, .slice go gn gc] 113)).alloc (.cells #[.int .i64 0, .int .i64 0, .int .i64 0, .int .i64 0, .slice none 0 0, .slice none 0 0] 34) := ⟨_, rfl⟩
  have HE0 : Hid (Ex w.heap.size none w w0) := Lib.hid (by rw [hw0]; exact ex_two0 _ _)
  have hz0 : w0.heap.size = w.heap.size + 2 := by rw [hw0]; simp
  have HB : Hid (∀ w', Ex w0.heap.size none w0 w' → w'.heap[w.heap.size]? = some (.cells #[.int .i64 o, .int .i64 n, .slice go gn gc] 113 (0, 0)) ∧ w'.heap[w.heap.size + 1]? = some (.cells #[.int .i64 0, .int .i64 0, .int .i64 0, .int .i64 0, .slice none 0 0, .slice none 0 0] 34 (0, 0))) := Lib.hid (fun w' h => by
    rw [hw0] at h hz0
    exact ⟨(h.block _ (by omega) (by simp)).trans (heap_alloc2_old _ _ _), (h.block _ (by omega) (by simp)).trans (heap_alloc2_new _ _ _)⟩)
  have HQ : Hid (∀ w', Ex w0.heap.size none w0 w' → w'.cell? ⟨w.heap.size, 0, none⟩ = some (.int .i64 o) ∧ w'.cell? ⟨w.heap.size, 1, none⟩ = some (.int .i64 n) ∧ w'.cell? ⟨w.heap.size, 2, none⟩ = some (.slice go gn gc)) := Lib.hid (fun w' h => by
    have k := (HB.out w' h).1
    refine ⟨?_, ?_, ?_⟩ <;> (rw [cell_of_row _ _ _ _ _ _ k]; rfl))
  rw [← hw0]
  clear hw0
  obtain ⟨d0, d1, d2⟩ := HQ.out _ (Ex.refl _ _ w0)
  have HGK : Hid (∀ w', Ex w0.heap.size none w0 w' → Sl intRep P w' (.slice go gn gc) g) := Lib.hid (fun w' h => HG.out.keep (by decide) fun b _ hb => (h.block b (by omega) (by simp)).trans (HE0.out.block b hb (by simp)))
  go_upto_region 2 with (first | (go_at_call 148; refine (asB (refValid34_any o n go gn gc g _ (sl_ints (HGK.out _ (Ex.refl _ _ _))).at' HGN.out.symm (by have := HGN.out; omega)) hv).mono ?_; rintro e w1 ⟨rfl, hex⟩; have HE1 := Lib.hid hex; have hz1 := hex.size; clear hex d0 d1 d2; obtain ⟨d0, d1, d2⟩ := HQ.out _ HE1.out) | fail)
  have hrb := (HB.out _ HE1.out).2
  go_wp2_with (first | (refine wpList_store_rowTo rfl 34 (.tmp 2) (.tmp 7) rfl rfl (w.heap.size + 1) #[.int .i64 0, .int .i64 0, .int .i64 0, .int .i64 0, .slice none 0 0, .slice none 0 0] (by rfl) (by rfl) 34 _ hrb Tryz.sizeDraft rfl (by simp [Value.oneCell']) ?_) | fail)
  have hr := run_loadVar_row (P := Tryz.prog) _ (w.heap.size + 1) 34 34 (#[.int .i64 0, .int .i64 0, .int .i64 0, .int .i64 0, .slice none 0 0, .slice none 0 0] : Array Value) (0, 0) _ (setRow_heap _ _ _ _ _ _ hrb) Tryz.underlying34 rfl Tryz.sizeDraft
  refine bodyPost_ret (v := .tuple #[.agg #[.int .i64 0, .int .i64 0, .int .i64 0, .int .i64 0, .slice none 0 0, .slice none 0 0], .int .i64 47]) ?_ rfl ?_
  · rw [results_cell_tmp Tryz.results66]
    show ((loadVar 34 ⟨w.heap.size + 1, 0, none⟩).run Tryz.prog _).andThen _ = _
    rw [hr]
    rfl
  exact ⟨rfl, (HE0.out.trans HE1.out (by omega) (by simp)).setRow _ _ (.inr (by omega))⟩

set_option maxHeartbeats 8000000 in
set_option maxRecDepth 100000 in
theorem draft34_yes {P : Nat → Prop} (o n : Int) (go : Option Addr) (gn gc : Nat) (g : List Int) (w : World) (hg : Sl intRep P w (.slice go gn gc) g) (hm : g.length ≤ 1000000) (hv : validG o n g = true) :
    Calls Tryz.prog 66 #[.agg #[.int .i64 o, .int .i64 n, .slice go gn gc]] w fun e w' => ∃ (ao : Option Addr) (ac : Nat), e = .returned (.tuple #[.agg #[.int .i64 12, .int .i64 n, .int .i64 0, .int .i64 0, .slice ao gn ac, .slice none 0 0], .int .i64 0]) ∧ Sl intRep (fun b => w.heap.size ≤ b) w' (.slice ao gn ac) g ∧ Ex w.heap.size none w w' := by
  have HG := Lib.hid hg
  have HGN : Hid (gn = g.length) := by obtain ⟨_, _, e, _⟩ := hg; cases e; exact rfl
  clear hg
  go_enter Tryz.func66, Tryz.ntmps66
  go_upto_region 1 with (fail)
  obtain ⟨w0, hw0⟩ : ∃ w0 : World, w0 = (w.alloc (.cells #[.int .i64 o, .int .i64 n, .slice go gn gc] 113)).alloc (.cells #[.int .i64 0, .int .i64 0, .int .i64 0, .int .i64 0, .slice none 0 0, .slice none 0 0] 34) := ⟨_, rfl⟩
  have HE0 : Hid (Ex w.heap.size none w w0) := Lib.hid (by rw [hw0]; exact ex_two0 _ _)
  have hz0 : w0.heap.size = w.heap.size + 2 := by rw [hw0]; simp
  have HB : Hid (∀ w', Ex w0.heap.size none w0 w' → w'.heap[w.heap.size]? = some (.cells #[.int .i64 o, .int .i64 n, .slice go gn gc] 113 (0, 0)) ∧ w'.heap[w.heap.size + 1]? = some (.cells #[.int .i64 0, .int .i64 0, .int .i64 0, .int .i64 0, .slice none 0 0, .slice none 0 0] 34 (0, 0))) := Lib.hid (fun w' h => by
    rw [hw0] at h hz0
    exact ⟨(h.block _ (by omega) (by simp)).trans (heap_alloc2_old _ _ _), (h.block _ (by omega) (by simp)).trans (heap_alloc2_new _ _ _)⟩)
  have HQ : Hid (∀ w', Ex w0.heap.size none w0 w' → w'.cell? ⟨w.heap.size, 0, none⟩ = some (.int .i64 o) ∧ w'.cell? ⟨w.heap.size, 1, none⟩ = some (.int .i64 n) ∧ w'.cell? ⟨w.heap.size, 2, none⟩ = some (.slice go gn gc)) := Lib.hid (fun w' h => by
    have k := (HB.out w' h).1
    refine ⟨?_, ?_, ?_⟩ <;> (rw [cell_of_row _ _ _ _ _ _ k]; rfl))
  rw [← hw0]
  clear hw0
  obtain ⟨d0, d1, d2⟩ := HQ.out _ (Ex.refl _ _ w0)
  have HGK : Hid (∀ w', Ex w0.heap.size none w0 w' → Sl intRep P w' (.slice go gn gc) g) := Lib.hid (fun w' h => HG.out.keep (by decide) fun b _ hb => (h.block b (by omega) (by simp)).trans (HE0.out.block b hb (by simp)))
  go_upto_region 3 with (first | (go_at_call 148; refine (asB (refValid34_any o n go gn gc g _ (sl_ints (HGK.out _ (Ex.refl _ _ _))).at' HGN.out.symm (by have := HGN.out; omega)) hv).mono ?_; rintro e w1 ⟨rfl, hex⟩; have HE1 := Lib.hid hex; have hz1 := hex.size; clear hex d0 d1 d2; obtain ⟨d0, d1, d2⟩ := HQ.out _ HE1.out) | fail)
  have HRB := Lib.hid (HB.out _ HE1.out).2
  have HGS : Hid (∀ w', Ex w1.heap.size none w1 w' → g.length = 0 ∨ ∃ ad, go = some ad ∧ ∀ (j : Nat) (v : Value), (flatL iE g)[j]? = some v → w'.cell? (ad.add j) = some v) := Lib.hid (fun w' h => ints_srcE (sl_ints (HGK.out _ (HE1.out.trans h hz1 (by simp)))))
  have hgl : gn ≤ 1000000 := by have := HGN.out; omega
  have HQR : Hid (∀ w', Ex (w.heap.size + 1) none w0 w' → w'.cell? ⟨w.heap.size, 0, none⟩ = some (.int .i64 o) ∧ w'.cell? ⟨w.heap.size, 1, none⟩ = some (.int .i64 n) ∧ w'.cell? ⟨w.heap.size, 2, none⟩ = some (.slice go gn gc)) := Lib.hid (fun w' h => by
    have k := (h.block w.heap.size (by omega) (by simp)).trans (HB.out _ (Ex.refl _ _ w0)).1
    refine ⟨?_, ?_, ?_⟩ <;> (rw [cell_of_row _ _ _ _ _ _ k]; rfl))
  have HE1R : Hid (Ex (w.heap.size + 1) none w0 w1) := Lib.hid (HE1.out.mono (by omega))
  go_region_held3 (fun w' => w'.cell? ⟨w.heap.size, 0, none⟩ = some (.int .i64 o) ∧ w'.cell? ⟨w.heap.size, 1, none⟩ = some (.int .i64 n) ∧ w'.cell? ⟨w.heap.size, 2, none⟩ = some (.slice go gn gc)) (exact HQR.out _ (by repeat (first | with_reducible exact HE2R.out | with_reducible exact HE1R.out | refine Ex.drew ?_ | refine Ex.setCell ?_ _ none _ (.inr (by first | omega | (simp; omega))) | refine Ex.alloc ?_ (by first | omega | (simp; omega)) _)))
    (first
      | (refine step_appE rfl (.tmp 10) (.tmp 12) _ 3 (by rfl) Tryz.underlying22 _ 1 8 Tryz.infoInt rfl (by decide) (by decide) iE iE_len one_iE w1.heap.size (some ⟨w1.heap.size, 0, none⟩) 0 0 [] rfl (by rfl) go gn gc (by rfl) g HGN.out.symm (World.ownsRow_lit _ #[] 0 (Nat.le_refl _) (by decide) rfl) (HGS.out _ (by repeat (first | exact Ex.refl _ _ _ | refine Ex.drew ?_ | refine Ex.alloc ?_ (by first | omega | (simp; omega)) _))) (by omega) (by simp) gn (by omega) ?_
         intro ao ac w2 hown hex hb hr
         have HSL : Hid (Sl intRep (fun b => w1.heap.size ≤ b) w2 (.slice ao gn ac) g) := Lib.hid (iE_slE HGN.out.symm hown)
         have HE2 : Hid (Ex w0.heap.size none w0 w2) := Lib.hid ((by repeat (first | exact HE1.out | refine Ex.drew ?_ | refine Ex.alloc ?_ (by first | omega | (simp; omega)) _) : Ex w0.heap.size none w0 _).trans hex (by omega) (by simp))
         have HE2R : Hid (Ex (w.heap.size + 1) none w0 w2) := Lib.hid (HE2.out.mono (by omega))
         have hz2 : w1.heap.size ≤ w2.heap.size := Nat.le_trans (by simp) hex.size
         have HB2 := Lib.hid (HB.out _ HE2.out).2
         obtain ⟨z0, z1, z2, z3, z4, z5⟩ : w2.cell? ⟨w.heap.size + 1, 0, none⟩ = some (.int .i64 0) ∧ w2.cell? ⟨w.heap.size + 1, 1, none⟩ = some (.int .i64 0) ∧ w2.cell? ⟨w.heap.size + 1, 2, none⟩ = some (.int .i64 0) ∧ w2.cell? ⟨w.heap.size + 1, 3, none⟩ = some (.int .i64 0) ∧ w2.cell? ⟨w.heap.size + 1, 4, none⟩ = some (.slice none 0 0) ∧ w2.cell? ⟨w.heap.size + 1, 5, none⟩ = some (.slice none 0 0) := by
           refine ⟨?_, ?_, ?_, ?_, ?_, ?_⟩ <;> (rw [cell_of_row _ _ _ _ _ _ HB2.out]; rfl)
         have f0 := row_frozen_g (i := 0) HB2.out
         have f1 := row_frozen_g (i := 1) HB2.out
         have f2 := row_frozen_g (i := 2) HB2.out
         have f3 := row_frozen_g (i := 3) HB2.out
         have f4 := row_frozen_g (i := 4) HB2.out
         have f5 := row_frozen_g (i := 5) HB2.out
         clear hown hex hb hr)
      | fail)
  obtain ⟨w3, hw3⟩ : ∃ w3 : World, w3 = ((((((w2.setCell ⟨w.heap.size + 1, 0, none⟩ (.int .i64 12)).setCell ⟨w.heap.size + 1, 1, none⟩ (.int .i64 n)).setCell ⟨w.heap.size + 1, 2, none⟩ (.int .i64 0)).setCell ⟨w.heap.size + 1, 3, none⟩ (.int .i64 0)).setCell ⟨w.heap.size + 1, 4, none⟩ (.slice ao gn ac)).setCell ⟨w.heap.size + 1, 5, none⟩ (.slice none 0 0)) := ⟨_, rfl⟩
  have HE3 : Hid (Ex w.heap.size none w w3) := Lib.hid (by
    rw [hw3]
    refine Ex.setCell (Ex.setCell (Ex.setCell (Ex.setCell (Ex.setCell (Ex.setCell (HE0.out.trans HE2.out (by omega) (by simp)) _ none _ (.inr ?_)) _ none _ (.inr ?_)) _ none _ (.inr ?_)) _ none _ (.inr ?_)) _ none _ (.inr ?_)) _ none _ (.inr ?_) <;> omega)
  have HSL3 : Hid (Sl intRep (fun b => w1.heap.size ≤ b) w3 (.slice ao gn ac) g) := Lib.hid (by
    refine HSL.out.keep (by decide) fun b hb _ => ?_
    rw [hw3]
    exact set_far (by omega) (set_far (by omega) (set_far (by omega) (set_far (by omega) (set_far (by omega) (set_far (by omega) rfl))))))
  have hrb : w3.heap[w.heap.size + 1]? = some (.cells #[.int .i64 12, .int .i64 n, .int .i64 0, .int .i64 0, .slice ao gn ac, .slice none 0 0] 34 (0, 0)) := by rw [hw3]; exact set6g HB2.out _ _ _ _ _ _
  rw [← hw3]
  clear hw3 z0 z1 z2 z3 z4 z5 f0 f1 f2 f3 f4 f5 d0 d1 d2
  go_wp2_with (fail)
  have hr := run_loadVar_row (P := Tryz.prog) _ (w.heap.size + 1) 34 34 (#[.int .i64 12, .int .i64 n, .int .i64 0, .int .i64 0, .slice ao gn ac, .slice none 0 0] : Array Value) (0, 0) _ hrb Tryz.underlying34 rfl Tryz.sizeDraft
  refine bodyPost_ret (v := .tuple #[.agg #[.int .i64 12, .int .i64 n, .int .i64 0, .int .i64 0, .slice ao gn ac, .slice none 0 0], .int .i64 0]) ?_ rfl ?_
  · rw [results_cell_tmp Tryz.results66]
    show ((loadVar 34 ⟨w.heap.size + 1, 0, none⟩).run Tryz.prog _).andThen _ = _
    rw [hr]
    rfl
  exact ⟨ao, ac, rfl, HSL3.out.mono (by decide) fun b h _ => by omega, HE3.out⟩
end Go.Proofs.YtaghfcnpnfhacaaGreat
