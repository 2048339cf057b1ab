/- RoutesRaw: the walk. No statement of the seat. -/
import Derived.Test.YtfllcohnfboccaaGreatRoutesWG
import Derived.Test.YtfllcohnfboccaaGreatBack20G
import Derived.Test.YtfllcohnfboccaaGreatMg21
import Derived.Test.YtfllcohnfboccaaGreatMeet20G
namespace Go.Proofs.YtfllcohnfboccaaGreat
open Go.RowKit Go.Sort

set_option maxHeartbeats 16000000 in
set_option maxRecDepth 100000 in
theorem routesRaw_walk (v u : Value) (L l : List Int) (n0 n1 n2 : Int) (w : World) (hv : Ints w v L) (hm0 : L.length ≤ 9223372036854775807) (hu : Ints w u l) (hl0 : l.length ≤ 9223372036854775807) :
    Calls Tryz.prog 7 #[v, u, .agg #[.int .i64 n0, .int .i64 n1, .int .i64 n2]] w fun e w' => e = .returned (.bool true) ∧ Below w.heap.size w w' := by
  obtain ⟨ao, cap, rfl, hx⟩ := hv
  obtain ⟨lo, lcap, rfl, hi⟩ := hu
  have HX := Lib.hid hx
  have HI := Lib.hid hi
  clear hx hi
  obtain ⟨ln, hln⟩ : ∃ ln, l.length = ln := ⟨_, rfl⟩
  have HLL := Lib.hid hln
  rw [hln] at hl0 ⊢
  clear hln
  by_cases hm : L.length ≤ 400
  · have hmd : decide ((L.length : Int) ≤ 400) = true := decide_eq_true (by omega)
    by_cases hs : ln ≤ 120
    · have hsI : decide ((120 : Int) < (ln : Int)) = false := decide_eq_false (by omega)
      have hsN : decide (120 < ln) = false := decide_eq_false (by omega)
      go_enter Tryz.func7, Tryz.ntmps7
      go_upto_region 1 with (fail)
      obtain ⟨w0, hw0⟩ : ∃ w0 : World, w0 = w.alloc (.cells #[.int .i64 n0, .int .i64 n1, .int .i64 n2] 74) := ⟨_, rfl⟩
      have HE0 : Hid (Ex w.heap.size none w w0) := Lib.hid (by rw [hw0]; exact Ex.new _ _)
      have hz0 : w.heap.size + 1 ≤ w0.heap.size := by rw [hw0]; simp
      have HB0 : Hid (w0.heap[w.heap.size]? = some (.cells #[.int .i64 n0, .int .i64 n1, .int .i64 n2] 74 (0, 0))) := Lib.hid (by rw [hw0]; exact heap_alloc_new _ _)
      rw [← hw0]
      clear hw0
      have HX0 : Hid (IntsAt w0 ao L) := Lib.hid (HX.out.keep HE0.out (Nat.le_refl _) (by simp))
      go_upto_region 5 with (first
        | (go_at_call 31; refine (madeLight_any _ _ _ _).mono ?_; rw [hmd]; rintro e w' ⟨rfl, rfl⟩)
        | (go_at_call 33
           refine (madeRoll_any (.slice ao L.length cap) L w0 ⟨ao, cap, rfl, HX0.out⟩ (by omega)).mono ?_
           rintro e w1 ⟨p, rfl, hd, hp1, hp2, hex⟩
           have HD1 : Hid (DiceOK (p + 1) w1 p) := Lib.hid ⟨_, hd⟩
           have HE1 := Lib.hid hex
           have hz1 : w0.heap.size ≤ w1.heap.size := hex.size
           clear hd hex)
        | (go_at_call 34
           refine (graph_w (p + 1) p w1 HD1.out hp2).mono ?_
           rintro e w2 ⟨sn, eo, en, ec, go, gn, gc, es, gone, rfl, ⟨hs2, hs9⟩, ⟨hen, hen22, hec⟩, hG, hsl, hd, hex⟩
           have HN := Lib.hid hen
           have HGR := Lib.hid hG
           have HSL := Lib.hid hsl
           have HD2 := Lib.hid hd
           have HE2 := Lib.hid hex
           have hz2 : w1.heap.size ≤ w2.heap.size := hex.size
           clear hen hG hsl hd hex)
        | fail)
      obtain ⟨w3, hw3⟩ : ∃ w3 : World, w3 = w2.alloc (.cells #[.int .i64 (sn : Int), .slice eo en ec, .slice go gn gc] 64) := ⟨_, rfl⟩
      have HE23 : Hid (Ex w2.heap.size none w2 w3) := Lib.hid (by rw [hw3]; exact Ex.new _ _)
      have hz3 : w2.heap.size + 1 ≤ w3.heap.size := by rw [hw3]; simp
      have HB3 : Hid (w3.heap[w2.heap.size]? = some (.cells #[.int .i64 (sn : Int), .slice eo en ec, .slice go gn gc] 64 (0, 0))) := Lib.hid (by rw [hw3]; exact heap_alloc_new _ _)
      rw [← hw3]
      clear hw3
      have HD3 : Hid (DiceOK (p + 1) w3 p) := Lib.hid (HD2.out.keep HE23.out (by omega))
      have HE3 : Hid (Ex w0.heap.size none w0 w3) := Lib.hid ((HE1.out.trans ((HE2.out.trans HE23.out hz2 (by simp)).mono (show w0.heap.size ≤ w1.heap.size by omega) |>.above (by omega)) (Nat.le_refl _) (by simp)))
      have HC : Hid (∀ w', Ex w3.heap.size (some p) w3 w' → w'.cell? ⟨w2.heap.size, 0, none⟩ = some (.int .i64 (sn : Int)) ∧ w'.cell? ⟨w2.heap.size, 1, none⟩ = some (.slice eo en ec) ∧ w'.cell? ⟨w2.heap.size, 2, none⟩ = some (.slice go gn gc)) := Lib.hid (fun w' h => by
        have k := (h.block w2.heap.size (by omega) (by simp; omega)).trans HB3.out
        refine ⟨?_, ?_, ?_⟩ <;> (rw [cell_of_row _ _ _ _ _ _ k]; rfl))
      have HXW : Hid (∀ w', Ex w3.heap.size (some p) w3 w' → SlAt edRep (fun b => w1.heap.size ≤ b) w' eo es) := Lib.hid (fun w' h => HSL.out.keep (by decide) fun b hb1 hb => (h.block b (by omega) (by simp; omega)).trans (HE23.out.block b hb (by simp)))
      have HGT : Hid (GraphT (⟨#[115]⟩ : ByteArray) es) := Lib.hid (HGR.out.graphT (by decide) hs9)
      have HRF : Hid (Ex w3.heap.size (some p) w3 w3) := Lib.hid (Ex.refl _ _ _)
      clear HE1 HE2 HE23 HD1 HD2 HSL hmd hsI hsN
      obtain ⟨c0, c1, c2⟩ := HC.out _ HRF.out
      clear c0 c1 c2
      have HI3 : Hid (IntsAt w3 lo l) := Lib.hid (HI.out.keep (HE0.out.trans HE3.out (by omega) (by simp)) (Nat.le_refl _) (by simp))
      have HQ : Hid (∀ w', Ex w3.heap.size none w3 w' → (w'.cell? ⟨w2.heap.size, 0, none⟩ = some (.int .i64 (sn : Int)) ∧ w'.cell? ⟨w2.heap.size, 1, none⟩ = some (.slice eo en ec) ∧ w'.cell? ⟨w2.heap.size, 2, none⟩ = some (.slice go gn gc)) ∧ (w'.cell? ⟨w.heap.size, 0, none⟩ = some (.int .i64 n0) ∧ w'.cell? ⟨w.heap.size, 1, none⟩ = some (.int .i64 n1) ∧ w'.cell? ⟨w.heap.size, 2, none⟩ = some (.int .i64 n2)) ∧ SlAt edRep (fun b => w1.heap.size ≤ b) w' eo es ∧ IntsAt w' lo l) := Lib.hid (fun w' h => by
        refine ⟨HC.out _ (h.weaken (some p)), ?_, HXW.out _ (h.weaken (some p)), HI3.out.keep h (Nat.le_refl _) (by simp)⟩
        have k := (h.block w.heap.size (by omega) (by simp)).trans ((HE3.out.block w.heap.size (by omega) (by simp)).trans HB0.out)
        refine ⟨?_, ?_, ?_⟩ <;> (rw [cell_of_row _ _ _ _ _ _ k]; rfl))
      obtain ⟨y, hy⟩ : ∃ y, y = modI n2 6 := ⟨_, rfl⟩
      obtain ⟨z, hz⟩ : ∃ z, z = modI n0 (sn : Int) := ⟨_, rfl⟩
      obtain ⟨b1, hb1⟩ : ∃ b1, b1 = backV (⟨#[115]⟩ : ByteArray) es l := ⟨_, rfl⟩
      obtain ⟨x1, hx1⟩ : ∃ x1, x1 = escV (⟨#[115]⟩ : ByteArray) es l n0 y := ⟨_, rfl⟩
      obtain ⟨x2, hx2⟩ : ∃ x2, x2 = escV (⟨#[115]⟩ : ByteArray) es l z y := ⟨_, rfl⟩
      obtain ⟨x3, hx3⟩ : ∃ x3, x3 = meetV (⟨#[115]⟩ : ByteArray) es n0 n1 2 := ⟨_, rfl⟩
      obtain ⟨R, hR⟩ : ∃ R, R = routeL (⟨#[115]⟩ : ByteArray) es n0 n1 y := ⟨_, rfl⟩
      have HY := Lib.hid hy
      have HZ := Lib.hid hz
      have HB1 := Lib.hid hb1
      have HX1 := Lib.hid hx1
      have HX2 := Lib.hid hx2
      have HX3 := Lib.hid hx3
      have HR := Lib.hid hR
      clear hy hz hb1 hx1 hx2 hx3 hR
      obtain ⟨c0, c1, c2⟩ := (HQ.out _ (Ex.refl _ _ w3)).1
      obtain ⟨d0, d1, d2⟩ := (HQ.out _ (Ex.refl _ _ w3)).2.1
      go_upto_region 6 with (first
        | (go_at_call 49; refine (mod_any n2 6 _ (by omega)).mono ?_; rw [← HY.out]; rintro e w' ⟨rfl, rfl⟩)
        | (go_at_call 49; refine (mod_any n0 (sn : Int) _ (by omega)).mono ?_; rw [← HZ.out]; rintro e w' ⟨rfl, rfl⟩)
        | fail)
      clear c0 c1 c2 d0 d1 d2
      have HS : Hid (∀ w', Ex w3.heap.size none w3 w' → w'.cell? ⟨w2.heap.size, 0, none⟩ = some (.int .i64 (sn : Int)) ∧ w'.cell? ⟨w2.heap.size, 1, none⟩ = some (.slice eo en ec) ∧ w'.cell? ⟨w2.heap.size, 2, none⟩ = some (.slice go gn gc) ∧ w'.cell? ⟨w.heap.size, 0, none⟩ = some (.int .i64 n0) ∧ w'.cell? ⟨w.heap.size, 1, none⟩ = some (.int .i64 n1) ∧ w'.cell? ⟨w.heap.size, 2, none⟩ = some (.int .i64 n2)) := Lib.hid (fun w' h => by
        obtain ⟨⟨z0, z1, z2⟩, ⟨z3, z4, z5⟩, _⟩ := HQ.out w' h
        exact ⟨z0, z1, z2, z3, z4, z5⟩)
      simp only [List.append_eq, List.cons_append, List.nil_append]
      go_region_held3 (fun w' => w'.cell? ⟨w2.heap.size, 0, none⟩ = some (.int .i64 (sn : Int)) ∧ w'.cell? ⟨w2.heap.size, 1, none⟩ = some (.slice eo en ec) ∧ w'.cell? ⟨w2.heap.size, 2, none⟩ = some (.slice go gn gc) ∧ w'.cell? ⟨w.heap.size, 0, none⟩ = some (.int .i64 n0) ∧ w'.cell? ⟨w.heap.size, 1, none⟩ = some (.int .i64 n1) ∧ w'.cell? ⟨w.heap.size, 2, none⟩ = some (.int .i64 n2))
        (first | exact HS.out _ H15.out | exact HS.out _ H14.out | exact HS.out _ H13.out | exact HS.out _ H12.out | exact HS.out _ H11.out | exact HS.out _ H10.out | exact HS.out _ H9.out | exact HS.out _ H8.out | exact HS.out _ H7.out | exact HS.out _ H6.out | exact HS.out _ H5.out | exact HS.out _ H4.out | exact HS.out _ (Ex.refl _ _ w3).drew | exact HS.out _ (Ex.refl _ _ w3) | fail)
        (first
          | (go_at_call 49; refine (mod_any n0 (sn : Int) _ (by omega)).mono ?_; rw [← HZ.out]; rintro e w' ⟨rfl, rfl⟩)
          | (go_at_call 32
             refine (awake20_any _).mono ?_
             rintro e w4 ⟨rfl, hex⟩
             have H4 : Hid (Ex w3.heap.size none w3 w4) := Lib.hid ((Ex.refl _ none w3).drew.trans hex (Nat.le_refl _) (by simp))
             have hzk4 : w3.heap.size ≤ w4.heap.size := H4.out.size
             clear hex)
          | (go_at_call 43
             (fail_if_success (first | have _x := H5 | fail))
             refine (back_any (sn : Int) eo en ec go gn gc es (⟨#[115]⟩ : ByteArray) lo ln lcap l w4 (HQ.out _ H4.out).2.2.1 HN.out HGT.out (HQ.out _ H4.out).2.2.2 HLL.out (by omega)).mono ?_
             rw [← HB1.out]
             rintro e w5 ⟨rfl, hex⟩
             have H5 : Hid (Ex w3.heap.size none w3 w5) := Lib.hid (H4.out.trans hex hzk4 (by simp))
             have hzk5 : w3.heap.size ≤ w5.heap.size := H5.out.size
             clear hex)
          | (go_at_call 44
             (fail_if_success (first | have _x := H6 | fail))
             refine (back20_any (sn : Int) eo en ec go gn gc es (⟨#[115]⟩ : ByteArray) lo ln lcap l w5 (HQ.out _ H5.out).2.2.1 HN.out HGT.out (HQ.out _ H5.out).2.2.2 HLL.out (by omega)).mono ?_
             rw [← HB1.out]
             rintro e w6 ⟨rfl, hex⟩
             have H6 : Hid (Ex w3.heap.size none w3 w6) := Lib.hid (H5.out.trans hex hzk5 (by simp))
             have hzk6 : w3.heap.size ≤ w6.heap.size := H6.out.size
             clear hex)
          | (go_at_call 45
             (fail_if_success (first | have _x := H7 | fail))
             refine (escapes_any (sn : Int) eo en ec go gn gc es (⟨#[115]⟩ : ByteArray) n0 y lo ln lcap l w6 (HQ.out _ H6.out).2.2.1 HN.out HGT.out (HQ.out _ H6.out).2.2.2 HLL.out (by omega)).mono ?_
             rw [← HX1.out]
             rintro e w7 ⟨rfl, hex⟩
             have H7 : Hid (Ex w3.heap.size none w3 w7) := Lib.hid (H6.out.trans hex hzk6 (by simp))
             have hzk7 : w3.heap.size ≤ w7.heap.size := H7.out.size
             clear hex)
          | (go_at_call 46
             (fail_if_success (first | have _x := H8 | fail))
             refine (escapes20_any (sn : Int) eo en ec go gn gc es (⟨#[115]⟩ : ByteArray) n0 y lo ln lcap l w7 (HQ.out _ H7.out).2.2.1 HN.out HGT.out (HQ.out _ H7.out).2.2.2 HLL.out (by omega)).mono ?_
             rw [← HX1.out]
             rintro e w8 ⟨rfl, hex⟩
             have H8 : Hid (Ex w3.heap.size none w3 w8) := Lib.hid (H7.out.trans hex hzk7 (by simp))
             have hzk8 : w3.heap.size ≤ w8.heap.size := H8.out.size
             clear hex)
          | (go_at_call 45
             refine (escapes_any (sn : Int) eo en ec go gn gc es (⟨#[115]⟩ : ByteArray) z y lo ln lcap l w8 (HQ.out _ H8.out).2.2.1 HN.out HGT.out (HQ.out _ H8.out).2.2.2 HLL.out (by omega)).mono ?_
             rw [← HX2.out]
             rintro e w9 ⟨rfl, hex⟩
             have H9 : Hid (Ex w3.heap.size none w3 w9) := Lib.hid (H8.out.trans hex hzk8 (by simp))
             have hzk9 : w3.heap.size ≤ w9.heap.size := H9.out.size
             clear hex)
          | (go_at_call 46
             refine (escapes20_any (sn : Int) eo en ec go gn gc es (⟨#[115]⟩ : ByteArray) z y lo ln lcap l w9 (HQ.out _ H9.out).2.2.1 HN.out HGT.out (HQ.out _ H9.out).2.2.2 HLL.out (by omega)).mono ?_
             rw [← HX2.out]
             rintro e w10 ⟨rfl, hex⟩
             have H10 : Hid (Ex w3.heap.size none w3 w10) := Lib.hid (H9.out.trans hex hzk9 (by simp))
             have hzk10 : w3.heap.size ≤ w10.heap.size := H10.out.size
             clear hex)
          | (go_at_call 42
             refine (routeP_any (sn : Int) eo en ec go gn gc es (⟨#[115]⟩ : ByteArray) n0 n1 y w10 (HQ.out _ H10.out).2.2.1 HN.out HGT.out).mono ?_
             rw [← HR.out]
             rintro e w11 ⟨ro, rc, q, rfl, hq, hri, hex⟩
             have HRL := Lib.hid hq
             have HRI := Lib.hid (slI_ints hri)
             clear hq hri
             have H11 : Hid (Ex w3.heap.size none w3 w11) := Lib.hid (H10.out.trans hex hzk10 (by simp))
             have hzk11 : w3.heap.size ≤ w11.heap.size := H11.out.size
             clear hex)
          | (go_at_call 41
             refine (route20_any (sn : Int) eo en ec go gn gc es (⟨#[115]⟩ : ByteArray) n0 n1 y w11 (HQ.out _ H11.out).2.2.1 HN.out HGT.out).mono ?_
             rw [← HR.out]
             rintro e w12 ⟨so, sc, sq, rfl, hq, hri, hex⟩
             have HSL2 := Lib.hid hq
             have HSI := Lib.hid hri.ints
             have HRI12 := Lib.hid (HRI.out.keep hex (Nat.le_refl _) (by simp))
             clear hq hri
             have H12 : Hid (Ex w3.heap.size none w3 w12) := Lib.hid (H11.out.trans hex hzk11 (by simp))
             have hzk12 : w3.heap.size ≤ w12.heap.size := H12.out.size
             clear hex)
          | (go_at_call 36
             refine (same03Ints_any _ _ R R w12 ⟨ro, rc, by rw [HRL.out], HRI12.out⟩ ⟨so, sc, by rw [HSL2.out], HSI.out⟩ (by rw [HR.out]; have := routeL_len (⟨#[115]⟩ : ByteArray) es n0 n1 y; omega)).mono ?_
             rw [decide_eq_true (rfl : R = R)]
             rintro e w13 ⟨rfl, hex⟩
             have H13 : Hid (Ex w3.heap.size none w3 w13) := Lib.hid (H12.out.trans hex hzk12 (by simp))
             have hzk13 : w3.heap.size ≤ w13.heap.size := H13.out.size
             clear hex)
          | (go_at_call 47
             refine (meet_any (sn : Int) eo en ec go gn gc es (⟨#[115]⟩ : ByteArray) n0 n1 2 w13 (HQ.out _ H13.out).2.2.1 HN.out HGT.out).mono ?_
             rw [← HX3.out]
             rintro e w14 ⟨rfl, hex⟩
             have H14 : Hid (Ex w3.heap.size none w3 w14) := Lib.hid (H13.out.trans hex hzk13 (by simp))
             have hzk14 : w3.heap.size ≤ w14.heap.size := H14.out.size
             clear hex)
          | (go_at_call 48
             refine (meet20_any (sn : Int) eo en ec go gn gc es (⟨#[115]⟩ : ByteArray) n0 n1 2 w14 (HQ.out _ H14.out).2.2.1 HN.out HGT.out).mono ?_
             rw [← HX3.out]
             rintro e w15 ⟨rfl, hex⟩
             have H15 : Hid (Ex w3.heap.size none w3 w15) := Lib.hid (H14.out.trans hex hzk14 (by simp))
             have hzk15 : w3.heap.size ≤ w15.heap.size := H15.out.size
             clear hex)
          | fail)
      go_wp2
      go_ret
      exact ⟨rfl, ((HE0.out.trans HE3.out (by omega) (by simp)).trans H15.out (by omega) (by simp)).below⟩
    · have hsI : decide ((120 : Int) < (ln : Int)) = true := decide_eq_true (by omega)
      have hsN : decide (120 < ln) = true := decide_eq_true (by omega)
      go_enter Tryz.func7, Tryz.ntmps7
      go_upto_region 1 with (fail)
      obtain ⟨w0, hw0⟩ : ∃ w0 : World, w0 = w.alloc (.cells #[.int .i64 n0, .int .i64 n1, .int .i64 n2] 74) := ⟨_, rfl⟩
      have HE0 : Hid (Ex w.heap.size none w w0) := Lib.hid (by rw [hw0]; exact Ex.new _ _)
      have hz0 : w.heap.size + 1 ≤ w0.heap.size := by rw [hw0]; simp
      have HB0 : Hid (w0.heap[w.heap.size]? = some (.cells #[.int .i64 n0, .int .i64 n1, .int .i64 n2] 74 (0, 0))) := Lib.hid (by rw [hw0]; exact heap_alloc_new _ _)
      rw [← hw0]
      clear hw0
      have HX0 : Hid (IntsAt w0 ao L) := Lib.hid (HX.out.keep HE0.out (Nat.le_refl _) (by simp))
      go_wp2_with (first
        | (go_at_call 31; refine (madeLight_any _ _ _ _).mono ?_; rw [hmd]; rintro e w' ⟨rfl, rfl⟩)
        | (go_at_call 32; refine (awake20_any _).mono ?_; rintro e w1 ⟨rfl, hex⟩)
        | fail)
      go_ret
      exact ⟨rfl, (HE0.out.trans hex (by omega) (by simp)).below⟩
  · have hmd : decide ((L.length : Int) ≤ 400) = false := decide_eq_false (by omega)
    go_enter Tryz.func7, Tryz.ntmps7
    go_upto_region 1 with (fail)
    obtain ⟨w0, hw0⟩ : ∃ w0 : World, w0 = w.alloc (.cells #[.int .i64 n0, .int .i64 n1, .int .i64 n2] 74) := ⟨_, rfl⟩
    have HE0 : Hid (Ex w.heap.size none w w0) := Lib.hid (by rw [hw0]; exact Ex.new _ _)
    have hz0 : w.heap.size + 1 ≤ w0.heap.size := by rw [hw0]; simp
    have HB0 : Hid (w0.heap[w.heap.size]? = some (.cells #[.int .i64 n0, .int .i64 n1, .int .i64 n2] 74 (0, 0))) := Lib.hid (by rw [hw0]; exact heap_alloc_new _ _)
    rw [← hw0]
    clear hw0
    have HX0 : Hid (IntsAt w0 ao L) := Lib.hid (HX.out.keep HE0.out (Nat.le_refl _) (by simp))
    go_wp2_with (first
      | (go_at_call 31; refine (madeLight_any _ _ _ _).mono ?_; rw [hmd]; rintro e w' ⟨rfl, rfl⟩)
      | (go_at_call 32; refine (awake20_any _).mono ?_; rintro e w1 ⟨rfl, hex⟩)
      | fail)
    go_ret
    exact ⟨rfl, (HE0.out.trans hex (by omega) (by simp)).below⟩
end Go.Proofs.YtfllcohnfboccaaGreat
