/- RoutesMade: the walk. No statement of the seat. -/
import Derived.Test.YtfllcohnfboccaaGreatRoutesWG
import Derived.Test.YtfllcohnfboccaaGreatBack20G
import Derived.Test.YtfllcohnfboccaaGreatMg21
import Derived.Test.YtfllcohnfboccaaGreatMeet20G
import Derived.Deep.CutRange
namespace Go.Proofs.YtfllcohnfboccaaGreat
open Go.RowKit Go.Sort

theorem set_ints {w : World} {g : Nat} {d : List Int} (h : HoldsK iE 1 w g 0 d.toArray) {j : Nat} (hj : j < d.length) {x : Int} : IntsAt (w.setCell ⟨g, j, none⟩ (.int .i64 x)) (some ⟨g, 0, none⟩) (d.set j x) := by
  have hs := rint_set h j (by simpa using hj) x
  rw [List.setIfInBounds_toArray] at hs
  intro i hi
  refine ⟨g, 0, rfl, fun k hk => ?_⟩
  have := (rint_cell hs k (by simpa using hk)).1
  rw [Nat.zero_add]
  simpa using this
set_option maxHeartbeats 16000000 in
set_option maxRecDepth 100000 in
theorem routesMade_walk (v : Value) (L : List Int) (salt : ByteArray) (n0 : Int) (w : World) (hv : Ints w v L) (hm0 : L.length ≤ 9223372036854775807) (_hs0 : salt.size ≤ maxLen) :
    Calls Tryz.prog 6 #[v, .string salt, .int .i64 n0] w fun e w' => e = .returned (.bool true) ∧ Below w.heap.size w w' := by
  obtain ⟨ao, cap, rfl, hx⟩ := hv
  have HX := Lib.hid hx
  clear hx
  by_cases hm : L.length ≤ 400
  · have hmd : decide ((L.length : Int) ≤ 400) = true := decide_eq_true (by omega)
    by_cases hs : salt.size ≤ 60
    · have hsI : decide ((60 : Int) < (salt.size : Int)) = false := decide_eq_false (by omega)
      have hsN : decide (60 < salt.size) = false := decide_eq_false (by omega)
      go_enter Tryz.func6, Tryz.ntmps6
      go_upto_region 5 with (first
        | (go_at_call 31; refine (madeLight_any _ _ _ _).mono ?_; rw [hmd]; rintro e w' ⟨rfl, rfl⟩)
        | (go_at_call 33
           refine (madeRoll_any (.slice ao L.length cap) L w ⟨ao, cap, rfl, HX.out⟩ (by omega)).mono ?_
           rintro e w1 ⟨p, rfl, hd, hp1, hp2, hex⟩
           have HD1 : Hid (DiceOK (p + 1) w1 p) := Lib.hid ⟨_, hd⟩
           have HE1 := Lib.hid hex
           have hz1 : w.heap.size ≤ w1.heap.size := hex.size
           clear hd hex)
        | (go_at_call 34
           refine (graph_w (p + 1) p w1 HD1.out hp2).mono ?_
           rintro e w2 ⟨sn, eo, en, ec, go, gn, gc, es, gone, rfl, ⟨hs2, hs9⟩, ⟨hen, hen22, hec⟩, hG, hsl, hd, hex⟩
           have HN := Lib.hid hen
           have HGR := Lib.hid hG
           have HSL := Lib.hid hsl
           have HD2 := Lib.hid hd
           have HE2 := Lib.hid hex
           have hz2 : w1.heap.size ≤ w2.heap.size := hex.size
           clear hen hG hsl hd hex)
        | fail)
      obtain ⟨w3, hw3⟩ : ∃ w3 : World, w3 = w2.alloc (.cells #[.int .i64 (sn : Int), .slice eo en ec, .slice go gn gc] 64) := ⟨_, rfl⟩
      have HE23 : Hid (Ex w2.heap.size none w2 w3) := Lib.hid (by rw [hw3]; exact Ex.new _ _)
      have hz3 : w2.heap.size + 1 ≤ w3.heap.size := by rw [hw3]; simp
      have HB3 : Hid (w3.heap[w2.heap.size]? = some (.cells #[.int .i64 (sn : Int), .slice eo en ec, .slice go gn gc] 64 (0, 0))) := Lib.hid (by rw [hw3]; exact heap_alloc_new _ _)
      rw [← hw3]
      clear hw3
      have HD3 : Hid (DiceOK (p + 1) w3 p) := Lib.hid (HD2.out.keep HE23.out (by omega))
      have HE3 : Hid (Ex w.heap.size none w w3) := Lib.hid ((HE1.out.trans ((HE2.out.trans HE23.out hz2 (by simp)).mono (show w.heap.size ≤ w1.heap.size by omega) |>.above (by omega)) (Nat.le_refl _) (by simp)))
      have HC : Hid (∀ w', Ex w3.heap.size (some p) w3 w' → w'.cell? ⟨w2.heap.size, 0, none⟩ = some (.int .i64 (sn : Int)) ∧ w'.cell? ⟨w2.heap.size, 1, none⟩ = some (.slice eo en ec) ∧ w'.cell? ⟨w2.heap.size, 2, none⟩ = some (.slice go gn gc)) := Lib.hid (fun w' h => by
        have k := (h.block w2.heap.size (by omega) (by simp; omega)).trans HB3.out
        refine ⟨?_, ?_, ?_⟩ <;> (rw [cell_of_row _ _ _ _ _ _ k]; rfl))
      have HXW : Hid (∀ w', Ex w3.heap.size (some p) w3 w' → SlAt edRep (fun b => w1.heap.size ≤ b) w' eo es) := Lib.hid (fun w' h => HSL.out.keep (by decide) fun b hb1 hb => (h.block b (by omega) (by simp; omega)).trans (HE23.out.block b hb (by simp)))
      have HGT : Hid (GraphT salt es) := Lib.hid (HGR.out.graphT (by omega) hs9)
      have HRF : Hid (Ex w3.heap.size (some p) w3 w3) := Lib.hid (Ex.refl _ _ _)
      clear HE1 HE2 HE23 HD1 HD2 HSL HX hmd hsI hsN
      obtain ⟨c0, c1, c2⟩ := HC.out _ HRF.out
      have HW3 : Hid (Ex w3.heap.size (some p) w3 w3) := HRF
      have HEw3 := HRF
      have hzw3 : w3.heap.size ≤ w3.heap.size := Nat.le_refl _
      go_upto_region 6 with (first
        | (go_at_call 35
           refine (some_w (p + 1) p sn w3 HD3.out (by omega) (by omega)).mono ?_
           rintro e w4 ⟨bo, bc, bn, bad, rfl, ⟨hbl, hbn⟩, hbi, hd, hex⟩
           have HBL := Lib.hid hbl
           have HBI := Lib.hid hbi.ints
           have HBO := Lib.hid hbi
           have HD4 := Lib.hid hd
           have HEw4 : Hid (Ex w3.heap.size (some p) w3 w4) := Lib.hid hex
           have hzw4 : w3.heap.size ≤ w4.heap.size := HEw4.out.size
           clear hbl hbi hd hex c0 c1 c2)
        | fail)
      go_upto_region 8 with (first
        | (go_at_call 24
           refine (of_w (p + 1) p _ [1, 2, 3, 5, n0, 0, 101] _ (HD4.out.keep (Ex.new w4 _) (by omega)) (IntsO.lit [1, 2, 3, 5, n0, 0, 101] rfl rfl (by omega)) (by simp) (by simp)).mono ?_
           rintro e w5 ⟨y, rfl, _, hd, hex⟩
           have HD5 := Lib.hid hd
           have HE45 : Hid (Ex w4.heap.size (some p) w4 w5) := Lib.hid (((Ex.new w4 _).weaken (some p)).trans hex (by simp) (fun q e _ => by cases e; rfl))
           have HEw5 : Hid (Ex w3.heap.size (some p) w3 w5) := Lib.hid (HEw4.out.trans HE45.out hzw4 (fun q e _ => by cases e; rfl))
           have hzw5 : w3.heap.size ≤ w5.heap.size := HEw5.out.size
           have HBI5 : Hid (IntsAt w5 bo bad) := Lib.hid (HBO.out.keep HE45.out (Nat.le_refl _) (fun q e => by cases e; omega)).ints
           clear hd hex)
        | fail)
      go_loopw [11] (fun kk wr => ∃ kz : Int, kk = .int .i64 kz ∧ -1 ≤ kz ∧ kz ≤ (sn : Int) + 1 ∧ Hid (Ex w5.heap.size none w5 wr)) (fun kk _ => ((sn : Int) + 1 - intOf kk).toNat)
      case atStart => exact ⟨-1, rfl, by omega, by omega, Lib.hid (Ex.refl _ _ _)⟩
      case round =>
        obtain ⟨kz, rfl, hk1, hk2, HEX⟩ := hrel
        have HEwr : Hid (Ex w3.heap.size (some p) w3 wr) := Lib.hid (HEw5.out.trans HEX.out hzw5 (by simp))
        have hzwr : w3.heap.size ≤ wr.heap.size := HEwr.out.size
        have hz5r : w5.heap.size ≤ wr.heap.size := HEX.out.size
        by_cases hlt : kz ≤ (sn : Int)
        · have hltd : decide (kz ≤ (sn : Int)) = true := decide_eq_true hlt
          have hwk : IntKind.i64.wrap (kz + 1) = kz + 1 := IntWalk.i64_in _ (by omega)
          obtain ⟨c0, c1, c2⟩ := HC.out _ HEwr.out
          go_upto_region 10 with (fail)
          clear c0 c1 c2
          go_region_held3 (fun w' => w'.cell? ⟨w2.heap.size, 0, none⟩ = some (.int .i64 (sn : Int)) ∧ w'.cell? ⟨w2.heap.size, 1, none⟩ = some (.slice eo en ec) ∧ w'.cell? ⟨w2.heap.size, 2, none⟩ = some (.slice go gn gc))
            (first | exact HC.out _ HEw11.out | exact HC.out _ HEw10.out | exact HC.out _ HEw9.out | exact HC.out _ HEw8.out | exact HC.out _ HEw7.out | exact HC.out _ HEw6.out | exact HC.out _ HEwr.out.drew | exact HC.out _ HEwr.out | fail)
            (first
              | (go_at_call 37
                 refine (neigh_any (sn : Int) eo en ec go gn gc es kz _ (HXW.out _ HEwr.out.drew) HN.out (by omega)).mono ?_
                 rintro e w6 ⟨no, nc, nn, rfl, hnn, hni, hex⟩
                 have HNN := Lib.hid hnn
                 have HNI := Lib.hid hni
                 have HEw6 : Hid (Ex w3.heap.size (some p) w3 w6) := Lib.hid (HEwr.out.drew.trans hex hzwr (by simp))
                 have HX6 : Hid (Ex wr.heap.size none wr w6) := Lib.hid ((Ex.refl _ none wr).drew.trans hex (Nat.le_refl _) (by simp))
                 have hzw6 : w3.heap.size ≤ w6.heap.size := HEw6.out.size
                 have hzr6 : wr.heap.size ≤ w6.heap.size := HX6.out.size
                 clear hnn hni hex)
              | (go_at_call 38
                 refine (nb20_any (sn : Int) eo en ec go gn gc es kz w6 (HXW.out _ HEw6.out) HN.out (by omega)).mono ?_
                 rintro e w7 ⟨mo, mc, mn, rfl, hmn, hmi, hex⟩
                 have HMN := Lib.hid hmn
                 have HMI := Lib.hid hmi.ints
                 have HNI7 := Lib.hid (HNI.out.keep hex (Nat.le_refl _) (by simp))
                 have HEw7 : Hid (Ex w3.heap.size (some p) w3 w7) := Lib.hid (HEw6.out.trans hex hzw6 (by simp))
                 have HX7 : Hid (Ex wr.heap.size none wr w7) := Lib.hid (HX6.out.trans hex hzr6 (by simp))
                 have hzw7 : w3.heap.size ≤ w7.heap.size := HEw7.out.size
                 have hzr7 : wr.heap.size ≤ w7.heap.size := HX7.out.size
                 clear hmn hmi hex)
              | (go_at_call 36
                 (fail_if_success (first | have _x := HEw8 | fail))
                 refine (same03Ints_any _ _ (nbI es kz) (nbI es kz) w7 ⟨no, nc, by rw [HNN.out], HNI7.out⟩ ⟨mo, mc, by rw [HMN.out], HMI.out⟩ (by have := HGT.out.few kz; omega)).mono ?_
                 rw [decide_eq_true (rfl : nbI es kz = nbI es kz)]
                 rintro e w8 ⟨rfl, hex⟩
                 have HEw8 : Hid (Ex w3.heap.size (some p) w3 w8) := Lib.hid (HEw7.out.trans hex hzw7 (by simp))
                 have HX8 : Hid (Ex wr.heap.size none wr w8) := Lib.hid (HX7.out.trans hex hzr7 (by simp))
                 have hzw8 : w3.heap.size ≤ w8.heap.size := HEw8.out.size
                 have hzr8 : wr.heap.size ≤ w8.heap.size := HX8.out.size
                 clear hex)
              | (go_at_call 39
                 refine (table_any (sn : Int) eo en ec go gn gc es salt kz w8 (HXW.out _ HEw8.out) HN.out (by omega) HGT.out.salt (HGT.out.few kz)).mono ?_
                 rintro e w9 ⟨tto, tc, tn, rfl, htn, hti, hex⟩
                 have HTN := Lib.hid htn
                 have HTI := Lib.hid hti.ints
                 have HEw9 : Hid (Ex w3.heap.size (some p) w3 w9) := Lib.hid (HEw8.out.trans hex hzw8 (by simp))
                 have HX9 : Hid (Ex wr.heap.size none wr w9) := Lib.hid (HX8.out.trans hex hzr8 (by simp))
                 have hzw9 : w3.heap.size ≤ w9.heap.size := HEw9.out.size
                 have hzr9 : wr.heap.size ≤ w9.heap.size := HX9.out.size
                 clear htn hti hex)
              | (go_at_call 40
                 refine (table20_any (sn : Int) eo en ec go gn gc es salt kz w9 (HXW.out _ HEw9.out) HN.out HGT.out).mono ?_
                 rintro e w10 ⟨uo, uc, un, rfl, hun, hui, hex⟩
                 have HUN := Lib.hid hun
                 have HUI := Lib.hid hui.ints
                 have HTI10 := Lib.hid (HTI.out.keep hex (Nat.le_refl _) (by simp))
                 have HEw10 : Hid (Ex w3.heap.size (some p) w3 w10) := Lib.hid (HEw9.out.trans hex hzw9 (by simp))
                 have HX10 : Hid (Ex wr.heap.size none wr w10) := Lib.hid (HX9.out.trans hex hzr9 (by simp))
                 have hzw10 : w3.heap.size ≤ w10.heap.size := HEw10.out.size
                 have hzr10 : wr.heap.size ≤ w10.heap.size := HX10.out.size
                 clear hun hui hex)
              | (go_at_call 36
                 refine (same03Ints_any _ _ (tabI salt es kz) (tabI salt es kz) w10 ⟨tto, tc, by rw [HTN.out], HTI10.out⟩ ⟨uo, uc, by rw [HUN.out], HUI.out⟩ (by rw [tabI_len]; have := HGT.out.few kz; omega)).mono ?_
                 rw [decide_eq_true (rfl : tabI salt es kz = tabI salt es kz)]
                 rintro e w11 ⟨rfl, hex⟩
                 have HEw11 : Hid (Ex w3.heap.size (some p) w3 w11) := Lib.hid (HEw10.out.trans hex hzw10 (by simp))
                 have HX11 : Hid (Ex wr.heap.size none wr w11) := Lib.hid (HX10.out.trans hex hzr10 (by simp))
                 clear hex)
              | fail)
          go_wp2
          go_roundw
          case rel => exact ⟨kz + 1, rfl, by omega, by omega, Lib.hid (HEX.out.trans HX11.out hz5r (by simp))⟩
          case measure => simp [intOf] <;> omega
        · have hltd : decide (kz ≤ (sn : Int)) = false := decide_eq_false hlt
          have HDr : Hid (DiceOK (p + 1) wr p) := Lib.hid (HD5.out.keep HEX.out (by have := HE45.out.size; omega))
          have HBIr : Hid (IntsAt wr bo bad) := Lib.hid (HBI5.out.keep HEX.out (Nat.le_refl _) (by simp))
          obtain ⟨c0, c1, c2⟩ := HC.out _ HEwr.out
          go_upto_region 12 with (fail)
          clear c0 c1 c2
          have hws : IntKind.i64.wrap ((sn : Int) + 1) = (sn : Int) + 1 := IntWalk.i64_in _ (by omega)
          go_region_held3 (fun w' => w'.cell? ⟨w2.heap.size, 0, none⟩ = some (.int .i64 (sn : Int)) ∧ w'.cell? ⟨w2.heap.size, 1, none⟩ = some (.slice eo en ec) ∧ w'.cell? ⟨w2.heap.size, 2, none⟩ = some (.slice go gn gc))
            (first | exact HC.out _ HEw8.out | exact HC.out _ HEw7.out | exact HC.out _ HEw6.out | exact HC.out _ HEwr.out.drew | exact HC.out _ HEwr.out | fail)
            (first
              | (go_at_call 20
                 (fail_if_success (first | have _x := HEw6 | fail))
                 refine (next_w (p + 1) p ((sn : Int) + 1) _ (HDr.out.keep (B := p + 1) ((Ex.refl _ none wr).drew) (Nat.le_refl _)) (by omega) (by omega)).mono ?_
                 rintro e w6 ⟨k6, rfl, hk6, hd, hex⟩
                 have HD6 := Lib.hid hd
                 have HEw6 : Hid (Ex w3.heap.size (some p) w3 w6) := Lib.hid (HEwr.out.drew.trans hex hzwr (fun q e _ => by cases e; rfl))
                 have HX6 : Hid (Ex wr.heap.size (some p) wr w6) := Lib.hid ((Ex.refl _ (some p) wr).drew.trans hex (Nat.le_refl _) (fun q e _ => by cases e; rfl))
                 have hzw6 : w3.heap.size ≤ w6.heap.size := HEw6.out.size
                 have hzr6 : wr.heap.size ≤ w6.heap.size := HX6.out.size
                 clear hd hex)
              | (go_at_call 20
                 (fail_if_success (first | have _x := HEw7 | fail))
                 refine (next_w (p + 1) p 2 w6 HD6.out (by omega) (by omega)).mono ?_
                 rintro e w7 ⟨k7, rfl, hk7, hd, hex⟩
                 have HD7 := Lib.hid hd
                 have HEw7 : Hid (Ex w3.heap.size (some p) w3 w7) := Lib.hid (HEw6.out.trans hex hzw6 (fun q e _ => by cases e; rfl))
                 have HX7 : Hid (Ex wr.heap.size (some p) wr w7) := Lib.hid (HX6.out.trans hex hzr6 (fun q e _ => by cases e; rfl))
                 have hzw7 : w3.heap.size ≤ w7.heap.size := HEw7.out.size
                 have hzr7 : wr.heap.size ≤ w7.heap.size := HX7.out.size
                 have hwa : IntKind.i64.wrap ((k6 : Int) - (k7 : Int)) = (k6 : Int) - (k7 : Int) := IntWalk.i64_in _ (by omega)
                 clear hd hex)
              | (go_at_call 20
                 refine (next_w (p + 1) p (sn : Int) w7 HD7.out (by omega) (by omega)).mono ?_
                 rintro e w8 ⟨k8, rfl, hk8, hd, hex⟩
                 have HD8 := Lib.hid hd
                 have HEw8 : Hid (Ex w3.heap.size (some p) w3 w8) := Lib.hid (HEw7.out.trans hex hzw7 (fun q e _ => by cases e; rfl))
                 have HX8 : Hid (Ex wr.heap.size (some p) wr w8) := Lib.hid (HX7.out.trans hex hzr7 (fun q e _ => by cases e; rfl))
                 have hzw8 : w3.heap.size ≤ w8.heap.size := HEw8.out.size
                 have hzr8 : wr.heap.size ≤ w8.heap.size := HX8.out.size
                 clear hd hex)
              | fail)
          have HBI8 : Hid (IntsAt w8 bo bad) := Lib.hid (HBO.out.keep ((HE45.out.trans HEX.out (by have := HE45.out.size; omega) (by simp)).trans HX8.out (by have := HE45.out.size; omega) (fun q e _ => by cases e; rfl)) (Nat.le_refl _) (fun q e => by cases e; omega)).ints
          obtain ⟨a, ha⟩ : ∃ a : Int, a = (k6 : Int) - (k7 : Int) := ⟨_, rfl⟩
          rw [← ha]
          clear ha hws hk6 hk7
          by_cases h8 : 8 < y
          · have d8 : decide (8 < y) = true := decide_eq_true h8
            by_cases h100 : y ≤ 100
            · have d100 : decide (y ≤ 100) = true := decide_eq_true h100
              have HRX : Hid (∃ R, R = routeL salt es a (k8 : Int) 8) := Lib.hid ⟨_, rfl⟩
              obtain ⟨R, hR⟩ := HRX.out
              have HR := Lib.hid hR
              clear hR HRX
              obtain ⟨c0, c1, c2⟩ := HC.out _ HEw8.out
              go_upto_region 16 with (first
                | (go_at_call 41
                   refine (route20_any (sn : Int) eo en ec go gn gc es salt a (k8 : Int) 8 w8 (HXW.out _ HEw8.out) HN.out HGT.out).mono ?_
                   rw [← HR.out]
                   rintro e w9 ⟨ro, rc, q, rfl, hq, hri, hex⟩
                   have HRL := Lib.hid hq
                   have hq101 : q ≤ 101 := (by rw [← hq, HR.out]; exact routeL_len _ _ _ _ _)
                   have HRI := Lib.hid hri.ints
                   have HRA : Hid (R ≠ [] → Away p ro) := Lib.hid (fun _ => hri.away (by omega))
                   have HEw9 : Hid (Ex w3.heap.size (some p) w3 w9) := Lib.hid (HEw8.out.trans hex hzw8 (by simp))
                   have hzw9 : w3.heap.size ≤ w9.heap.size := HEw9.out.size
                   have HBI9 := Lib.hid (HBI8.out.keep hex (Nat.le_refl _) (by simp))
                   have HD9 := Lib.hid (HD8.out.keep hex (by omega))
                   clear hq hri hex)
                | fail)
              clear c0 c1 c2 h8 d8
              go_upto_region 17 with (first
                | (at_builtin; refine wpList_appIs rfl (.const (.slice none 0 0)) (.tmp 87) _ (by rfl) Tryz.underlying22 infoI3 w9.heap.size none 0 [] R (.slice none 0 0) _ 0 rfl rfl (by rfl) (by rfl) ⟨ro, rc, by rw [HRL.out]; rfl, HRI.out⟩ (OwnI.nil _ _) (Ex.refl _ _ w9) (by rw [HRL.out]; simp; omega) (Nat.le_refl _) ?_; intro oo oc w10 hown hex; have HOW : Hid (OwnI w10 w9.heap.size oo oc R) := Lib.hid (by simpa using hown); have HEw10 : Hid (Ex w3.heap.size (some p) w3 w10) := Lib.hid (HEw9.out.trans hex hzw9 (by simp)); have HX910 : Hid (Ex w9.heap.size none w9 w10) := Lib.hid hex; rw [List.length_nil, Nat.zero_add, HRL.out]; clear hown hex)
                | fail)
              have hz910 : w9.heap.size ≤ w10.heap.size := HX910.out.size
              have hzw10 : w3.heap.size ≤ w10.heap.size := HEw10.out.size
              have HRI10 : Hid (IntsAt w10 ro R) := Lib.hid (HRI.out.keep HX910.out (Nat.le_refl _) (by simp))
              have HBI10 : Hid (IntsAt w10 bo bad) := Lib.hid (HBI9.out.keep HX910.out (Nat.le_refl _) (by simp))
              have HD10 : Hid (DiceOK (p + 1) w10 p) := Lib.hid (HD9.out.keep HX910.out (by omega))
              have HBLT : Hid (bad ≠ [] → Away p bo) := Lib.hid (fun _ => HBO.out.away (by omega))
              go_upto_if 91 with (fail)
              go_cut [15] from 89 to 101 (fun v wx => ∃ o : List Int, v = .slice oo q oc ∧ Hid (o.length = q) ∧ Hid (IntsAt wx oo o) ∧ Hid (Ex w9.heap.size (some p) w9 wx))
              case first =>
                by_cases h0 : 0 < q
                · have h0I : (0 : Int) < (q : Int) := by omega
                  have h0d : decide (0 < q) = true := decide_eq_true h0
                  rename_i J K' hJ hK
                  have HJ := Lib.hid hJ
                  have HK := Lib.hid hK
                  clear hJ hK
                  obtain ⟨g, rfl, hbg, hgl, _⟩ := own_at HOW.out (by rw [HRL.out]; exact h0)
                  have HH10 : Hid (HoldsK iE 1 w10 g 0 R.toArray) := Lib.hid (HOW.out.e.holds iE_len)
                  go_upto_region 18 with (fail)
                  go_region_held3 (fun w' => w'.cell? ⟨w2.heap.size, 0, none⟩ = some (.int .i64 (sn : Int)) ∧ w'.cell? ⟨w2.heap.size, 1, none⟩ = some (.slice eo en ec) ∧ w'.cell? ⟨w2.heap.size, 2, none⟩ = some (.slice go gn gc))
                    (first | exact HC.out _ (Ex.setCell HEw12.out _ none _ (.inr (by omega))) | exact HC.out _ HEw12.out | exact HC.out _ HEw11.out | exact HC.out _ HEw10.out.drew | exact HC.out _ HEw10.out | fail)
                    (first
                      | (go_at_call 20
                         (fail_if_success (first | have _x := HEw11 | fail))
                         refine (next_w (p + 1) p (q : Int) _ (HD10.out.keep (B := p + 1) ((Ex.refl _ none w10).drew) (Nat.le_refl _)) (by omega) (by omega)).mono ?_
                         rintro e w11 ⟨j, rfl, hj, hd, hex⟩
                         have HD11 := Lib.hid hd
                         have HEw11 : Hid (Ex w3.heap.size (some p) w3 w11) := Lib.hid (HEw10.out.drew.trans hex hzw10 (fun q e _ => by cases e; rfl))
                         have HX11 : Hid (Ex w9.heap.size (some p) w9 w11) := Lib.hid (((HX910.out.weaken (some p)).drew).trans hex hz910 (fun q e _ => by cases e; rfl))
                         have hzw11 : w3.heap.size ≤ w11.heap.size := HEw11.out.size
                         have hz911 : w9.heap.size ≤ w11.heap.size := HX11.out.size
                         have hjq : j < q := (by omega)
                         have hjqI : (j : Int) < (q : Int) := (by omega)
                         have HH11 : Hid (HoldsK iE 1 w11 g 0 R.toArray) := Lib.hid (holdsK_keep (by decide) HH10.out hgl (hex.block g hgl (by simp; omega)))
                         have hgl11 : g < w11.heap.size := Nat.lt_of_lt_of_le hgl hex.size
                         clear hd hex)
                      | (go_at_call 20
                         refine (next_w (p + 1) p (sn : Int) w11 HD11.out (by omega) (by omega)).mono ?_
                         rintro e w12 ⟨kv, rfl, hkv, hd, hex⟩
                         have HEw12 : Hid (Ex w3.heap.size (some p) w3 w12) := Lib.hid (HEw11.out.trans hex hzw11 (fun q e _ => by cases e; rfl))
                         have HX12 : Hid (Ex w9.heap.size (some p) w9 w12) := Lib.hid (HX11.out.trans hex hz911 (fun q e _ => by cases e; rfl))
                         have HH12 : Hid (HoldsK iE 1 w12 g 0 R.toArray) := Lib.hid (holdsK_keep (by decide) HH11.out hgl11 (hex.block g hgl11 (by simp; omega)))
                         have qj := (rint_cell HH12.out j (by rw [List.size_toArray, HRL.out]; exact hjq)).1
                         have fj := (rint_cell HH12.out j (by rw [List.size_toArray, HRL.out]; exact hjq)).2
                         clear hd hex)
                      | fail)
                  refine HK.out _ _ (Met.intro (HJ.out _ _ ?_))
                  (repeat apply Exists.intro)
                  exact ⟨⟨R.set j (kv : Int), rfl, Lib.hid (by rw [List.length_set]; exact HRL.out), Lib.hid (set_ints HH12.out (by rw [HRL.out]; exact hjq)), Lib.hid (Ex.setCell HX12.out _ none _ (.inr hbg))⟩, rfl⟩
                · have h0I : ¬ (0 : Int) < (q : Int) := by omega
                  have h0d : decide (0 < q) = false := decide_eq_false h0
                  go_wp2
                  go_meet
                  exact ⟨R, rfl, HRL, Lib.hid HOW.out.ints, Lib.hid (HX910.out.weaken (some p))⟩
              case rest =>
                clear HOW HRI10 HBI10 HD10
                obtain ⟨o, rfl, HOL, HOI, HX9c⟩ := hcut
                have hz9c : w9.heap.size ≤ wc.heap.size := HX9c.out.size
                have HEwc : Hid (Ex w3.heap.size (some p) w3 wc) := Lib.hid (HEw9.out.trans HX9c.out hzw9 (fun q e _ => by cases e; rfl))
                have hzwc : w3.heap.size ≤ wc.heap.size := HEwc.out.size
                have HRIc : Hid (IntsAt wc ro R) := Lib.hid (HRI.out.keep HX9c.out (Nat.le_refl _) (fun q e hne => by cases e; exact HRA.out hne))
                have HBIc : Hid (IntsAt wc bo bad) := Lib.hid (HBI9.out.keep HX9c.out (Nat.le_refl _) (fun q e hne => by cases e; exact HBLT.out hne))
                have HCC : Hid (∀ w', Ex wc.heap.size none wc w' → (w'.cell? ⟨w2.heap.size, 0, none⟩ = some (.int .i64 (sn : Int)) ∧ w'.cell? ⟨w2.heap.size, 1, none⟩ = some (.slice eo en ec) ∧ w'.cell? ⟨w2.heap.size, 2, none⟩ = some (.slice go gn gc)) ∧ SlAt edRep (fun b => w1.heap.size ≤ b) w' eo es ∧ IntsAt w' ro R ∧ IntsAt w' oo o ∧ IntsAt w' bo bad) := Lib.hid (fun w' h => ⟨HC.out _ (HEwc.out.trans h hzwc (by simp)), HXW.out _ (HEwc.out.trans h hzwc (by simp)), HRIc.out.keep h (Nat.le_refl _) (by simp), HOI.out.keep h (Nat.le_refl _) (by simp), HBIc.out.keep h (Nat.le_refl _) (by simp)⟩)
                have HRLs : Hid (routeL salt es a (k8 : Int) 8 = R) := Lib.hid HR.out.symm
                obtain ⟨b1, hb1⟩ : ∃ b1, b1 = backV salt es R := ⟨_, rfl⟩
                obtain ⟨b2, hb2⟩ : ∃ b2, b2 = backV salt es o := ⟨_, rfl⟩
                obtain ⟨x1, hx1⟩ : ∃ x1, x1 = escV salt es bad a 8 := ⟨_, rfl⟩
                obtain ⟨x2, hx2⟩ : ∃ x2, x2 = meetV salt es a (k8 : Int) 8 := ⟨_, rfl⟩
                have HB1 := Lib.hid hb1
                have HB2 := Lib.hid hb2
                have HX1 := Lib.hid hx1
                have HX2 := Lib.hid hx2
                clear hb1 hb2 hx1 hx2
                go_upto_region 19 with (fail)
                go_region_held3 (fun w' => w'.cell? ⟨w2.heap.size, 0, none⟩ = some (.int .i64 (sn : Int)) ∧ w'.cell? ⟨w2.heap.size, 1, none⟩ = some (.slice eo en ec) ∧ w'.cell? ⟨w2.heap.size, 2, none⟩ = some (.slice go gn gc))
                  (first | exact (HCC.out _ H21.out).1 | exact (HCC.out _ H20.out).1 | exact (HCC.out _ H19.out).1 | exact (HCC.out _ H18.out).1 | exact (HCC.out _ H17.out).1 | exact (HCC.out _ H16.out).1 | exact (HCC.out _ H15.out).1 | exact (HCC.out _ H14.out).1 | exact (HCC.out _ H13.out).1 | exact (HCC.out _ H12.out).1 | exact (HCC.out _ H11.out).1 | exact (HCC.out _ (Ex.refl _ _ wc).drew).1 | exact (HCC.out _ (Ex.refl _ _ wc)).1 | fail)
                  (first
                    | (go_at_call 32
                       refine (awake20_any _).mono ?_
                       rintro e w11 ⟨rfl, hex⟩
                       have H11 : Hid (Ex wc.heap.size none wc w11) := Lib.hid (((Ex.refl _ none wc).drew).trans hex (Nat.le_refl _) (by simp))
                       have hz11 : wc.heap.size ≤ w11.heap.size := H11.out.size
                       clear hex)
                    | (go_at_call 42
                       refine (routeP_any (sn : Int) eo en ec go gn gc es salt a (k8 : Int) 8 w11 (HCC.out _ H11.out).2.1 HN.out HGT.out).mono ?_
                       rw [HRLs.out]
                       rintro e w12 ⟨ro2, rc2, q2, rfl, hq2, hri2, hex⟩
                       have HQ2 := Lib.hid hq2
                       have HRI2 := Lib.hid (slI_ints hri2)
                       have H12 : Hid (Ex wc.heap.size none wc w12) := Lib.hid ((H11.out).trans hex hz11 (by simp))
                       have hz12 : wc.heap.size ≤ w12.heap.size := H12.out.size
                       clear hex hq2 hri2)
                    | (go_at_call 36
                       refine (same03Ints_any _ _ R R w12 ⟨ro2, rc2, by rw [HQ2.out], HRI2.out⟩ ⟨ro, rc, by rw [HRL.out], (HCC.out _ H12.out).2.2.1⟩ (by rw [HRL.out]; omega)).mono ?_
                       rw [decide_eq_true (rfl : R = R)]
                       rintro e w13 ⟨rfl, hex⟩
                       have H13 : Hid (Ex wc.heap.size none wc w13) := Lib.hid ((H12.out).trans hex hz12 (by simp))
                       have hz13 : wc.heap.size ≤ w13.heap.size := H13.out.size
                       clear hex)
                    | (go_at_call 43
                       (fail_if_success (first | have _x := H14 | fail))
                       refine (back_any (sn : Int) eo en ec go gn gc es salt ro q rc R w13 (HCC.out _ H13.out).2.1 HN.out HGT.out (HCC.out _ H13.out).2.2.1 HRL.out (by omega)).mono ?_
                       rw [← HB1.out]
                       rintro e w14 ⟨rfl, hex⟩
                       have H14 : Hid (Ex wc.heap.size none wc w14) := Lib.hid ((H13.out).trans hex hz13 (by simp))
                       have hz14 : wc.heap.size ≤ w14.heap.size := H14.out.size
                       clear hex)
                    | (go_at_call 44
                       (fail_if_success (first | have _x := H15 | fail))
                       refine (back20_any (sn : Int) eo en ec go gn gc es salt ro q rc R w14 (HCC.out _ H14.out).2.1 HN.out HGT.out (HCC.out _ H14.out).2.2.1 HRL.out (by omega)).mono ?_
                       rw [← HB1.out]
                       rintro e w15 ⟨rfl, hex⟩
                       have H15 : Hid (Ex wc.heap.size none wc w15) := Lib.hid ((H14.out).trans hex hz14 (by simp))
                       have hz15 : wc.heap.size ≤ w15.heap.size := H15.out.size
                       clear hex)
                    | (go_at_call 43
                       refine (back_any (sn : Int) eo en ec go gn gc es salt oo q oc o w15 (HCC.out _ H15.out).2.1 HN.out HGT.out (HCC.out _ H15.out).2.2.2.1 HOL.out (by omega)).mono ?_
                       rw [← HB2.out]
                       rintro e w16 ⟨rfl, hex⟩
                       have H16 : Hid (Ex wc.heap.size none wc w16) := Lib.hid ((H15.out).trans hex hz15 (by simp))
                       have hz16 : wc.heap.size ≤ w16.heap.size := H16.out.size
                       clear hex)
                    | (go_at_call 44
                       refine (back20_any (sn : Int) eo en ec go gn gc es salt oo q oc o w16 (HCC.out _ H16.out).2.1 HN.out HGT.out (HCC.out _ H16.out).2.2.2.1 HOL.out (by omega)).mono ?_
                       rw [← HB2.out]
                       rintro e w17 ⟨rfl, hex⟩
                       have H17 : Hid (Ex wc.heap.size none wc w17) := Lib.hid ((H16.out).trans hex hz16 (by simp))
                       have hz17 : wc.heap.size ≤ w17.heap.size := H17.out.size
                       clear hex)
                    | (go_at_call 45
                       refine (escapes_any (sn : Int) eo en ec go gn gc es salt a 8 bo bn bc bad w17 (HCC.out _ H17.out).2.1 HN.out HGT.out (HCC.out _ H17.out).2.2.2.2 HBL.out (by omega)).mono ?_
                       rw [← HX1.out]
                       rintro e w18 ⟨rfl, hex⟩
                       have H18 : Hid (Ex wc.heap.size none wc w18) := Lib.hid ((H17.out).trans hex hz17 (by simp))
                       have hz18 : wc.heap.size ≤ w18.heap.size := H18.out.size
                       clear hex)
                    | (go_at_call 46
                       refine (escapes20_any (sn : Int) eo en ec go gn gc es salt a 8 bo bn bc bad w18 (HCC.out _ H18.out).2.1 HN.out HGT.out (HCC.out _ H18.out).2.2.2.2 HBL.out (by omega)).mono ?_
                       rw [← HX1.out]
                       rintro e w19 ⟨rfl, hex⟩
                       have H19 : Hid (Ex wc.heap.size none wc w19) := Lib.hid ((H18.out).trans hex hz18 (by simp))
                       have hz19 : wc.heap.size ≤ w19.heap.size := H19.out.size
                       clear hex)
                    | (go_at_call 47
                       refine (meet_any (sn : Int) eo en ec go gn gc es salt a (k8 : Int) 8 w19 (HCC.out _ H19.out).2.1 HN.out HGT.out).mono ?_
                       rw [← HX2.out]
                       rintro e w20 ⟨rfl, hex⟩
                       have H20 : Hid (Ex wc.heap.size none wc w20) := Lib.hid ((H19.out).trans hex hz19 (by simp))
                       have hz20 : wc.heap.size ≤ w20.heap.size := H20.out.size
                       clear hex)
                    | (go_at_call 48
                       refine (meet20_any (sn : Int) eo en ec go gn gc es salt a (k8 : Int) 8 w20 (HCC.out _ H20.out).2.1 HN.out HGT.out).mono ?_
                       rw [← HX2.out]
                       rintro e w21 ⟨rfl, hex⟩
                       have H21 : Hid (Ex wc.heap.size none wc w21) := Lib.hid ((H20.out).trans hex hz20 (by simp))
                       have hz21 : wc.heap.size ≤ w21.heap.size := H21.out.size
                       clear hex)
                    | fail)
                go_wp2
                go_ret
                exact ⟨rfl, (((HE3.out.trans ((HEwc.out.trans H21.out hzwc (by simp)).mono (show w.heap.size ≤ w3.heap.size by omega) |>.above (by omega)) (Nat.le_refl _) (by simp)))).below⟩
            · have d100 : decide (y ≤ 100) = false := decide_eq_false h100
              have HRX : Hid (∃ R, R = routeL salt es a (k8 : Int) y) := Lib.hid ⟨_, rfl⟩
              obtain ⟨R, hR⟩ := HRX.out
              have HR := Lib.hid hR
              clear hR HRX
              obtain ⟨c0, c1, c2⟩ := HC.out _ HEw8.out
              go_upto_region 16 with (first
                | (go_at_call 41
                   refine (route20_any (sn : Int) eo en ec go gn gc es salt a (k8 : Int) y w8 (HXW.out _ HEw8.out) HN.out HGT.out).mono ?_
                   rw [← HR.out]
                   rintro e w9 ⟨ro, rc, q, rfl, hq, hri, hex⟩
                   have HRL := Lib.hid hq
                   have hq101 : q ≤ 101 := (by rw [← hq, HR.out]; exact routeL_len _ _ _ _ _)
                   have HRI := Lib.hid hri.ints
                   have HRA : Hid (R ≠ [] → Away p ro) := Lib.hid (fun _ => hri.away (by omega))
                   have HEw9 : Hid (Ex w3.heap.size (some p) w3 w9) := Lib.hid (HEw8.out.trans hex hzw8 (by simp))
                   have hzw9 : w3.heap.size ≤ w9.heap.size := HEw9.out.size
                   have HBI9 := Lib.hid (HBI8.out.keep hex (Nat.le_refl _) (by simp))
                   have HD9 := Lib.hid (HD8.out.keep hex (by omega))
                   clear hq hri hex)
                | fail)
              clear c0 c1 c2 h8 d8
              go_upto_region 17 with (first
                | (at_builtin; refine wpList_appIs rfl (.const (.slice none 0 0)) (.tmp 87) _ (by rfl) Tryz.underlying22 infoI3 w9.heap.size none 0 [] R (.slice none 0 0) _ 0 rfl rfl (by rfl) (by rfl) ⟨ro, rc, by rw [HRL.out]; rfl, HRI.out⟩ (OwnI.nil _ _) (Ex.refl _ _ w9) (by rw [HRL.out]; simp; omega) (Nat.le_refl _) ?_; intro oo oc w10 hown hex; have HOW : Hid (OwnI w10 w9.heap.size oo oc R) := Lib.hid (by simpa using hown); have HEw10 : Hid (Ex w3.heap.size (some p) w3 w10) := Lib.hid (HEw9.out.trans hex hzw9 (by simp)); have HX910 : Hid (Ex w9.heap.size none w9 w10) := Lib.hid hex; rw [List.length_nil, Nat.zero_add, HRL.out]; clear hown hex)
                | fail)
              have hz910 : w9.heap.size ≤ w10.heap.size := HX910.out.size
              have hzw10 : w3.heap.size ≤ w10.heap.size := HEw10.out.size
              have HRI10 : Hid (IntsAt w10 ro R) := Lib.hid (HRI.out.keep HX910.out (Nat.le_refl _) (by simp))
              have HBI10 : Hid (IntsAt w10 bo bad) := Lib.hid (HBI9.out.keep HX910.out (Nat.le_refl _) (by simp))
              have HD10 : Hid (DiceOK (p + 1) w10 p) := Lib.hid (HD9.out.keep HX910.out (by omega))
              have HBLT : Hid (bad ≠ [] → Away p bo) := Lib.hid (fun _ => HBO.out.away (by omega))
              go_upto_if 91 with (fail)
              go_cut [15] from 89 to 101 (fun v wx => ∃ o : List Int, v = .slice oo q oc ∧ Hid (o.length = q) ∧ Hid (IntsAt wx oo o) ∧ Hid (Ex w9.heap.size (some p) w9 wx))
              case first =>
                by_cases h0 : 0 < q
                · have h0I : (0 : Int) < (q : Int) := by omega
                  have h0d : decide (0 < q) = true := decide_eq_true h0
                  rename_i J K' hJ hK
                  have HJ := Lib.hid hJ
                  have HK := Lib.hid hK
                  clear hJ hK
                  obtain ⟨g, rfl, hbg, hgl, _⟩ := own_at HOW.out (by rw [HRL.out]; exact h0)
                  have HH10 : Hid (HoldsK iE 1 w10 g 0 R.toArray) := Lib.hid (HOW.out.e.holds iE_len)
                  go_upto_region 18 with (fail)
                  go_region_held3 (fun w' => w'.cell? ⟨w2.heap.size, 0, none⟩ = some (.int .i64 (sn : Int)) ∧ w'.cell? ⟨w2.heap.size, 1, none⟩ = some (.slice eo en ec) ∧ w'.cell? ⟨w2.heap.size, 2, none⟩ = some (.slice go gn gc))
                    (first | exact HC.out _ (Ex.setCell HEw12.out _ none _ (.inr (by omega))) | exact HC.out _ HEw12.out | exact HC.out _ HEw11.out | exact HC.out _ HEw10.out.drew | exact HC.out _ HEw10.out | fail)
                    (first
                      | (go_at_call 20
                         (fail_if_success (first | have _x := HEw11 | fail))
                         refine (next_w (p + 1) p (q : Int) _ (HD10.out.keep (B := p + 1) ((Ex.refl _ none w10).drew) (Nat.le_refl _)) (by omega) (by omega)).mono ?_
                         rintro e w11 ⟨j, rfl, hj, hd, hex⟩
                         have HD11 := Lib.hid hd
                         have HEw11 : Hid (Ex w3.heap.size (some p) w3 w11) := Lib.hid (HEw10.out.drew.trans hex hzw10 (fun q e _ => by cases e; rfl))
                         have HX11 : Hid (Ex w9.heap.size (some p) w9 w11) := Lib.hid (((HX910.out.weaken (some p)).drew).trans hex hz910 (fun q e _ => by cases e; rfl))
                         have hzw11 : w3.heap.size ≤ w11.heap.size := HEw11.out.size
                         have hz911 : w9.heap.size ≤ w11.heap.size := HX11.out.size
                         have hjq : j < q := (by omega)
                         have hjqI : (j : Int) < (q : Int) := (by omega)
                         have HH11 : Hid (HoldsK iE 1 w11 g 0 R.toArray) := Lib.hid (holdsK_keep (by decide) HH10.out hgl (hex.block g hgl (by simp; omega)))
                         have hgl11 : g < w11.heap.size := Nat.lt_of_lt_of_le hgl hex.size
                         clear hd hex)
                      | (go_at_call 20
                         refine (next_w (p + 1) p (sn : Int) w11 HD11.out (by omega) (by omega)).mono ?_
                         rintro e w12 ⟨kv, rfl, hkv, hd, hex⟩
                         have HEw12 : Hid (Ex w3.heap.size (some p) w3 w12) := Lib.hid (HEw11.out.trans hex hzw11 (fun q e _ => by cases e; rfl))
                         have HX12 : Hid (Ex w9.heap.size (some p) w9 w12) := Lib.hid (HX11.out.trans hex hz911 (fun q e _ => by cases e; rfl))
                         have HH12 : Hid (HoldsK iE 1 w12 g 0 R.toArray) := Lib.hid (holdsK_keep (by decide) HH11.out hgl11 (hex.block g hgl11 (by simp; omega)))
                         have qj := (rint_cell HH12.out j (by rw [List.size_toArray, HRL.out]; exact hjq)).1
                         have fj := (rint_cell HH12.out j (by rw [List.size_toArray, HRL.out]; exact hjq)).2
                         clear hd hex)
                      | fail)
                  refine HK.out _ _ (Met.intro (HJ.out _ _ ?_))
                  (repeat apply Exists.intro)
                  exact ⟨⟨R.set j (kv : Int), rfl, Lib.hid (by rw [List.length_set]; exact HRL.out), Lib.hid (set_ints HH12.out (by rw [HRL.out]; exact hjq)), Lib.hid (Ex.setCell HX12.out _ none _ (.inr hbg))⟩, rfl⟩
                · have h0I : ¬ (0 : Int) < (q : Int) := by omega
                  have h0d : decide (0 < q) = false := decide_eq_false h0
                  go_wp2
                  go_meet
                  exact ⟨R, rfl, HRL, Lib.hid HOW.out.ints, Lib.hid (HX910.out.weaken (some p))⟩
              case rest =>
                clear HOW HRI10 HBI10 HD10
                obtain ⟨o, rfl, HOL, HOI, HX9c⟩ := hcut
                have hz9c : w9.heap.size ≤ wc.heap.size := HX9c.out.size
                have HEwc : Hid (Ex w3.heap.size (some p) w3 wc) := Lib.hid (HEw9.out.trans HX9c.out hzw9 (fun q e _ => by cases e; rfl))
                have hzwc : w3.heap.size ≤ wc.heap.size := HEwc.out.size
                have HRIc : Hid (IntsAt wc ro R) := Lib.hid (HRI.out.keep HX9c.out (Nat.le_refl _) (fun q e hne => by cases e; exact HRA.out hne))
                have HBIc : Hid (IntsAt wc bo bad) := Lib.hid (HBI9.out.keep HX9c.out (Nat.le_refl _) (fun q e hne => by cases e; exact HBLT.out hne))
                have HCC : Hid (∀ w', Ex wc.heap.size none wc w' → (w'.cell? ⟨w2.heap.size, 0, none⟩ = some (.int .i64 (sn : Int)) ∧ w'.cell? ⟨w2.heap.size, 1, none⟩ = some (.slice eo en ec) ∧ w'.cell? ⟨w2.heap.size, 2, none⟩ = some (.slice go gn gc)) ∧ SlAt edRep (fun b => w1.heap.size ≤ b) w' eo es ∧ IntsAt w' ro R ∧ IntsAt w' oo o ∧ IntsAt w' bo bad) := Lib.hid (fun w' h => ⟨HC.out _ (HEwc.out.trans h hzwc (by simp)), HXW.out _ (HEwc.out.trans h hzwc (by simp)), HRIc.out.keep h (Nat.le_refl _) (by simp), HOI.out.keep h (Nat.le_refl _) (by simp), HBIc.out.keep h (Nat.le_refl _) (by simp)⟩)
                have HRLs : Hid (routeL salt es a (k8 : Int) y = R) := Lib.hid HR.out.symm
                obtain ⟨b1, hb1⟩ : ∃ b1, b1 = backV salt es R := ⟨_, rfl⟩
                obtain ⟨b2, hb2⟩ : ∃ b2, b2 = backV salt es o := ⟨_, rfl⟩
                obtain ⟨x1, hx1⟩ : ∃ x1, x1 = escV salt es bad a y := ⟨_, rfl⟩
                obtain ⟨x2, hx2⟩ : ∃ x2, x2 = meetV salt es a (k8 : Int) y := ⟨_, rfl⟩
                have HB1 := Lib.hid hb1
                have HB2 := Lib.hid hb2
                have HX1 := Lib.hid hx1
                have HX2 := Lib.hid hx2
                clear hb1 hb2 hx1 hx2
                go_upto_region 19 with (fail)
                go_region_held3 (fun w' => w'.cell? ⟨w2.heap.size, 0, none⟩ = some (.int .i64 (sn : Int)) ∧ w'.cell? ⟨w2.heap.size, 1, none⟩ = some (.slice eo en ec) ∧ w'.cell? ⟨w2.heap.size, 2, none⟩ = some (.slice go gn gc))
                  (first | exact (HCC.out _ H21.out).1 | exact (HCC.out _ H20.out).1 | exact (HCC.out _ H19.out).1 | exact (HCC.out _ H18.out).1 | exact (HCC.out _ H17.out).1 | exact (HCC.out _ H16.out).1 | exact (HCC.out _ H15.out).1 | exact (HCC.out _ H14.out).1 | exact (HCC.out _ H13.out).1 | exact (HCC.out _ H12.out).1 | exact (HCC.out _ H11.out).1 | exact (HCC.out _ (Ex.refl _ _ wc).drew).1 | exact (HCC.out _ (Ex.refl _ _ wc)).1 | fail)
                  (first
                    | (go_at_call 32
                       refine (awake20_any _).mono ?_
                       rintro e w11 ⟨rfl, hex⟩
                       have H11 : Hid (Ex wc.heap.size none wc w11) := Lib.hid (((Ex.refl _ none wc).drew).trans hex (Nat.le_refl _) (by simp))
                       have hz11 : wc.heap.size ≤ w11.heap.size := H11.out.size
                       clear hex)
                    | (go_at_call 42
                       refine (routeP_any (sn : Int) eo en ec go gn gc es salt a (k8 : Int) y w11 (HCC.out _ H11.out).2.1 HN.out HGT.out).mono ?_
                       rw [HRLs.out]
                       rintro e w12 ⟨ro2, rc2, q2, rfl, hq2, hri2, hex⟩
                       have HQ2 := Lib.hid hq2
                       have HRI2 := Lib.hid (slI_ints hri2)
                       have H12 : Hid (Ex wc.heap.size none wc w12) := Lib.hid ((H11.out).trans hex hz11 (by simp))
                       have hz12 : wc.heap.size ≤ w12.heap.size := H12.out.size
                       clear hex hq2 hri2)
                    | (go_at_call 36
                       refine (same03Ints_any _ _ R R w12 ⟨ro2, rc2, by rw [HQ2.out], HRI2.out⟩ ⟨ro, rc, by rw [HRL.out], (HCC.out _ H12.out).2.2.1⟩ (by rw [HRL.out]; omega)).mono ?_
                       rw [decide_eq_true (rfl : R = R)]
                       rintro e w13 ⟨rfl, hex⟩
                       have H13 : Hid (Ex wc.heap.size none wc w13) := Lib.hid ((H12.out).trans hex hz12 (by simp))
                       have hz13 : wc.heap.size ≤ w13.heap.size := H13.out.size
                       clear hex)
                    | (go_at_call 43
                       (fail_if_success (first | have _x := H14 | fail))
                       refine (back_any (sn : Int) eo en ec go gn gc es salt ro q rc R w13 (HCC.out _ H13.out).2.1 HN.out HGT.out (HCC.out _ H13.out).2.2.1 HRL.out (by omega)).mono ?_
                       rw [← HB1.out]
                       rintro e w14 ⟨rfl, hex⟩
                       have H14 : Hid (Ex wc.heap.size none wc w14) := Lib.hid ((H13.out).trans hex hz13 (by simp))
                       have hz14 : wc.heap.size ≤ w14.heap.size := H14.out.size
                       clear hex)
                    | (go_at_call 44
                       (fail_if_success (first | have _x := H15 | fail))
                       refine (back20_any (sn : Int) eo en ec go gn gc es salt ro q rc R w14 (HCC.out _ H14.out).2.1 HN.out HGT.out (HCC.out _ H14.out).2.2.1 HRL.out (by omega)).mono ?_
                       rw [← HB1.out]
                       rintro e w15 ⟨rfl, hex⟩
                       have H15 : Hid (Ex wc.heap.size none wc w15) := Lib.hid ((H14.out).trans hex hz14 (by simp))
                       have hz15 : wc.heap.size ≤ w15.heap.size := H15.out.size
                       clear hex)
                    | (go_at_call 43
                       refine (back_any (sn : Int) eo en ec go gn gc es salt oo q oc o w15 (HCC.out _ H15.out).2.1 HN.out HGT.out (HCC.out _ H15.out).2.2.2.1 HOL.out (by omega)).mono ?_
                       rw [← HB2.out]
                       rintro e w16 ⟨rfl, hex⟩
                       have H16 : Hid (Ex wc.heap.size none wc w16) := Lib.hid ((H15.out).trans hex hz15 (by simp))
                       have hz16 : wc.heap.size ≤ w16.heap.size := H16.out.size
                       clear hex)
                    | (go_at_call 44
                       refine (back20_any (sn : Int) eo en ec go gn gc es salt oo q oc o w16 (HCC.out _ H16.out).2.1 HN.out HGT.out (HCC.out _ H16.out).2.2.2.1 HOL.out (by omega)).mono ?_
                       rw [← HB2.out]
                       rintro e w17 ⟨rfl, hex⟩
                       have H17 : Hid (Ex wc.heap.size none wc w17) := Lib.hid ((H16.out).trans hex hz16 (by simp))
                       have hz17 : wc.heap.size ≤ w17.heap.size := H17.out.size
                       clear hex)
                    | (go_at_call 45
                       refine (escapes_any (sn : Int) eo en ec go gn gc es salt a y bo bn bc bad w17 (HCC.out _ H17.out).2.1 HN.out HGT.out (HCC.out _ H17.out).2.2.2.2 HBL.out (by omega)).mono ?_
                       rw [← HX1.out]
                       rintro e w18 ⟨rfl, hex⟩
                       have H18 : Hid (Ex wc.heap.size none wc w18) := Lib.hid ((H17.out).trans hex hz17 (by simp))
                       have hz18 : wc.heap.size ≤ w18.heap.size := H18.out.size
                       clear hex)
                    | (go_at_call 46
                       refine (escapes20_any (sn : Int) eo en ec go gn gc es salt a y bo bn bc bad w18 (HCC.out _ H18.out).2.1 HN.out HGT.out (HCC.out _ H18.out).2.2.2.2 HBL.out (by omega)).mono ?_
                       rw [← HX1.out]
                       rintro e w19 ⟨rfl, hex⟩
                       have H19 : Hid (Ex wc.heap.size none wc w19) := Lib.hid ((H18.out).trans hex hz18 (by simp))
                       have hz19 : wc.heap.size ≤ w19.heap.size := H19.out.size
                       clear hex)
                    | (go_at_call 47
                       refine (meet_any (sn : Int) eo en ec go gn gc es salt a (k8 : Int) y w19 (HCC.out _ H19.out).2.1 HN.out HGT.out).mono ?_
                       rw [← HX2.out]
                       rintro e w20 ⟨rfl, hex⟩
                       have H20 : Hid (Ex wc.heap.size none wc w20) := Lib.hid ((H19.out).trans hex hz19 (by simp))
                       have hz20 : wc.heap.size ≤ w20.heap.size := H20.out.size
                       clear hex)
                    | (go_at_call 48
                       refine (meet20_any (sn : Int) eo en ec go gn gc es salt a (k8 : Int) y w20 (HCC.out _ H20.out).2.1 HN.out HGT.out).mono ?_
                       rw [← HX2.out]
                       rintro e w21 ⟨rfl, hex⟩
                       have H21 : Hid (Ex wc.heap.size none wc w21) := Lib.hid ((H20.out).trans hex hz20 (by simp))
                       have hz21 : wc.heap.size ≤ w21.heap.size := H21.out.size
                       clear hex)
                    | fail)
                go_wp2
                go_ret
                exact ⟨rfl, (((HE3.out.trans ((HEwc.out.trans H21.out hzwc (by simp)).mono (show w.heap.size ≤ w3.heap.size by omega) |>.above (by omega)) (Nat.le_refl _) (by simp)))).below⟩
          · have d8 : decide (8 < y) = false := decide_eq_false h8
            have HRX : Hid (∃ R, R = routeL salt es a (k8 : Int) y) := Lib.hid ⟨_, rfl⟩
            obtain ⟨R, hR⟩ := HRX.out
            have HR := Lib.hid hR
            clear hR HRX
            obtain ⟨c0, c1, c2⟩ := HC.out _ HEw8.out
            go_upto_region 16 with (first
              | (go_at_call 41
                 refine (route20_any (sn : Int) eo en ec go gn gc es salt a (k8 : Int) y w8 (HXW.out _ HEw8.out) HN.out HGT.out).mono ?_
                 rw [← HR.out]
                 rintro e w9 ⟨ro, rc, q, rfl, hq, hri, hex⟩
                 have HRL := Lib.hid hq
                 have hq101 : q ≤ 101 := (by rw [← hq, HR.out]; exact routeL_len _ _ _ _ _)
                 have HRI := Lib.hid hri.ints
                 have HRA : Hid (R ≠ [] → Away p ro) := Lib.hid (fun _ => hri.away (by omega))
                 have HEw9 : Hid (Ex w3.heap.size (some p) w3 w9) := Lib.hid (HEw8.out.trans hex hzw8 (by simp))
                 have hzw9 : w3.heap.size ≤ w9.heap.size := HEw9.out.size
                 have HBI9 := Lib.hid (HBI8.out.keep hex (Nat.le_refl _) (by simp))
                 have HD9 := Lib.hid (HD8.out.keep hex (by omega))
                 clear hq hri hex)
              | fail)
            clear c0 c1 c2 h8 d8
            go_upto_region 17 with (first
              | (at_builtin; refine wpList_appIs rfl (.const (.slice none 0 0)) (.tmp 87) _ (by rfl) Tryz.underlying22 infoI3 w9.heap.size none 0 [] R (.slice none 0 0) _ 0 rfl rfl (by rfl) (by rfl) ⟨ro, rc, by rw [HRL.out]; rfl, HRI.out⟩ (OwnI.nil _ _) (Ex.refl _ _ w9) (by rw [HRL.out]; simp; omega) (Nat.le_refl _) ?_; intro oo oc w10 hown hex; have HOW : Hid (OwnI w10 w9.heap.size oo oc R) := Lib.hid (by simpa using hown); have HEw10 : Hid (Ex w3.heap.size (some p) w3 w10) := Lib.hid (HEw9.out.trans hex hzw9 (by simp)); have HX910 : Hid (Ex w9.heap.size none w9 w10) := Lib.hid hex; rw [List.length_nil, Nat.zero_add, HRL.out]; clear hown hex)
              | fail)
            have hz910 : w9.heap.size ≤ w10.heap.size := HX910.out.size
            have hzw10 : w3.heap.size ≤ w10.heap.size := HEw10.out.size
            have HRI10 : Hid (IntsAt w10 ro R) := Lib.hid (HRI.out.keep HX910.out (Nat.le_refl _) (by simp))
            have HBI10 : Hid (IntsAt w10 bo bad) := Lib.hid (HBI9.out.keep HX910.out (Nat.le_refl _) (by simp))
            have HD10 : Hid (DiceOK (p + 1) w10 p) := Lib.hid (HD9.out.keep HX910.out (by omega))
            have HBLT : Hid (bad ≠ [] → Away p bo) := Lib.hid (fun _ => HBO.out.away (by omega))
            go_upto_if 91 with (fail)
            go_cut [15] from 89 to 101 (fun v wx => ∃ o : List Int, v = .slice oo q oc ∧ Hid (o.length = q) ∧ Hid (IntsAt wx oo o) ∧ Hid (Ex w9.heap.size (some p) w9 wx))
            case first =>
              by_cases h0 : 0 < q
              · have h0I : (0 : Int) < (q : Int) := by omega
                have h0d : decide (0 < q) = true := decide_eq_true h0
                rename_i J K' hJ hK
                have HJ := Lib.hid hJ
                have HK := Lib.hid hK
                clear hJ hK
                obtain ⟨g, rfl, hbg, hgl, _⟩ := own_at HOW.out (by rw [HRL.out]; exact h0)
                have HH10 : Hid (HoldsK iE 1 w10 g 0 R.toArray) := Lib.hid (HOW.out.e.holds iE_len)
                go_upto_region 18 with (fail)
                go_region_held3 (fun w' => w'.cell? ⟨w2.heap.size, 0, none⟩ = some (.int .i64 (sn : Int)) ∧ w'.cell? ⟨w2.heap.size, 1, none⟩ = some (.slice eo en ec) ∧ w'.cell? ⟨w2.heap.size, 2, none⟩ = some (.slice go gn gc))
                  (first | exact HC.out _ (Ex.setCell HEw12.out _ none _ (.inr (by omega))) | exact HC.out _ HEw12.out | exact HC.out _ HEw11.out | exact HC.out _ HEw10.out.drew | exact HC.out _ HEw10.out | fail)
                  (first
                    | (go_at_call 20
                       (fail_if_success (first | have _x := HEw11 | fail))
                       refine (next_w (p + 1) p (q : Int) _ (HD10.out.keep (B := p + 1) ((Ex.refl _ none w10).drew) (Nat.le_refl _)) (by omega) (by omega)).mono ?_
                       rintro e w11 ⟨j, rfl, hj, hd, hex⟩
                       have HD11 := Lib.hid hd
                       have HEw11 : Hid (Ex w3.heap.size (some p) w3 w11) := Lib.hid (HEw10.out.drew.trans hex hzw10 (fun q e _ => by cases e; rfl))
                       have HX11 : Hid (Ex w9.heap.size (some p) w9 w11) := Lib.hid (((HX910.out.weaken (some p)).drew).trans hex hz910 (fun q e _ => by cases e; rfl))
                       have hzw11 : w3.heap.size ≤ w11.heap.size := HEw11.out.size
                       have hz911 : w9.heap.size ≤ w11.heap.size := HX11.out.size
                       have hjq : j < q := (by omega)
                       have hjqI : (j : Int) < (q : Int) := (by omega)
                       have HH11 : Hid (HoldsK iE 1 w11 g 0 R.toArray) := Lib.hid (holdsK_keep (by decide) HH10.out hgl (hex.block g hgl (by simp; omega)))
                       have hgl11 : g < w11.heap.size := Nat.lt_of_lt_of_le hgl hex.size
                       clear hd hex)
                    | (go_at_call 20
                       refine (next_w (p + 1) p (sn : Int) w11 HD11.out (by omega) (by omega)).mono ?_
                       rintro e w12 ⟨kv, rfl, hkv, hd, hex⟩
                       have HEw12 : Hid (Ex w3.heap.size (some p) w3 w12) := Lib.hid (HEw11.out.trans hex hzw11 (fun q e _ => by cases e; rfl))
                       have HX12 : Hid (Ex w9.heap.size (some p) w9 w12) := Lib.hid (HX11.out.trans hex hz911 (fun q e _ => by cases e; rfl))
                       have HH12 : Hid (HoldsK iE 1 w12 g 0 R.toArray) := Lib.hid (holdsK_keep (by decide) HH11.out hgl11 (hex.block g hgl11 (by simp; omega)))
                       have qj := (rint_cell HH12.out j (by rw [List.size_toArray, HRL.out]; exact hjq)).1
                       have fj := (rint_cell HH12.out j (by rw [List.size_toArray, HRL.out]; exact hjq)).2
                       clear hd hex)
                    | fail)
                refine HK.out _ _ (Met.intro (HJ.out _ _ ?_))
                (repeat apply Exists.intro)
                exact ⟨⟨R.set j (kv : Int), rfl, Lib.hid (by rw [List.length_set]; exact HRL.out), Lib.hid (set_ints HH12.out (by rw [HRL.out]; exact hjq)), Lib.hid (Ex.setCell HX12.out _ none _ (.inr hbg))⟩, rfl⟩
              · have h0I : ¬ (0 : Int) < (q : Int) := by omega
                have h0d : decide (0 < q) = false := decide_eq_false h0
                go_wp2
                go_meet
                exact ⟨R, rfl, HRL, Lib.hid HOW.out.ints, Lib.hid (HX910.out.weaken (some p))⟩
            case rest =>
              clear HOW HRI10 HBI10 HD10
              obtain ⟨o, rfl, HOL, HOI, HX9c⟩ := hcut
              have hz9c : w9.heap.size ≤ wc.heap.size := HX9c.out.size
              have HEwc : Hid (Ex w3.heap.size (some p) w3 wc) := Lib.hid (HEw9.out.trans HX9c.out hzw9 (fun q e _ => by cases e; rfl))
              have hzwc : w3.heap.size ≤ wc.heap.size := HEwc.out.size
              have HRIc : Hid (IntsAt wc ro R) := Lib.hid (HRI.out.keep HX9c.out (Nat.le_refl _) (fun q e hne => by cases e; exact HRA.out hne))
              have HBIc : Hid (IntsAt wc bo bad) := Lib.hid (HBI9.out.keep HX9c.out (Nat.le_refl _) (fun q e hne => by cases e; exact HBLT.out hne))
              have HCC : Hid (∀ w', Ex wc.heap.size none wc w' → (w'.cell? ⟨w2.heap.size, 0, none⟩ = some (.int .i64 (sn : Int)) ∧ w'.cell? ⟨w2.heap.size, 1, none⟩ = some (.slice eo en ec) ∧ w'.cell? ⟨w2.heap.size, 2, none⟩ = some (.slice go gn gc)) ∧ SlAt edRep (fun b => w1.heap.size ≤ b) w' eo es ∧ IntsAt w' ro R ∧ IntsAt w' oo o ∧ IntsAt w' bo bad) := Lib.hid (fun w' h => ⟨HC.out _ (HEwc.out.trans h hzwc (by simp)), HXW.out _ (HEwc.out.trans h hzwc (by simp)), HRIc.out.keep h (Nat.le_refl _) (by simp), HOI.out.keep h (Nat.le_refl _) (by simp), HBIc.out.keep h (Nat.le_refl _) (by simp)⟩)
              have HRLs : Hid (routeL salt es a (k8 : Int) y = R) := Lib.hid HR.out.symm
              obtain ⟨b1, hb1⟩ : ∃ b1, b1 = backV salt es R := ⟨_, rfl⟩
              obtain ⟨b2, hb2⟩ : ∃ b2, b2 = backV salt es o := ⟨_, rfl⟩
              obtain ⟨x1, hx1⟩ : ∃ x1, x1 = escV salt es bad a y := ⟨_, rfl⟩
              obtain ⟨x2, hx2⟩ : ∃ x2, x2 = meetV salt es a (k8 : Int) y := ⟨_, rfl⟩
              have HB1 := Lib.hid hb1
              have HB2 := Lib.hid hb2
              have HX1 := Lib.hid hx1
              have HX2 := Lib.hid hx2
              clear hb1 hb2 hx1 hx2
              go_upto_region 19 with (fail)
              go_region_held3 (fun w' => w'.cell? ⟨w2.heap.size, 0, none⟩ = some (.int .i64 (sn : Int)) ∧ w'.cell? ⟨w2.heap.size, 1, none⟩ = some (.slice eo en ec) ∧ w'.cell? ⟨w2.heap.size, 2, none⟩ = some (.slice go gn gc))
                (first | exact (HCC.out _ H21.out).1 | exact (HCC.out _ H20.out).1 | exact (HCC.out _ H19.out).1 | exact (HCC.out _ H18.out).1 | exact (HCC.out _ H17.out).1 | exact (HCC.out _ H16.out).1 | exact (HCC.out _ H15.out).1 | exact (HCC.out _ H14.out).1 | exact (HCC.out _ H13.out).1 | exact (HCC.out _ H12.out).1 | exact (HCC.out _ H11.out).1 | exact (HCC.out _ (Ex.refl _ _ wc).drew).1 | exact (HCC.out _ (Ex.refl _ _ wc)).1 | fail)
                (first
                  | (go_at_call 32
                     refine (awake20_any _).mono ?_
                     rintro e w11 ⟨rfl, hex⟩
                     have H11 : Hid (Ex wc.heap.size none wc w11) := Lib.hid (((Ex.refl _ none wc).drew).trans hex (Nat.le_refl _) (by simp))
                     have hz11 : wc.heap.size ≤ w11.heap.size := H11.out.size
                     clear hex)
                  | (go_at_call 42
                     refine (routeP_any (sn : Int) eo en ec go gn gc es salt a (k8 : Int) y w11 (HCC.out _ H11.out).2.1 HN.out HGT.out).mono ?_
                     rw [HRLs.out]
                     rintro e w12 ⟨ro2, rc2, q2, rfl, hq2, hri2, hex⟩
                     have HQ2 := Lib.hid hq2
                     have HRI2 := Lib.hid (slI_ints hri2)
                     have H12 : Hid (Ex wc.heap.size none wc w12) := Lib.hid ((H11.out).trans hex hz11 (by simp))
                     have hz12 : wc.heap.size ≤ w12.heap.size := H12.out.size
                     clear hex hq2 hri2)
                  | (go_at_call 36
                     refine (same03Ints_any _ _ R R w12 ⟨ro2, rc2, by rw [HQ2.out], HRI2.out⟩ ⟨ro, rc, by rw [HRL.out], (HCC.out _ H12.out).2.2.1⟩ (by rw [HRL.out]; omega)).mono ?_
                     rw [decide_eq_true (rfl : R = R)]
                     rintro e w13 ⟨rfl, hex⟩
                     have H13 : Hid (Ex wc.heap.size none wc w13) := Lib.hid ((H12.out).trans hex hz12 (by simp))
                     have hz13 : wc.heap.size ≤ w13.heap.size := H13.out.size
                     clear hex)
                  | (go_at_call 43
                     (fail_if_success (first | have _x := H14 | fail))
                     refine (back_any (sn : Int) eo en ec go gn gc es salt ro q rc R w13 (HCC.out _ H13.out).2.1 HN.out HGT.out (HCC.out _ H13.out).2.2.1 HRL.out (by omega)).mono ?_
                     rw [← HB1.out]
                     rintro e w14 ⟨rfl, hex⟩
                     have H14 : Hid (Ex wc.heap.size none wc w14) := Lib.hid ((H13.out).trans hex hz13 (by simp))
                     have hz14 : wc.heap.size ≤ w14.heap.size := H14.out.size
                     clear hex)
                  | (go_at_call 44
                     (fail_if_success (first | have _x := H15 | fail))
                     refine (back20_any (sn : Int) eo en ec go gn gc es salt ro q rc R w14 (HCC.out _ H14.out).2.1 HN.out HGT.out (HCC.out _ H14.out).2.2.1 HRL.out (by omega)).mono ?_
                     rw [← HB1.out]
                     rintro e w15 ⟨rfl, hex⟩
                     have H15 : Hid (Ex wc.heap.size none wc w15) := Lib.hid ((H14.out).trans hex hz14 (by simp))
                     have hz15 : wc.heap.size ≤ w15.heap.size := H15.out.size
                     clear hex)
                  | (go_at_call 43
                     refine (back_any (sn : Int) eo en ec go gn gc es salt oo q oc o w15 (HCC.out _ H15.out).2.1 HN.out HGT.out (HCC.out _ H15.out).2.2.2.1 HOL.out (by omega)).mono ?_
                     rw [← HB2.out]
                     rintro e w16 ⟨rfl, hex⟩
                     have H16 : Hid (Ex wc.heap.size none wc w16) := Lib.hid ((H15.out).trans hex hz15 (by simp))
                     have hz16 : wc.heap.size ≤ w16.heap.size := H16.out.size
                     clear hex)
                  | (go_at_call 44
                     refine (back20_any (sn : Int) eo en ec go gn gc es salt oo q oc o w16 (HCC.out _ H16.out).2.1 HN.out HGT.out (HCC.out _ H16.out).2.2.2.1 HOL.out (by omega)).mono ?_
                     rw [← HB2.out]
                     rintro e w17 ⟨rfl, hex⟩
                     have H17 : Hid (Ex wc.heap.size none wc w17) := Lib.hid ((H16.out).trans hex hz16 (by simp))
                     have hz17 : wc.heap.size ≤ w17.heap.size := H17.out.size
                     clear hex)
                  | (go_at_call 45
                     refine (escapes_any (sn : Int) eo en ec go gn gc es salt a y bo bn bc bad w17 (HCC.out _ H17.out).2.1 HN.out HGT.out (HCC.out _ H17.out).2.2.2.2 HBL.out (by omega)).mono ?_
                     rw [← HX1.out]
                     rintro e w18 ⟨rfl, hex⟩
                     have H18 : Hid (Ex wc.heap.size none wc w18) := Lib.hid ((H17.out).trans hex hz17 (by simp))
                     have hz18 : wc.heap.size ≤ w18.heap.size := H18.out.size
                     clear hex)
                  | (go_at_call 46
                     refine (escapes20_any (sn : Int) eo en ec go gn gc es salt a y bo bn bc bad w18 (HCC.out _ H18.out).2.1 HN.out HGT.out (HCC.out _ H18.out).2.2.2.2 HBL.out (by omega)).mono ?_
                     rw [← HX1.out]
                     rintro e w19 ⟨rfl, hex⟩
                     have H19 : Hid (Ex wc.heap.size none wc w19) := Lib.hid ((H18.out).trans hex hz18 (by simp))
                     have hz19 : wc.heap.size ≤ w19.heap.size := H19.out.size
                     clear hex)
                  | (go_at_call 47
                     refine (meet_any (sn : Int) eo en ec go gn gc es salt a (k8 : Int) y w19 (HCC.out _ H19.out).2.1 HN.out HGT.out).mono ?_
                     rw [← HX2.out]
                     rintro e w20 ⟨rfl, hex⟩
                     have H20 : Hid (Ex wc.heap.size none wc w20) := Lib.hid ((H19.out).trans hex hz19 (by simp))
                     have hz20 : wc.heap.size ≤ w20.heap.size := H20.out.size
                     clear hex)
                  | (go_at_call 48
                     refine (meet20_any (sn : Int) eo en ec go gn gc es salt a (k8 : Int) y w20 (HCC.out _ H20.out).2.1 HN.out HGT.out).mono ?_
                     rw [← HX2.out]
                     rintro e w21 ⟨rfl, hex⟩
                     have H21 : Hid (Ex wc.heap.size none wc w21) := Lib.hid ((H20.out).trans hex hz20 (by simp))
                     have hz21 : wc.heap.size ≤ w21.heap.size := H21.out.size
                     clear hex)
                  | fail)
              go_wp2
              go_ret
              exact ⟨rfl, (((HE3.out.trans ((HEwc.out.trans H21.out hzwc (by simp)).mono (show w.heap.size ≤ w3.heap.size by omega) |>.above (by omega)) (Nat.le_refl _) (by simp)))).below⟩
    · have hsI : decide ((60 : Int) < (salt.size : Int)) = true := decide_eq_true (by omega)
      have hsN : decide (60 < salt.size) = true := decide_eq_true (by omega)
      go_enter Tryz.func6, Tryz.ntmps6
      go_wp2_with (first
        | (go_at_call 31; refine (madeLight_any _ _ _ _).mono ?_; rw [hmd]; rintro e w' ⟨rfl, rfl⟩)
        | (go_at_call 32; refine (awake20_any _).mono ?_; rintro e w1 ⟨rfl, hex⟩)
        | fail)
      go_ret
      exact ⟨rfl, hex.below⟩
  · have hmd : decide ((L.length : Int) ≤ 400) = false := decide_eq_false (by omega)
    go_enter Tryz.func6, Tryz.ntmps6
    go_wp2_with (first
      | (go_at_call 31; refine (madeLight_any _ _ _ _).mono ?_; rw [hmd]; rintro e w' ⟨rfl, rfl⟩)
      | (go_at_call 32; refine (awake20_any _).mono ?_; rintro e w1 ⟨rfl, hex⟩)
      | fail)
    go_ret
    exact ⟨rfl, hex.below⟩
end Go.Proofs.YtfllcohnfboccaaGreat
