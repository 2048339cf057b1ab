/- RoutesEscape: the walk. No statement of the seat. -/
import Derived.Test.YtfllcohnfboccaaRoutesWG
namespace Go.Proofs.Ytfllcohnfboccaa
open Go.RowKit Go.Sort

set_option maxHeartbeats 16000000 in
set_option maxRecDepth 100000 in
theorem routesEscape_walk (v : Value) (L : List Int) (salt : ByteArray) (w : World) (hv : Ints w v L) (hm0 : L.length ≤ 9223372036854775807) (_hs0 : salt.size ≤ maxLen) :
    Calls Try.prog 5 #[v, .string salt] w fun e w' => e = .returned (.bool true) ∧ Below w.heap.size w w' := by
  obtain ⟨ao, cap, rfl, hx⟩ := hv
  have HX := Lib.hid hx
  clear hx
  by_cases hm : L.length ≤ 400
  · have hmd : decide ((L.length : Int) ≤ 400) = true := decide_eq_true (by omega)
    by_cases hs : salt.size ≤ 60
    · have hsI : decide ((60 : Int) < (salt.size : Int)) = false := decide_eq_false (by omega)
      have hsN : decide (60 < salt.size) = false := decide_eq_false (by omega)
      go_enter Try.func5, Try.ntmps5
      go_upto_region 5 with (first
        | (go_at_call 15; refine (madeLight_any _ _ _ _).mono ?_; rw [hmd]; rintro e w' ⟨rfl, rfl⟩)
        | (go_at_call 17
           refine (madeRoll_any (.slice ao L.length cap) L w ⟨ao, cap, rfl, HX.out⟩ (by omega)).mono ?_
           rintro e w1 ⟨p, rfl, hd, hp1, hp2, hex⟩
           have HD1 : Hid (DiceOK (p + 1) w1 p) := Lib.hid ⟨_, hd⟩
           have HE1 := Lib.hid hex
           have hz1 : w.heap.size ≤ w1.heap.size := hex.size
           clear hd hex)
        | (go_at_call 18
           refine (graph_w (p + 1) p w1 HD1.out hp2).mono ?_
           rintro e w2 ⟨sn, eo, en, ec, go, gn, gc, es, gone, rfl, ⟨hs2, hs9⟩, ⟨hen, hen22, hec⟩, hG, hsl, hd, hex⟩
           have HN := Lib.hid hen
           have HGR := Lib.hid hG
           have HSL := Lib.hid hsl
           have HD2 := Lib.hid hd
           have HE2 := Lib.hid hex
           have hz2 : w1.heap.size ≤ w2.heap.size := hex.size
           clear hen hG hsl hd hex)
        | fail)
      obtain ⟨w3, hw3⟩ : ∃ w3 : World, w3 = w2.alloc (.cells #[.int .i64 (sn : Int), .slice eo en ec, .slice go gn gc] 45) := ⟨_, rfl⟩
      have HE23 : Hid (Ex w2.heap.size none w2 w3) := Lib.hid (by rw [hw3]; exact Ex.new _ _)
      have hz3 : w2.heap.size + 1 ≤ w3.heap.size := by rw [hw3]; simp
      have HB3 : Hid (w3.heap[w2.heap.size]? = some (.cells #[.int .i64 (sn : Int), .slice eo en ec, .slice go gn gc] 45 (0, 0))) := Lib.hid (by rw [hw3]; exact heap_alloc_new _ _)
      rw [← hw3]
      clear hw3
      have HD3 : Hid (DiceOK (p + 1) w3 p) := Lib.hid (HD2.out.keep HE23.out (by omega))
      have HE3 : Hid (Ex w.heap.size none w w3) := Lib.hid ((HE1.out.trans ((HE2.out.trans HE23.out hz2 (by simp)).mono (show w.heap.size ≤ w1.heap.size by omega) |>.above (by omega)) (Nat.le_refl _) (by simp)))
      have HC : Hid (∀ w', Ex w3.heap.size (some p) w3 w' → w'.cell? ⟨w2.heap.size, 0, none⟩ = some (.int .i64 (sn : Int)) ∧ w'.cell? ⟨w2.heap.size, 1, none⟩ = some (.slice eo en ec) ∧ w'.cell? ⟨w2.heap.size, 2, none⟩ = some (.slice go gn gc)) := Lib.hid (fun w' h => by
        have k := (h.block w2.heap.size (by omega) (by simp; omega)).trans HB3.out
        refine ⟨?_, ?_, ?_⟩ <;> (rw [cell_of_row _ _ _ _ _ _ k]; rfl))
      have HXW : Hid (∀ w', Ex w3.heap.size (some p) w3 w' → SlAt edRep (fun b => w1.heap.size ≤ b) w' eo es) := Lib.hid (fun w' h => HSL.out.keep (by decide) fun b hb1 hb => (h.block b (by omega) (by simp; omega)).trans (HE23.out.block b hb (by simp)))
      have HGT : Hid (GraphT salt es) := Lib.hid (HGR.out.graphT (by omega) hs9)
      have HRF : Hid (Ex w3.heap.size (some p) w3 w3) := Lib.hid (Ex.refl _ _ _)
      clear HE1 HE2 HE23 HD1 HD2 HSL HX hmd hsI hsN
      obtain ⟨c0, c1, c2⟩ := HC.out _ HRF.out
      go_upto_region 6 with (first
        | (go_at_call 11
           refine (next_w (p + 1) p 5 w3 HD3.out (by omega) (by omega)).mono ?_
           rintro e w4 ⟨m, rfl, hm5, hd, hex⟩
           have HE4 := Lib.hid hex
           have HD4 := Lib.hid hd
           have hz4 : w3.heap.size ≤ w4.heap.size := hex.size
           obtain ⟨ln, hln⟩ : ∃ ln : Nat, ln = m + 1 := ⟨_, rfl⟩
           have hwl : IntKind.i64.wrap (1 + (m : Int)) = (ln : Int) := (by rw [IntWalk.i64_in _ (by omega)]; omega)
           have hlnb : 1 ≤ ln ∧ ln ≤ 5 := (by omega)
           have HLN : Hid (ln = m + 1) := Lib.hid hln
           clear hln
           clear hd hex c0 c1 c2)
        | fail)
      clear hwl
      obtain ⟨c0, c1, c2⟩ := HC.out _ HE4.out
      go_upto_region 9 with (first
        | (go_at_call 22
           refine (some_w (p + 1) p sn w4 HD4.out (by omega) (by omega)).mono ?_
           rintro e w5 ⟨bo, bc, bn, bad, rfl, ⟨hbl, hbn⟩, hbi, _, hex⟩
           have HBL := Lib.hid hbl
           have HBI := Lib.hid hbi.ints
           have HE5 : Hid (Ex w3.heap.size (some p) w3 w5) := Lib.hid (HE4.out.trans hex hz4 (fun q e _ => by cases e; rfl))
           have hz5 : w3.heap.size ≤ w5.heap.size := HE5.out.size
           clear hbl hbi hex c0 c1 c2)
        | fail)
      go_loopw [9, 10, 11, 12, 13] (fun aa bb kk u1 u2 wr => ∃ (k x y : Nat), kk = .int .i64 (k : Int) ∧ k ≤ sn ∧ aa = .int .i64 (x : Int) ∧ bb = .int .i64 (y : Int) ∧ Hid (x = escN salt es bad m k) ∧ Hid (y = badN es bad k) ∧ x ≤ 12 * k ∧ y ≤ 12 * k ∧ Hid (Ex w5.heap.size none w5 wr)) (fun _ _ kk _ _ _ => sn - (intOf kk).toNat)
      case atStart => exact ⟨0, 0, 0, rfl, by omega, rfl, rfl, Lib.hid rfl, Lib.hid rfl, by omega, by omega, Lib.hid (Ex.refl _ _ _)⟩
      case round =>
        obtain ⟨k, x, y, rfl, hk, rfl, rfl, HX, HY, hx12, hy12, HEX⟩ := hrel
        obtain ⟨wo, hwo⟩ : ∃ wo : World, wo = wr := ⟨_, rfl⟩
        subst hwo
        have HEW : Hid (Ex w3.heap.size (some p) w3 wo) := Lib.hid (HE5.out.trans HEX.out hz5 (by simp))
        have hzo : w3.heap.size ≤ wo.heap.size := HEW.out.size
        have hzo5 : w5.heap.size ≤ wo.heap.size := HEX.out.size
        obtain ⟨c0, c1, c2⟩ := HC.out _ HEW.out
        by_cases hlt : k < sn
        · have hltI : (k : Int) < (sn : Int) := by omega
          have hltd : decide (k < sn) = true := decide_eq_true hlt
          have HHB : Hid (∀ (q : Int) w', Ex w5.heap.size none w5 w' → Calls Try.prog 23 #[.slice bo bn bc, .int .i64 q] w' fun e w'' => e = .returned (.bool (hasI bad q)) ∧ w' = w'') := Lib.hid (fun q w' h => has11_any _ bad q w' ⟨bo, bc, by rw [HBL.out], HBI.out.keep h (Nat.le_refl _) (by simp)⟩ (by rw [HBL.out]; omega))
          cases hb : hasI bad (k : Int) with
          | true =>
            have HX2 : Hid (x = escN salt es bad m (k + 1)) := Lib.hid (by rw [escN, if_pos hb, HX.out]; rfl)
            have HY2 : Hid (y = badN es bad (k + 1)) := Lib.hid (by rw [badN, if_pos hb, HY.out]; rfl)
            go_wp2_with (first
              | (go_at_call 23; refine (HHB.out _ _ HEX.out).mono ?_; rw [hb]; rintro e w' ⟨rfl, rfl⟩)
              | fail)
            go_roundw
            case rel => exact ⟨k + 1, x, y, by go_num, by omega, rfl, rfl, HX2, HY2, by omega, by omega, HEX⟩
            case measure => simp [intOf] <;> omega
          | false =>
            obtain ⟨z, hz⟩ : ∃ z : Nat, z = escV salt es bad (k : Int) (ln : Int) := ⟨_, rfl⟩
            have hz12 : z ≤ 12 := by rw [hz]; exact escV_le HGT.out _ _ _
            have HX2 : Hid (x + z = escN salt es bad m (k + 1)) := Lib.hid (by
              rw [escN, if_neg (by rw [hb]; simp), hz, HX.out, show (ln : Int) = (m : Int) + 1 by have := HLN.out; omega])
            have HZ := Lib.hid hz
            have hwx : IntKind.i64.wrap ((x : Int) + (z : Int)) = ((x + z : Nat) : Int) := by rw [IntWalk.i64_in _ (by omega)]; omega
            clear hz
            obtain ⟨x2, hx2⟩ : ∃ x2, x2 = x + z := ⟨_, rfl⟩
            rw [← hx2] at hwx
            have hx2b : x2 ≤ 12 * (k + 1) := by omega
            have HX3 : Hid (x2 = escN salt es bad m (k + 1)) := Lib.hid (by rw [hx2]; exact HX2.out)
            clear hx2
            go_upto_region 15 with (first
              | (go_at_call 23; refine (HHB.out _ _ HEX.out).mono ?_; rw [hb]; rintro e w' ⟨rfl, rfl⟩)
              | (go_at_call 24
                 refine (escapes_any (sn : Int) eo en ec go gn gc es salt (k : Int) (ln : Int) bo bn bc bad wo (HXW.out _ HEW.out) HN.out HGT.out (HBI.out.keep HEX.out (Nat.le_refl _) (by simp)) HBL.out (by omega)).mono ?_
                 rw [← HZ.out]
                 rintro e w6 ⟨rfl, hex⟩
                 have HE6 : Hid (Ex w3.heap.size (some p) w3 w6) := Lib.hid (HEW.out.trans hex hzo (by simp))
                 have HE56 : Hid (Ex w5.heap.size none w5 w6) := Lib.hid (HEX.out.trans hex hzo5 (by simp))
                 have hz6 : w3.heap.size ≤ w6.heap.size := HE6.out.size
                 have hz56 : w5.heap.size ≤ w6.heap.size := HE56.out.size
                 clear hex c0 c1 c2
                 obtain ⟨c0, c1, c2⟩ := HC.out _ HE6.out)
              | (go_at_call 25
                 refine (nb20_any (sn : Int) eo en ec go gn gc es (k : Int) w6 (HXW.out _ HE6.out) HN.out (by omega)).mono ?_
                 rintro e w7 ⟨no, nc, nn, rfl, hnn, hown, hex⟩
                 have HNN := Lib.hid hnn
                 have HNI := Lib.hid hown.ints
                 have HE7 : Hid (Ex w3.heap.size (some p) w3 w7) := Lib.hid (HE6.out.trans hex hz6 (by simp))
                 have HE57 : Hid (Ex w5.heap.size none w5 w7) := Lib.hid (HE56.out.trans hex hz56 (by simp))
                 have hz57 : w5.heap.size ≤ w7.heap.size := HE57.out.size
                 have hnn12 : nn ≤ 12 := (by rw [← hnn]; exact HGT.out.few (k : Int))
                 clear hnn hown hex c0 c1 c2)
              | fail)
            clear hwx
            go_loopw [10, 13] (fun bb ii wr => ∃ (i y2 : Nat), ii = .int .i64 (i : Int) ∧ i ≤ nn ∧ bb = .int .i64 (y2 : Int) ∧ Hid (y2 = y + ((nbI es (k : Int)).take i).countP fun x => hasI bad x) ∧ y2 ≤ y + i ∧ Hid (Ex w7.heap.size none w7 wr)) (fun _ ii _ => nn - (intOf ii).toNat)
            case atStart => exact ⟨0, y, rfl, by omega, rfl, Lib.hid (by simp), by omega, Lib.hid (Ex.refl _ _ _)⟩
            case round =>
              obtain ⟨i, y2, rfl, hi, rfl, HY3, hy3, HEX2⟩ := hrel
              have HEW2 : Hid (Ex w5.heap.size none w5 wr) := Lib.hid (HE57.out.trans HEX2.out hz57 (by simp))
              by_cases hil : i < nn
              · have hilI : (i : Int) < (nn : Int) := by omega
                have hild : decide (i < nn) = true := decide_eq_true hil
                obtain ⟨b, off, e0, hno, cy, HE0⟩ := (HNI.out.keep HEX2.out (Nat.le_refl _) (by simp)).get i (by rw [HNN.out]; exact hil)
                subst hno
                have hup := badI_up (bad := bad) (by rw [HNN.out]; exact hil) HE0.out
                cases hb2 : hasI bad e0 with
                | true =>
                  have HY4 : Hid (y2 + 1 = y + ((nbI es (k : Int)).take (i + 1)).countP fun x => hasI bad x) := Lib.hid (by rw [hup, hb2, HY3.out]; simp; omega)
                  clear hup
                  go_wp2_with (first
                    | (go_at_call 23; refine (HHB.out _ _ HEW2.out).mono ?_; rw [hb2]; rintro e w' ⟨rfl, rfl⟩)
                    | fail)
                  go_roundw
                  case rel => exact ⟨i + 1, y2 + 1, by go_num, by omega, by go_num, HY4, by omega, HEX2⟩
                  case measure => simp [intOf] <;> omega
                | false =>
                  have HY4 : Hid (y2 = y + ((nbI es (k : Int)).take (i + 1)).countP fun x => hasI bad x) := Lib.hid (by rw [hup, hb2, HY3.out]; simp)
                  clear hup
                  go_wp2_with (first
                    | (go_at_call 23; refine (HHB.out _ _ HEW2.out).mono ?_; rw [hb2]; rintro e w' ⟨rfl, rfl⟩)
                    | fail)
                  go_roundw
                  case rel => exact ⟨i + 1, y2, by go_num, by omega, rfl, HY4, by omega, HEX2⟩
                  case measure => simp [intOf] <;> omega
              · have hilI : ¬ (i : Int) < (nn : Int) := by omega
                have hild : decide (i < nn) = false := decide_eq_false hil
                have HY4 : Hid (y2 = badN es bad (k + 1)) := Lib.hid (by
                  have h := HY3.out
                  rw [List.take_of_length_le (by rw [HNN.out]; omega)] at h
                  rw [badN, if_neg (by rw [hb]; simp), ← HY.out]
                  exact h)
                go_wp2
                go_roundw
                case rel => exact ⟨k + 1, x2, y2, by go_num, by omega, rfl, rfl, HX3, HY4, by omega, by omega, HEW2⟩
                case measure => simp [intOf] <;> omega
        · have hltI : ¬ (k : Int) < (sn : Int) := by omega
          have hltd : decide (k < sn) = false := decide_eq_false hlt
          obtain ⟨pz, hpz⟩ : ∃ pz : Nat, pz = ln * y := ⟨_, rfl⟩
          have hle : x ≤ pz := by
            have h := esc_bound_nb HGT.out bad (m := m) (by omega) sn (fun a b h => HGR.out.rng a b h)
            rw [show sn = k by omega, ← HX.out, ← HY.out, ← HLN.out, ← hpz] at h
            exact h
          have hpb : pz ≤ 1000 := by
            have h := Nat.mul_le_mul (show ln ≤ 5 by omega) (show y ≤ 108 by omega)
            rw [← hpz] at h
            omega
          have hwp : IntKind.i64.wrap ((ln : Int) * (y : Int)) = (pz : Int) := by
            rw [show (ln : Int) * (y : Int) = (pz : Int) by rw [hpz]; exact (Int.natCast_mul _ _).symm]
            exact IntWalk.i64_in _ (by omega)
          have hled : decide ((x : Int) ≤ (pz : Int)) = true := decide_eq_true (by omega)
          have hledN : decide (x ≤ pz) = true := decide_eq_true hle
          clear hpz
          go_wp2_with (first | (go_at_call 16; refine (awake20_any _).mono ?_; rintro e w9 ⟨rfl, hex9⟩) | fail)
          go_ret
          exact ⟨rfl, (((HE3.out.trans ((HEW.out.trans hex9 hzo (by simp)).mono (show w.heap.size ≤ w3.heap.size by omega) |>.above (by omega)) (Nat.le_refl _) (by simp)))).below⟩
    · have hsI : decide ((60 : Int) < (salt.size : Int)) = true := decide_eq_true (by omega)
      have hsN : decide (60 < salt.size) = true := decide_eq_true (by omega)
      go_enter Try.func5, Try.ntmps5
      go_wp2_with (first
        | (go_at_call 15; refine (madeLight_any _ _ _ _).mono ?_; rw [hmd]; rintro e w' ⟨rfl, rfl⟩)
        | (go_at_call 16; refine (awake20_any _).mono ?_; rintro e w1 ⟨rfl, hex⟩)
        | fail)
      go_ret
      exact ⟨rfl, hex.below⟩
  · have hmd : decide ((L.length : Int) ≤ 400) = false := decide_eq_false (by omega)
    go_enter Try.func5, Try.ntmps5
    go_wp2_with (first
      | (go_at_call 15; refine (madeLight_any _ _ _ _).mono ?_; rw [hmd]; rintro e w' ⟨rfl, rfl⟩)
      | (go_at_call 16; refine (awake20_any _).mono ?_; rintro e w1 ⟨rfl, hex⟩)
      | fail)
    go_ret
    exact ⟨rfl, hex.below⟩
end Go.Proofs.Ytfllcohnfboccaa
