/- The reference's Meet. No statement of the seat. -/
import Derived.Test.YtfllcohnfboccaaGreatMg21
import Derived.Test.YtfllcohnfboccaaGreatMg07
namespace Go.Proofs.YtfllcohnfboccaaGreat
open Go.RowKit Go.Sort Go.Maps

set_option maxHeartbeats 16000000 in
set_option maxRecDepth 100000 in
theorem meet20_any {P : Nat → Prop} (sz : Int) (eo : Option Addr) (en ec : Nat) (go : Option Addr) (gn gc : Nat) (es : List EdD) (salt : ByteArray) (a b n : Int) (w : World) (h : SlAt edRep P w eo es) (hn : es.length = en) (hG : GraphT salt es) :
    Calls Tryz.prog 48 #[.agg #[.int .i64 sz, .slice eo en ec, .slice go gn gc], .string salt, .int .i64 a, .int .i64 b, .int .i64 n] w fun e w' => e = .returned (.int .i64 (meetV salt es a b n : Nat)) ∧ Ex w.heap.size none w w' := by
  have HX := Lib.hid h
  have HN := Lib.hid hn
  have HG := Lib.hid hG
  have hen : en ≤ 1000 := by rw [← hn]; exact hG.len
  clear h hn hG
  go_enter Tryz.func48, Tryz.ntmps48
  go_upto_region 1 with (fail)
  obtain ⟨w1, hw1⟩ : ∃ w1 : World, w1 = w.alloc (.cells #[.int .i64 sz, .slice eo en ec, .slice go gn gc] 64) := ⟨_, rfl⟩
  have HE1 : Hid (Ex w.heap.size none w w1) := Lib.hid (by rw [hw1]; exact Ex.new _ _)
  have hz1 : w.heap.size + 1 ≤ w1.heap.size := by rw [hw1]; simp
  have HC : Hid (∀ w', Ex w1.heap.size none w1 w' → w'.cell? ⟨w.heap.size, 0, none⟩ = some (.int .i64 sz) ∧ w'.cell? ⟨w.heap.size, 1, none⟩ = some (.slice eo en ec) ∧ w'.cell? ⟨w.heap.size, 2, none⟩ = some (.slice go gn gc)) := Lib.hid (fun w' h => by
    have k : w'.heap[w.heap.size]? = some (.cells #[.int .i64 sz, .slice eo en ec, .slice go gn gc] 64 (0, 0)) := (h.block w.heap.size (by omega) (by simp)).trans (by rw [hw1]; exact heap_alloc_new _ _)
    refine ⟨?_, ?_, ?_⟩ <;> (rw [cell_of_row _ _ _ _ _ _ k]; rfl))
  have HXW : Hid (∀ w', Ex w1.heap.size none w1 w' → SlAt edRep P w' eo es) := Lib.hid (fun w' h => HX.out.keep (by decide) fun b _ hb => (h.block b (by omega) (by simp)).trans (HE1.out.block b hb (by simp)))
  rw [← hw1]
  clear hw1
  obtain ⟨c0, c1, c2⟩ := HC.out _ (Ex.refl _ _ w1)
  by_cases h1 : n < 1
  · have d1 : decide (n < 1) = true := decide_eq_true h1
    have HV : Hid (meetV salt es a b n = 0) := Lib.hid (by unfold meetV; rw [if_neg (fun h => by have := lenOK_iff.1 h; omega)])
    go_wp2
    go_ret
    exact ⟨by rw [HV.out]; rfl, HE1.out⟩
  · have d1 : decide (n < 1) = false := decide_eq_false h1
    by_cases h2 : 100 < n
    · have d2 : decide (100 < n) = true := decide_eq_true h2
      have HV : Hid (meetV salt es a b n = 0) := Lib.hid (by unfold meetV; rw [if_neg (fun h => by have := lenOK_iff.1 h; omega)])
      go_wp2
      go_ret
      exact ⟨by rw [HV.out]; rfl, HE1.out⟩
    · have d2 : decide (100 < n) = false := decide_eq_false h2
      obtain ⟨m, hm⟩ : ∃ m : Nat, n = (m : Int) + 1 := ⟨(n - 1).toNat, by omega⟩
      obtain ⟨ln, hln⟩ : ∃ ln : Nat, n = (ln : Int) := ⟨n.toNat, by omega⟩
      have hm99 : m ≤ 99 := by omega
      have HLN : Hid (ln = m + 1) := Lib.hid (by omega)
      have HNM : Hid (n = (m : Int) + 1) := Lib.hid hm
      have hln100 : ln ≤ 100 := by omega
      have HMV : Hid (meetV salt es a b n = meetL (tabI salt es) a m (endsL (tabI salt es) b m (nbI es b)) (nbI es a)) := Lib.hid (by
        unfold meetV
        rw [if_pos (lenOK_iff.2 (by omega)), hm, show ((m : Int) + 1).toNat - 1 = m by omega])
      clear hm
      subst hln
      go_upto_region 3 with (fail)
      go_region_held3 (fun w' => w'.cell? ⟨w.heap.size, 0, none⟩ = some (.int .i64 sz) ∧ w'.cell? ⟨w.heap.size, 1, none⟩ = some (.slice eo en ec) ∧ w'.cell? ⟨w.heap.size, 2, none⟩ = some (.slice go gn gc))
        (first | exact HC.out _ HEw3.out | exact HC.out _ HEw2.out | exact HC.out _ (Ex.refl _ _ w1).drew | exact HC.out _ (Ex.refl _ _ w1) | fail)
        (first
          | (go_at_call 38
             (fail_if_success (first | have _x := HNN2 | fail))
             refine (nb20_any sz eo en ec go gn gc es a _ (HXW.out _ (Ex.refl _ none w1).drew) HN.out (by omega)).mono ?_
             rintro e w2 ⟨no2, nc2, nn2, rfl, hnn, hown, hex⟩
             have HNN2 := Lib.hid hnn
             have HNI2 := Lib.hid hown.ints
             have HEw2 : Hid (Ex w1.heap.size none w1 w2) := Lib.hid (((Ex.refl _ none w1).drew).trans hex (Nat.le_refl _) (by simp))
             have hzw2 : w1.heap.size ≤ w2.heap.size := HEw2.out.size
             have hnn2 : nn2 ≤ 12 := (by rw [← hnn]; exact HG.out.few _)
             clear hnn hown hex)
          | (go_at_call 38
             refine (nb20_any sz eo en ec go gn gc es b w2 (HXW.out _ HEw2.out) HN.out (by omega)).mono ?_
             rintro e w3 ⟨no3, nc3, nn3, rfl, hnn, hown, hex⟩
             have HNN3 := Lib.hid hnn
             have HNI3 := Lib.hid hown.ints
             have HEw3 : Hid (Ex w1.heap.size none w1 w3) := Lib.hid ((HEw2.out).trans hex hzw2 (by simp))
             have hzw3 : w1.heap.size ≤ w3.heap.size := HEw3.out.size
             have hnn3 : nn3 ≤ 12 := (by rw [← hnn]; exact HG.out.few _)
             have HNI2b : Hid (IntsAt w3 no2 (nbI es a)) := Lib.hid (HNI2.out.keep hex (Nat.le_refl _) (by simp))
             clear hnn hown hex)
          | fail)
      clear c0 c1 c2
      obtain ⟨B, hB⟩ : ∃ B, B = endsL (tabI salt es) b m (nbI es b) := ⟨_, rfl⟩
      have HB := Lib.hid hB
      go_upto_region 6 with (fail)
      go_loopw [13, 14, 15, 16, 17] (fun o i u1 u2 u3 wr => ∃ (k x : Nat), i = .int .i64 (k : Int) ∧ k ≤ nn2 ∧ o = .int .i64 (x : Int) ∧ Hid (x = meetL (tabI salt es) a m B ((nbI es a).take k)) ∧ x ≤ k ∧ Hid (Ex w3.heap.size none w3 wr)) (fun _ i _ _ _ _ => nn2 - (intOf i).toNat)
      case atStart => exact ⟨0, 0, rfl, by omega, rfl, Lib.hid rfl, by omega, Lib.hid (Ex.refl _ _ _)⟩
      case round =>
        obtain ⟨i, x, rfl, hi, rfl, HX2, hxi, HEX⟩ := hrel
        obtain ⟨wo, hwo⟩ : ∃ wo : World, wo = wr := ⟨_, rfl⟩
        subst hwo
        have hsz : w3.heap.size ≤ wo.heap.size := HEX.out.size
        have HEW : Hid (Ex w1.heap.size none w1 wo) := Lib.hid (HEw3.out.trans HEX.out hzw3 (by simp))
        have hzr : w1.heap.size ≤ wo.heap.size := HEW.out.size
        obtain ⟨c0, c1, c2⟩ := HC.out _ HEW.out
        by_cases hlt : i < nn2
        · have hltI : (i : Int) < (nn2 : Int) := by omega
          have hltd : decide (i < nn2) = true := decide_eq_true hlt
          obtain ⟨bb, off, y, hno, cy, HY⟩ := (HNI2b.out.keep HEX.out (Nat.le_refl _) (by simp)).get i (by rw [HNN2.out]; exact hlt)
          subst hno
          have HYM : Hid (y ∈ nbI es a) := Lib.hid (by rw [← HY.out]; exact getD_mem (by rw [HNN2.out]; exact hlt))
          have HUP : Hid (meetL (tabI salt es) a m B ((nbI es a).take (i + 1)) = x + if decide (prI (tabI salt es) (a, y) m ∈ B) = true then 1 else 0) := Lib.hid (by
            rw [meetL_up (x := y) (by rw [List.getElem?_eq_getElem (by rw [HNN2.out]; exact hlt), ← HY.out, getD_eq (by rw [HNN2.out]; exact hlt)]), ← HX2.out])
          have HRT : Hid (routeL salt es a y (ln : Int) = rtI (tabI salt es) (a, y) m) := Lib.hid (by
            rw [HNM.out]; exact routeL_eq hm99 HYM.out)
          have HQ8 : Hid (∀ w', Ex wo.heap.size none wo w' → w'.cell? ⟨w.heap.size, 0, none⟩ = some (.int .i64 sz) ∧ w'.cell? ⟨w.heap.size, 1, none⟩ = some (.slice eo en ec) ∧ w'.cell? ⟨w.heap.size, 2, none⟩ = some (.slice go gn gc) ∧ w'.cell? ⟨bb, off + i, none⟩ = some (.int .i64 y)) := Lib.hid (fun w' h => by
            obtain ⟨z0, z1, z2⟩ := HC.out _ (HEW.out.trans h hzr (by simp))
            exact ⟨z0, z1, z2, (World.cell?_of_block (w := wo) (h.block bb (World.block_lt_of_cell? wo _ cy) (by simp))).trans cy⟩)
          go_upto_region 8 with (fail)
          go_region_held3 (fun w' => w'.cell? ⟨w.heap.size, 0, none⟩ = some (.int .i64 sz) ∧ w'.cell? ⟨w.heap.size, 1, none⟩ = some (.slice eo en ec) ∧ w'.cell? ⟨w.heap.size, 2, none⟩ = some (.slice go gn gc) ∧ w'.cell? ⟨bb, off + i, none⟩ = some (.int .i64 y)) (first | exact HQ8.out _ HEw4.out | exact HQ8.out _ (Ex.refl _ _ wo).drew | exact HQ8.out _ (Ex.refl _ _ wo) | fail)
            (first
              | (go_at_call 41
                 refine (route20_any sz eo en ec go gn gc es salt a y (ln : Int) _ (HXW.out _ (HEW.out).drew) HN.out HG.out).mono ?_
                 rw [HRT.out]
                 rintro e w4 ⟨row4, rcw4, qw4, rfl, hq, hri, hex⟩
                 have HQw4 : Hid (qw4 = ln + 1) := Lib.hid (by rw [rtI_len] at hq; have := HLN.out; omega)
                 have HRw4 := Lib.hid hri.ints
                 have HEw4 : Hid (Ex wo.heap.size none wo w4) := Lib.hid ((Ex.refl _ none wo).drew.trans hex (Nat.le_refl _) (by simp))
                 clear hq hri hex)
              | fail)
          clear c0 c1 c2 cy
          have hz4 : wo.heap.size ≤ w4.heap.size := HEw4.out.size
          have HEW4 : Hid (Ex w3.heap.size none w3 w4) := Lib.hid (HEX.out.trans HEw4.out hsz (by simp))
          have hz34 : w3.heap.size ≤ w4.heap.size := HEW4.out.size
          have HE14 : Hid (Ex w1.heap.size none w1 w4) := Lib.hid (HEw3.out.trans HEW4.out hzw3 (by simp))
          obtain ⟨e1, he1⟩ : ∃ e1, e1 = (prI (tabI salt es) (a, y) m).1 := ⟨_, rfl⟩
          obtain ⟨e2, he2⟩ : ∃ e2, e2 = (prI (tabI salt es) (a, y) m).2 := ⟨_, rfl⟩
          have HPR : Hid (prI (tabI salt es) (a, y) m = (e1, e2)) := Lib.hid (by rw [he1, he2])
          have hlq : ln < qw4 := by have := HQw4.out; omega
          have hmq : m < qw4 := by have := HQw4.out; have := HLN.out; omega
          have hlqI : (ln : Int) < (qw4 : Int) := by omega
          have hmqI : (m : Int) < (qw4 : Int) := by omega
          have hwl : IntKind.i64.wrap ((ln : Int) - 1) = (m : Int) := by have := HLN.out; rw [IntWalk.i64_in _ (by omega)]; omega
          have HRL : Hid ((rtI (tabI salt es) (a, y) m).length = qw4) := Lib.hid (by rw [rtI_len, HQw4.out, HLN.out])
          obtain ⟨rb, roff, hro, hcell⟩ := HRw4.out 0 (by rw [HRL.out]; omega)
          subst hro
          have hrm : w4.cell? ⟨rb, roff + m, none⟩ = some (.int .i64 e1) := by rw [hcell m (by rw [HRL.out]; exact hmq), rtI_fst _ _ (Nat.le_refl m), he1]
          have hrl : w4.cell? ⟨rb, roff + ln, none⟩ = some (.int .i64 e2) := by rw [hcell ln (by rw [HRL.out]; exact hlq), HLN.out, rtI_snd _ _ (Nat.le_refl m), he2]
          have HRC : Hid (∀ w', Ex w4.heap.size none w4 w' → w'.cell? ⟨rb, roff + m, none⟩ = some (.int .i64 e1) ∧ w'.cell? ⟨rb, roff + ln, none⟩ = some (.int .i64 e2)) := Lib.hid (fun w' h => by
            have hb := h.block rb (World.block_lt_of_cell? w4 _ hrm) (by simp)
            exact ⟨(World.cell?_of_block (w := w4) (a := ⟨rb, roff + m, none⟩) hb).trans hrm, (World.cell?_of_block (w := w4) (a := ⟨rb, roff + ln, none⟩) hb).trans hrl⟩)
          clear hcell he1 he2 hrm hrl
          go_upto_region 10 with (fail)
          go_loopw [13, 16, 17] (fun o kk u1 wr => ∃ k : Nat, kk = .int .i64 (k : Int) ∧ k ≤ nn3 ∧ o = .int .i64 (x : Int) ∧ Hid ((e1, e2) ∉ endsL (tabI salt es) b m ((nbI es b).take k)) ∧ Hid (Ex w4.heap.size none w4 wr)) (fun _ kk _ _ => nn3 - (intOf kk).toNat)
          case atStart => exact ⟨0, rfl, by omega, rfl, Lib.hid (fun h => by simp [endsL] at h), Lib.hid (Ex.refl _ _ _)⟩
          case round =>
            obtain ⟨k, rfl, hk, rfl, HNO, HEK⟩ := hrel
            have hzk : w4.heap.size ≤ wr.heap.size := HEK.out.size
            have HE1K : Hid (Ex w1.heap.size none w1 wr) := Lib.hid (HE14.out.trans HEK.out (by omega) (by simp))
            have hz1k : w1.heap.size ≤ wr.heap.size := HE1K.out.size
            have HE3K : Hid (Ex w3.heap.size none w3 wr) := Lib.hid (HEW4.out.trans HEK.out hz34 (by simp))
            obtain ⟨c0, c1, c2⟩ := HC.out _ HE1K.out
            by_cases hkn : k < nn3
            · have hknI : (k : Int) < (nn3 : Int) := by omega
              have hknd : decide (k < nn3) = true := decide_eq_true hkn
              obtain ⟨b3, off3, z, hno3, cz, HZ⟩ := (HNI3.out.keep HE3K.out (Nat.le_refl _) (by simp)).get k (by rw [HNN3.out]; exact hkn)
              subst hno3
              have HZM : Hid (z ∈ nbI es b) := Lib.hid (by rw [← HZ.out]; exact getD_mem (by rw [HNN3.out]; exact hkn))
              have HUPB : Hid (endsL (tabI salt es) b m ((nbI es b).take (k + 1)) = endsL (tabI salt es) b m ((nbI es b).take k) ++ [prI (tabI salt es) (b, z) m]) := Lib.hid (by
                have e : (nbI es b).take (k + 1) = (nbI es b).take k ++ [z] := take_getD _ (by rw [HNN3.out]; exact hkn) HZ.out
                unfold endsL
                rw [e, List.map_append]
                rfl)
              have HIN : Hid (prI (tabI salt es) (b, z) m ∈ B) := Lib.hid (by rw [HB.out]; exact List.mem_map.2 ⟨z, HZM.out, rfl⟩)
              have HRT2 : Hid (routeL salt es b z (ln : Int) = rtI (tabI salt es) (b, z) m) := Lib.hid (by
                rw [HNM.out]; exact routeL_eq hm99 HZM.out)
              have HQ12 : Hid (∀ w', Ex wr.heap.size none wr w' → w'.cell? ⟨w.heap.size, 0, none⟩ = some (.int .i64 sz) ∧ w'.cell? ⟨w.heap.size, 1, none⟩ = some (.slice eo en ec) ∧ w'.cell? ⟨w.heap.size, 2, none⟩ = some (.slice go gn gc) ∧ w'.cell? ⟨b3, off3 + k, none⟩ = some (.int .i64 z)) := Lib.hid (fun w' h => by
                obtain ⟨z0, z1, z2⟩ := HC.out _ (HE1K.out.trans h hz1k (by simp))
                exact ⟨z0, z1, z2, (World.cell?_of_block (w := wr) (h.block b3 (World.block_lt_of_cell? wr _ cz) (by simp))).trans cz⟩)
              go_upto_region 12 with (fail)
              go_region_held3 (fun w' => w'.cell? ⟨w.heap.size, 0, none⟩ = some (.int .i64 sz) ∧ w'.cell? ⟨w.heap.size, 1, none⟩ = some (.slice eo en ec) ∧ w'.cell? ⟨w.heap.size, 2, none⟩ = some (.slice go gn gc) ∧ w'.cell? ⟨b3, off3 + k, none⟩ = some (.int .i64 z)) (first | exact HQ12.out _ HEw5.out | exact HQ12.out _ (Ex.refl _ _ wr).drew | exact HQ12.out _ (Ex.refl _ _ wr) | fail)
                (first
                  | (go_at_call 41
                     refine (route20_any sz eo en ec go gn gc es salt b z (ln : Int) _ (HXW.out _ (HE1K.out).drew) HN.out HG.out).mono ?_
                     rw [HRT2.out]
                     rintro e w5 ⟨row5, rcw5, qw5, rfl, hq, hri, hex⟩
                     have HQw5 : Hid (qw5 = ln + 1) := Lib.hid (by rw [rtI_len] at hq; have := HLN.out; omega)
                     have HRw5 := Lib.hid hri.ints
                     have HEw5 : Hid (Ex wr.heap.size none wr w5) := Lib.hid ((Ex.refl _ none wr).drew.trans hex (Nat.le_refl _) (by simp))
                     clear hq hri hex)
                  | fail)
              clear c0 c1 c2 cz
              have hz5 : wr.heap.size ≤ w5.heap.size := HEw5.out.size
              have HEK5 : Hid (Ex w4.heap.size none w4 w5) := Lib.hid (HEK.out.trans HEw5.out hzk (by simp))
              obtain ⟨f1, hf1⟩ : ∃ f1, f1 = (prI (tabI salt es) (b, z) m).1 := ⟨_, rfl⟩
              obtain ⟨f2, hf2⟩ : ∃ f2, f2 = (prI (tabI salt es) (b, z) m).2 := ⟨_, rfl⟩
              have HPR2 : Hid (prI (tabI salt es) (b, z) m = (f1, f2)) := Lib.hid (by rw [hf1, hf2])
              have hlq5 : ln < qw5 := by have := HQw5.out; omega
              have hmq5 : m < qw5 := by have := HQw5.out; have := HLN.out; omega
              have hlq5I : (ln : Int) < (qw5 : Int) := by omega
              have hmq5I : (m : Int) < (qw5 : Int) := by omega
              have HRL5 : Hid ((rtI (tabI salt es) (b, z) m).length = qw5) := Lib.hid (by rw [rtI_len, HQw5.out, HLN.out])
              obtain ⟨sb, soff, hso, hcell⟩ := HRw5.out 0 (by rw [HRL5.out]; omega)
              subst hso
              have hsm : w5.cell? ⟨sb, soff + m, none⟩ = some (.int .i64 f1) := by rw [hcell m (by rw [HRL5.out]; exact hmq5), rtI_fst _ _ (Nat.le_refl m), hf1]
              have hsl : w5.cell? ⟨sb, soff + ln, none⟩ = some (.int .i64 f2) := by rw [hcell ln (by rw [HRL5.out]; exact hlq5), HLN.out, rtI_snd _ _ (Nat.le_refl m), hf2]
              obtain ⟨hrm, hrl⟩ := HRC.out _ HEK5.out
              clear hcell hf1 hf2
              go_upto_region 13 with (fail)
              by_cases hq2 : e2 = f2
              · have hd2 : (e2 == f2) = true := by simpa using hq2
                by_cases hq1 : e1 = f1
                · have hd1 : (e1 == f1) = true := by simpa using hq1
                  have HHIT : Hid (x + 1 = meetL (tabI salt es) a m B ((nbI es a).take (i + 1))) := Lib.hid (by
                    rw [HUP.out, HPR.out, hq1, hq2, ← HPR2.out, if_pos (decide_eq_true HIN.out)])
                  clear hq1 hq2
                  go_quiet (fail)
                  go_wp2
                  go_roundw
                  case rel => exact ⟨i + 1, x + 1, by go_num, by omega, by go_num, HHIT, by omega, Lib.hid (HEW4.out.trans HEK5.out hz34 (by simp)).drewN⟩
                  case measure => simp [intOf] <;> omega
                · have hd1 : (e1 == f1) = false := by simpa using hq1
                  have HNO2 : Hid ((e1, e2) ∉ endsL (tabI salt es) b m ((nbI es b).take (k + 1))) := Lib.hid (by
                    rw [HUPB.out, List.mem_append, List.mem_singleton, HPR2.out]
                    rintro (h | h)
                    · exact HNO.out h
                    · exact hq1 (congrArg Prod.fst h))
                  clear hq1 hq2
                  go_quiet (fail)
                  go_wp2
                  go_roundw
                  case rel => exact ⟨k + 1, by go_num, by omega, rfl, HNO2, Lib.hid HEK5.out.drewN⟩
                  case measure => simp [intOf] <;> omega
              · have hd2 : (e2 == f2) = false := by simpa using hq2
                have HNO2 : Hid ((e1, e2) ∉ endsL (tabI salt es) b m ((nbI es b).take (k + 1))) := Lib.hid (by
                  rw [HUPB.out, List.mem_append, List.mem_singleton, HPR2.out]
                  rintro (h | h)
                  · exact HNO.out h
                  · exact hq2 (congrArg Prod.snd h))
                clear hq2
                go_quiet (fail)
                go_wp2
                go_roundw
                case rel => exact ⟨k + 1, by go_num, by omega, rfl, HNO2, Lib.hid HEK5.out.drewN⟩
                case measure => simp [intOf] <;> omega
            · have hknI : ¬ (k : Int) < (nn3 : Int) := by omega
              have hknd : decide (k < nn3) = false := decide_eq_false hkn
              have HMISS : Hid (x = meetL (tabI salt es) a m B ((nbI es a).take (i + 1))) := Lib.hid (by
                have h := HNO.out
                rw [List.take_of_length_le (by rw [HNN3.out]; omega), ← HB.out] at h
                rw [HUP.out, HPR.out, if_neg (by simp [h]), Nat.add_zero])
              go_wp2
              go_roundw
              case rel => exact ⟨i + 1, x, by go_num, by omega, rfl, HMISS, by omega, HE3K⟩
              case measure => simp [intOf] <;> omega
        · have hltI : ¬ (i : Int) < (nn2 : Int) := by omega
          have hltd : decide (i < nn2) = false := decide_eq_false hlt
          have HV : Hid (meetV salt es a b (ln : Int) = x) := Lib.hid (by
            rw [HMV.out, HX2.out, List.take_of_length_le (by rw [HNN2.out]; omega), HB.out])
          go_wp2
          go_ret
          exact ⟨by rw [HV.out]; rfl, HE1.out.trans HEW.out (by omega) (by simp)⟩
end Go.Proofs.YtfllcohnfboccaaGreat
