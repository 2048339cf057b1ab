/- RoutesCover: the walk. No statement of the seat. -/
import Derived.Test.YtfllcohnfboccaaRoutesWG
namespace Go.Proofs.Ytfllcohnfboccaa
open Go.RowKit Go.Sort

set_option maxHeartbeats 16000000 in
set_option maxRecDepth 100000 in
theorem routesCover_walk (v : Value) (L : List Int) (salt : ByteArray) (w : World) (hv : Ints w v L) (hm0 : L.length ≤ 9223372036854775807) (_hs0 : salt.size ≤ maxLen) :
    Calls Try.prog 6 #[v, .string salt] w fun e w' => e = .returned (.bool true) ∧ Below w.heap.size w w' := by
  obtain ⟨ao, cap, rfl, hx⟩ := hv
  have HX := Lib.hid hx
  clear hx
  by_cases hm : L.length ≤ 400
  · have hmd : decide ((L.length : Int) ≤ 400) = true := decide_eq_true (by omega)
    by_cases hs : salt.size ≤ 60
    · have hsI : decide ((60 : Int) < (salt.size : Int)) = false := decide_eq_false (by omega)
      have hsN : decide (60 < salt.size) = false := decide_eq_false (by omega)
      go_enter Try.func6, Try.ntmps6
      go_upto_region 5 with (first
        | (go_at_call 15; refine (madeLight_any _ _ _ _).mono ?_; rw [hmd]; rintro e w' ⟨rfl, rfl⟩)
        | (go_at_call 17
           refine (madeRoll_any (.slice ao L.length cap) L w ⟨ao, cap, rfl, HX.out⟩ (by omega)).mono ?_
           rintro e w1 ⟨p, rfl, hd, hp1, hp2, hex⟩
           have HD1 : Hid (DiceOK (p + 1) w1 p) := Lib.hid ⟨_, hd⟩
           have HE1 := Lib.hid hex
           have hz1 : w.heap.size ≤ w1.heap.size := hex.size
           clear hd hex)
        | (go_at_call 18
           refine (graph_w (p + 1) p w1 HD1.out hp2).mono ?_
           rintro e w2 ⟨sn, eo, en, ec, go, gn, gc, es, gone, rfl, ⟨hs2, hs9⟩, ⟨hen, hen22, hec⟩, hG, hsl, hd, hex⟩
           have HN := Lib.hid hen
           have HGR := Lib.hid hG
           have HSL := Lib.hid hsl
           have HD2 := Lib.hid hd
           have HE2 := Lib.hid hex
           have hz2 : w1.heap.size ≤ w2.heap.size := hex.size
           clear hen hG hsl hd hex)
        | fail)
      obtain ⟨w3, hw3⟩ : ∃ w3 : World, w3 = w2.alloc (.cells #[.int .i64 (sn : Int), .slice eo en ec, .slice go gn gc] 45) := ⟨_, rfl⟩
      have HE23 : Hid (Ex w2.heap.size none w2 w3) := Lib.hid (by rw [hw3]; exact Ex.new _ _)
      have hz3 : w2.heap.size + 1 ≤ w3.heap.size := by rw [hw3]; simp
      have HB3 : Hid (w3.heap[w2.heap.size]? = some (.cells #[.int .i64 (sn : Int), .slice eo en ec, .slice go gn gc] 45 (0, 0))) := Lib.hid (by rw [hw3]; exact heap_alloc_new _ _)
      rw [← hw3]
      clear hw3
      have HD3 : Hid (DiceOK (p + 1) w3 p) := Lib.hid (HD2.out.keep HE23.out (by omega))
      have HE3 : Hid (Ex w.heap.size none w w3) := Lib.hid ((HE1.out.trans ((HE2.out.trans HE23.out hz2 (by simp)).mono (show w.heap.size ≤ w1.heap.size by omega) |>.above (by omega)) (Nat.le_refl _) (by simp)))
      have HC : Hid (∀ w', Ex w3.heap.size (some p) w3 w' → w'.cell? ⟨w2.heap.size, 0, none⟩ = some (.int .i64 (sn : Int)) ∧ w'.cell? ⟨w2.heap.size, 1, none⟩ = some (.slice eo en ec) ∧ w'.cell? ⟨w2.heap.size, 2, none⟩ = some (.slice go gn gc)) := Lib.hid (fun w' h => by
        have k := (h.block w2.heap.size (by omega) (by simp; omega)).trans HB3.out
        refine ⟨?_, ?_, ?_⟩ <;> (rw [cell_of_row _ _ _ _ _ _ k]; rfl))
      have HXW : Hid (∀ w', Ex w3.heap.size (some p) w3 w' → SlAt edRep (fun b => w1.heap.size ≤ b) w' eo es) := Lib.hid (fun w' h => HSL.out.keep (by decide) fun b hb1 hb => (h.block b (by omega) (by simp; omega)).trans (HE23.out.block b hb (by simp)))
      have HGT : Hid (GraphT salt es) := Lib.hid (HGR.out.graphT (by omega) hs9)
      have HRF : Hid (Ex w3.heap.size (some p) w3 w3) := Lib.hid (Ex.refl _ _ _)
      clear HE1 HE2 HE23 HD1 HD2 HSL HX hmd hsI hsN
      obtain ⟨c0, c1, c2⟩ := HC.out _ HRF.out
      obtain ⟨i0, hi0, hy0', hy1', hy2'⟩ := info_parts infoI3
      obtain ⟨qq, hqq⟩ : ∃ qq : Nat, qq = sn * sn := ⟨_, rfl⟩
      have hqq81 : qq ≤ 81 := by rw [hqq]; exact Nat.mul_le_mul hs9 hs9
      have hwm : IntKind.i64.wrap ((sn : Int) * (sn : Int)) = (qq : Int) := by
        rw [show (sn : Int) * (sn : Int) = (qq : Int) by rw [hqq]; exact (Int.natCast_mul _ _).symm]
        exact IntWalk.i64_in _ (by omega)
      have HQQ := Lib.hid hqq
      clear hqq
      go_upto_region 8 with (first
        | (go_at_call 11
           refine (next_w (p + 1) p 6 w3 HD3.out (by omega) (by omega)).mono ?_
           rintro e w4 ⟨m, rfl, hm5, _, hex⟩
           have HE4 := Lib.hid hex
           have hz4 : w3.heap.size ≤ w4.heap.size := hex.size
           obtain ⟨ln, hln⟩ : ∃ ln : Nat, ln = m + 1 := ⟨_, rfl⟩
           have hwl : IntKind.i64.wrap (1 + (m : Int)) = (ln : Int) := (by rw [IntWalk.i64_in _ (by omega)]; omega)
           have hlnb : 1 ≤ ln ∧ ln ≤ 6 := (by omega)
           have HLN : Hid (ln = m + 1) := Lib.hid hln
           clear hln
           clear hex c0 c1 c2
           obtain ⟨c0, c1, c2⟩ := HC.out _ HE4.out)
        | (at_make
           refine wpList_make_full _ rfl (.tmp 38) (.tmp 38) _ rfl w4.heap.size 3 i0 _ 1 Try.underlying22 hi0 hy0' hy1' .i64 .i64 _ _ qq rfl rfl rfl rfl (by rw [hy2']; omega) (by unfold maxLen; omega) (Nat.le_refl _) ?_
           intro w5 hown5 hgr5
           have HH5 : Hid (HoldsK iE 1 w5 w4.heap.size 0 (List.replicate qq (0 : Int)).toArray) := Lib.hid (by
             rw [madeI] at hown5
             exact own_holdsK iE_len hown5)
           have hg5 : w4.heap.size < w5.heap.size := (own_there hown5).2.2.1
           have HE5' : Hid (Ex w3.heap.size (some p) w3 w5) := Lib.hid (HE4.out.trans ((Ex.refl _ none w4).grown hgr5 (Nat.le_refl _) (by simp)) hz4 (by simp))
           clear hown5 hgr5)
        | fail)
      clear hwl hwm c0 c1 c2 hi0 hy0' hy1' hy2'
      go_loopw [9, 10, 11, 12, 13, 14] (fun kk u1 u2 u3 u4 u5 wr => ∃ (k : Nat) (C : List Int), kk = .int .i64 (k : Int) ∧ k ≤ sn ∧ Hid (CntOK sn (endsI (tabI salt es) m (stepsI (nbI es) k)) C) ∧ Hid (HoldsK iE 1 wr w4.heap.size 0 C.toArray) ∧ Hid (Ex w3.heap.size (some p) w3 wr) ∧ w4.heap.size < wr.heap.size) (fun kk _ _ _ _ _ _ => sn - (intOf kk).toNat)
      case atStart => exact ⟨0, List.replicate qq 0, rfl, by omega, Lib.hid (by rw [HQQ.out]; exact CntOK.zero sn), HH5, HE5', hg5⟩
      case round =>
        clear HH5 HE5' hg5
        obtain ⟨k, C, rfl, hk, HCN, HH, HEX, hgo⟩ := hrel
        obtain ⟨wo, hwo⟩ : ∃ wo : World, wo = wr := ⟨_, rfl⟩
        subst hwo
        have hzo : w3.heap.size ≤ wo.heap.size := HEX.out.size
        obtain ⟨c0, c1, c2⟩ := HC.out _ HEX.out
        by_cases hlt : k < sn
        · have hltI : (k : Int) < (sn : Int) := by omega
          have hltd : decide (k < sn) = true := decide_eq_true hlt
          go_upto_region 12 with (first
            | (go_at_call 19
               refine (neigh_any2 (sn : Int) eo en ec go gn gc es (k : Int) wo (HXW.out _ HEX.out) HN.out (by omega)).mono ?_
               rintro e w6 ⟨no, nc, nn, rfl, hnn, hni, hnew, hex⟩
               have HNN := Lib.hid hnn
               have HNI := Lib.hid hni
               have HNW : Hid (nbI es (k : Int) ≠ [] → Away w4.heap.size no) := Lib.hid (fun hne a ha => by
                 rcases hnew with h | ⟨g, h1, h2⟩
                 · exact absurd h hne
                 · rw [h1] at ha; cases ha; show g ≠ _; omega)
               have HE6 : Hid (Ex w3.heap.size (some p) w3 w6) := Lib.hid (HEX.out.trans hex hzo (by simp))
               have HH6 : Hid (HoldsK iE 1 w6 w4.heap.size 0 C.toArray) := Lib.hid (holdsK_keep (by decide) HH.out (by omega) (hex.block _ (by omega) (by simp)))
               have hz6 : wo.heap.size ≤ w6.heap.size := hex.size
               have hnn12 : nn ≤ 12 := (by rw [← hnn]; exact HGT.out.few (k : Int))
               clear hnn hni hnew hex c0 c1 c2)
            | fail)
          go_loopw [11, 12, 13, 14] (fun ii u1 u2 u3 wr => ∃ (i : Nat) (C : List Int), ii = .int .i64 (i : Int) ∧ i ≤ nn ∧ Hid (CntOK sn (endsI (tabI salt es) m (stepsI (nbI es) k ++ ((nbI es (k : Int)).take i).map fun x => ((k : Int), x))) C) ∧ Hid (HoldsK iE 1 wr w4.heap.size 0 C.toArray) ∧ Hid (IntsAt wr no (nbI es (k : Int))) ∧ Hid (Ex w3.heap.size (some p) w3 wr) ∧ w4.heap.size < wr.heap.size) (fun ii _ _ _ _ => nn - (intOf ii).toNat)
          case atStart => exact ⟨0, C, rfl, by omega, Lib.hid (by have h := HCN.out; simpa using h), HH6, HNI, HE6, by omega⟩
          case round =>
            clear HCN HH HH6 HNI HE6 HEX hgo hzo hz6
            obtain ⟨i, C2, rfl, hi, HCN2, HH2, HNI2, HEX2, hg2⟩ := hrel
            by_cases hil : i < nn
            · have hilI : (i : Int) < (nn : Int) := by omega
              have hild : decide (i < nn) = true := decide_eq_true hil
              obtain ⟨b, off, y, hno, cy, HY⟩ := HNI2.out.get i (by rw [HNN.out]; exact hil)
              subst hno
              have HYM : Hid (y ∈ nbI es (k : Int)) := Lib.hid (by rw [← HY.out]; exact getD_mem (by rw [HNN.out]; exact hil))
              have HKT : Hid ((k : Int) ∈ tabI salt es y) := Lib.hid (HGT.out.tabs.sym _ _ (mem_tabI.2 HYM.out))
              have HRT : Hid (routeL salt es (k : Int) y (ln : Int) = rtI (tabI salt es) ((k : Int), y) m) := Lib.hid (by
                rw [show (ln : Int) = (m : Int) + 1 by have := HLN.out; omega]
                exact routeL_eq (by omega) HYM.out)
              have HE6 : Hid (Ex w3.heap.size (some p) w3 wr) := HEX2
              have hz6 : w3.heap.size ≤ wr.heap.size := HE6.out.size
              have HQ : Hid (∀ w', Ex wr.heap.size none wr w' → w'.cell? ⟨w2.heap.size, 0, none⟩ = some (.int .i64 (sn : Int)) ∧ w'.cell? ⟨w2.heap.size, 1, none⟩ = some (.slice eo en ec) ∧ w'.cell? ⟨w2.heap.size, 2, none⟩ = some (.slice go gn gc) ∧ w'.cell? ⟨b, off + i, none⟩ = some (.int .i64 y)) := Lib.hid (fun w' h => by
                obtain ⟨h0, h1, h2⟩ := HC.out _ (HE6.out.trans h hz6 (by simp))
                exact ⟨h0, h1, h2, (World.cell?_of_block (w := wr) (h.block b (World.block_lt_of_cell? wr _ cy) (by simp))).trans cy⟩)
              go_upto_region 14 with (fail)
              go_region_held3 (fun w' => w'.cell? ⟨w2.heap.size, 0, none⟩ = some (.int .i64 (sn : Int)) ∧ w'.cell? ⟨w2.heap.size, 1, none⟩ = some (.slice eo en ec) ∧ w'.cell? ⟨w2.heap.size, 2, none⟩ = some (.slice go gn gc) ∧ w'.cell? ⟨b, off + i, none⟩ = some (.int .i64 y))
                (first | exact HQ.out _ HE7.out | exact HQ.out _ (Ex.refl _ _ wr).drew | exact HQ.out _ (Ex.refl _ _ wr) | fail)
                (first
                  | (go_at_call 20
                     refine (routeP_any (sn : Int) eo en ec go gn gc es salt (k : Int) y (ln : Int) _ (HXW.out _ (HE6.out.trans (Ex.refl _ none wr).drew hz6 (by simp))) HN.out HGT.out).mono ?_
                     rw [HRT.out]
                     rintro e w7 ⟨qo, qc, ql, rfl, hql, hqs, hex⟩
                     have HE7 : Hid (Ex wr.heap.size none wr w7) := Lib.hid ((Ex.refl _ none wr).drew.trans hex (Nat.le_refl _) (by simp))
                     have HQL : Hid (ql = ln + 1) := Lib.hid (by rw [rtI_len] at hql; have := HLN.out; omega)
                     have HQI : Hid (IntsAt w7 qo (rtI (tabI salt es) ((k : Int), y) m)) := Lib.hid (slI_ints hqs)
                     clear hql hqs hex)
                  | fail)
              clear cy
              have hz7 : wr.heap.size ≤ w7.heap.size := HE7.out.size
              have HE7w : Hid (Ex w3.heap.size (some p) w3 w7) := Lib.hid (HE6.out.trans HE7.out hz6 (by simp))
              have HQ7 : Hid (∀ w', Ex w7.heap.size none w7 w' → w'.cell? ⟨w2.heap.size, 0, none⟩ = some (.int .i64 (sn : Int)) ∧ w'.cell? ⟨w2.heap.size, 1, none⟩ = some (.slice eo en ec) ∧ w'.cell? ⟨w2.heap.size, 2, none⟩ = some (.slice go gn gc) ∧ w'.cell? ⟨b, off + i, none⟩ = some (.int .i64 y)) := Lib.hid (fun w' h => HQ.out _ (HE7.out.trans h hz7 (by simp)))
              have hw2 : IntKind.i64.wrap ((ln : Int) + 1) = (ql : Int) := by rw [HQL.out, IntWalk.i64_in _ (by omega)]; omega
              have hw3 : IntKind.i64.wrap ((ln : Int) - 1) = (m : Int) := by have := HLN.out; rw [IntWalk.i64_in _ (by omega)]; omega
              have hq0 : 0 < ql := by have := HQL.out; have := HLN.out; omega
              have hq1 : 1 < ql := by have := HQL.out; have := HLN.out; omega
              have hq2' : m < ql := by have := HQL.out; have := HLN.out; omega
              have hq3 : ln < ql := by have := HQL.out; have := HLN.out; omega
              have hql8 : ql ≤ 8 := by have := HQL.out; omega
              have hq0I : (0 : Int) < (ql : Int) := by omega
              have hq1I : (1 : Int) < (ql : Int) := by omega
              have hq2I : (m : Int) < (ql : Int) := by omega
              have hq3I : (ln : Int) < (ql : Int) := by omega
              have HRL : Hid ((rtI (tabI salt es) ((k : Int), y) m).length = ql) := Lib.hid (by rw [rtI_len]; have := HQL.out; have := HLN.out; omega)
              obtain ⟨rb, ro9, hqo, hcells⟩ := HQI.out 0 (by rw [HRL.out]; exact hq0)
              subst hqo
              have hcells2 : ∀ i, i < ql → w7.cell? ⟨rb, ro9 + i, none⟩ = some (.int .i64 ((rtI (tabI salt es) ((k : Int), y) m).getD i 0)) := by
                intro i hi
                exact hcells i (by rw [HRL.out]; exact hi)
              obtain ⟨e1, he1⟩ : ∃ e1, e1 = (prI (tabI salt es) ((k : Int), y) m).1 := ⟨_, rfl⟩
              obtain ⟨e2, he2⟩ : ∃ e2, e2 = (prI (tabI salt es) ((k : Int), y) m).2 := ⟨_, rfl⟩
              have HPR : Hid ((e1, e2) = prI (tabI salt es) ((k : Int), y) m) := Lib.hid (by rw [he1, he2])
              have hr0 : w7.cell? ⟨rb, ro9, none⟩ = some (.int .i64 (k : Int)) := hcells2 0 hq0
              have hr1 : w7.cell? ⟨rb, ro9 + 1, none⟩ = some (.int .i64 y) := by
                have h := hcells2 1 hq1
                rwa [show (rtI (tabI salt es) ((k : Int), y) m).getD 1 0 = y from rtI_snd _ _ (i := 0) (Nat.zero_le _)] at h
              have hrm : w7.cell? ⟨rb, ro9 + m, none⟩ = some (.int .i64 e1) := by rw [hcells2 m hq2', rtI_fst _ _ (Nat.le_refl m), he1]
              have hrl : w7.cell? ⟨rb, ro9 + ln, none⟩ = some (.int .i64 e2) := by rw [hcells2 ln hq3, HLN.out, rtI_snd _ _ (Nat.le_refl m), he2]
              have HRB : Hid (∀ w', Ex w7.heap.size none w7 w' → w'.cell? ⟨rb, ro9, none⟩ = some (.int .i64 (k : Int)) ∧ w'.cell? ⟨rb, ro9 + 1, none⟩ = some (.int .i64 y) ∧ w'.cell? ⟨rb, ro9 + m, none⟩ = some (.int .i64 e1) ∧ w'.cell? ⟨rb, ro9 + ln, none⟩ = some (.int .i64 e2)) := Lib.hid (fun w' h => by
                have hb := h.block rb (World.block_lt_of_cell? w7 _ hr0) (by simp)
                exact ⟨(World.cell?_of_block (w := w7) hb).trans hr0, (World.cell?_of_block (w := w7) hb).trans hr1, (World.cell?_of_block (w := w7) hb).trans hrm, (World.cell?_of_block (w := w7) hb).trans hrl⟩)
              clear hcells hcells2 he1 he2 hr0 hr1 hrm hrl
              have hg7 : w4.heap.size < w7.heap.size := by omega
              have HH7 : Hid (HoldsK iE 1 w7 w4.heap.size 0 C2.toArray) := Lib.hid (holdsK_keep (by decide) HH2.out hg2 (HE7.out.block _ hg2 (by simp)))
              have HNI7 := Lib.hid (HNI2.out.keep HE7.out (Nat.le_refl _) (by simp))
              have hem : (prI (tabI salt es) ((k : Int), y) m).1 ∈ tabI salt es (prI (tabI salt es) ((k : Int), y) m).2 := pr_mem HGT.out.tabs (e := ((k : Int), y)) HKT.out m
              rw [← HPR.out] at hem
              have her1 := HGR.out.rng _ _ hem
              have her2 := HGR.out.rng _ _ (HGT.out.tabs.sym _ _ hem)
              simp only at her1 her2
              clear hem
              obtain ⟨a, ha⟩ : ∃ a : Nat, e1 = (a : Int) := ⟨e1.toNat, by omega⟩
              obtain ⟨d, hd⟩ : ∃ d : Nat, e2 = (d : Int) := ⟨e2.toNat, by omega⟩
              subst ha
              subst hd
              have had : a < sn := by omega
              have hdd : d < sn := by omega
              clear her1 her2
              obtain ⟨ix, hix⟩ : ∃ ix : Nat, ix = a * sn + d := ⟨_, rfl⟩
              obtain ⟨x1, hx1⟩ : ∃ x1 : Nat, x1 = a * sn := ⟨_, rfl⟩
              have hixq : ix < qq := by rw [hix, HQQ.out]; exact sq_lt had hdd
              have hwx : IntKind.i64.wrap ((a : Int) * (sn : Int)) = (x1 : Int) := by
                rw [show (a : Int) * (sn : Int) = (x1 : Int) by rw [hx1]; exact (Int.natCast_mul _ _).symm]
                exact IntWalk.i64_in _ (by omega)
              have hwy : IntKind.i64.wrap ((x1 : Int) + (d : Int)) = (ix : Int) := by
                rw [IntWalk.i64_in _ (by omega)]; omega
              have HIX : Hid (ix = a * sn + d) := Lib.hid hix
              clear hix hx1
              obtain ⟨v, hv⟩ : ∃ v : Int, C2.getD ix 0 = v := ⟨_, rfl⟩
              have HV := Lib.hid hv
              have hvb := HCN2.out.val had hdd (v := v) (by rw [← HIX.out]; exact hv)
              have hvl : (endsI (tabI salt es) m (stepsI (nbI es) k ++ ((nbI es (k : Int)).take i).map fun x => ((k : Int), x))).length ≤ 1000 := by
                unfold endsI
                rw [List.length_map, List.length_append, List.length_map, List.length_take]
                have := steps_len HGT.out.few k
                omega
              have hvm : 0 ≤ v ∧ v ≤ 1000 := by omega
              have hwv : IntKind.i64.wrap (v + 1) = v + 1 := IntWalk.i64_in _ (by omega)
              have HC2L : Hid (C2.length = qq) := Lib.hid (by rw [HCN2.out.1, HQQ.out])
              have HUP : Hid (CntOK sn (endsI (tabI salt es) m (stepsI (nbI es) k ++ ((nbI es (k : Int)).take (i + 1)).map fun x => ((k : Int), x))) (C2.set ix (v + 1))) := Lib.hid (by
                rw [endsI_up (by rw [HNN.out]; exact hil) HY.out, ← HPR.out, HIX.out]
                exact HCN2.out.step had hdd (by rw [← HIX.out]; exact hv))
              clear hv hvb hvl
              have t1 : decide ((a : Int) < 0) = false := decide_eq_false (by omega)
              have t2 : decide ((sn : Int) ≤ (a : Int)) = false := decide_eq_false (by omega)
              have t3 : decide ((d : Int) < 0) = false := decide_eq_false (by omega)
              have t4 : decide ((sn : Int) ≤ (d : Int)) = false := decide_eq_false (by omega)
              have t5 : decide (sn ≤ a) = false := decide_eq_false (by omega)
              have t6 : decide (sn ≤ d) = false := decide_eq_false (by omega)
              go_upto_region 17 with (fail)
              obtain ⟨d0, d1, d2, d3⟩ := HRB.out _ (Ex.refl _ _ w7)
              have g4 := fun pw : ExW w7 => pw.cellG d2
              have g5 := fun pw : ExW w7 => pw.cellG d3
              clear d0 d1 d2 d3
              refine wp_region_quiet_ex (by kernel_rfl) (by kernel_rfl) ?_
              repeat (go_big_quiet_step (fail))
              refine wpQuiet_nil ?_
              intro _ hw'
              obtain ⟨p9, hw''⟩ := hw'
              subst hw''
              clear g4 g5
              obtain ⟨w8, hw8⟩ : ∃ w8 : World, w8 = p9.w' := ⟨_, rfl⟩
              have HE78 : Hid (Ex w7.heap.size none w7 w8) := Lib.hid (by rw [hw8]; exact p9.ex)
              rw [← hw8]
              clear hw8
              have hz8 : w7.heap.size ≤ w8.heap.size := HE78.out.size
              have HE8 : Hid (Ex w3.heap.size (some p) w3 w8) := Lib.hid (HE7w.out.trans HE78.out (by omega) (by simp))
              have HH8 : Hid (HoldsK iE 1 w8 w4.heap.size 0 C2.toArray) := Lib.hid (holdsK_keep (by decide) HH7.out hg7 (HE78.out.block _ hg7 (by simp)))
              have HNI8 := Lib.hid (HNI7.out.keep HE78.out (Nat.le_refl _) (by simp))
              obtain ⟨c0, c1, c2⟩ := HC.out _ HE8.out
              have hcv := (rint_cell HH8.out ix (by rw [List.size_toArray, HC2L.out]; exact hixq)).1
              have hcf := (rint_cell HH8.out ix (by rw [List.size_toArray, HC2L.out]; exact hixq)).2
              rw [List.toList_toArray, HV.out] at hcv
              have HSET : Hid (HoldsK iE 1 (w8.setCell ⟨w4.heap.size, ix, none⟩ (.int .i64 (v + 1))) w4.heap.size 0 (C2.set ix (v + 1)).toArray) := Lib.hid (by
                have h := rint_set HH8.out ix (by rw [List.size_toArray, HC2L.out]; exact hixq) (v + 1)
                simpa using h)
              have hixI : (ix : Int) < (qq : Int) := by omega
              go_wp2
              go_roundw
              case rel => exact ⟨i + 1, C2.set ix (v + 1), by go_num, by omega, HUP, HSET, Lib.hid (HNI8.out.keep (Ex.setCell (Ex.refl w8.heap.size (some w4.heap.size) w8) _ none _ (.inl rfl)) (Nat.le_refl _) (fun q e hne => by cases e; exact HNW.out hne)), Lib.hid (Ex.setCell HE8.out _ none _ (.inr hz4)), by simp; omega⟩
              case measure => simp [intOf] <;> omega
            · have hilI : ¬ (i : Int) < (nn : Int) := by omega
              have hild : decide (i < nn) = false := decide_eq_false hil
              have HFIN : Hid (CntOK sn (endsI (tabI salt es) m (stepsI (nbI es) (k + 1))) C2) := Lib.hid (by
                have h := HCN2.out
                rw [List.take_of_length_le (by rw [HNN.out]; omega)] at h
                exact h)
              go_wp2
              go_roundw
              case rel => exact ⟨k + 1, C2, by go_num, by omega, HFIN, HH2, HEX2, hg2⟩
              case measure => simp [intOf] <;> omega
        · have hltI : ¬ (k : Int) < (sn : Int) := by omega
          have hltd : decide (k < sn) = false := decide_eq_false hlt
          have HFIN : Hid (CntOK sn (endsI (tabI salt es) m (stepsI (nbI es) sn)) C) := Lib.hid (by
            have h := HCN.out
            rwa [show k = sn by omega] at h)
          have HCL : Hid (C.length = qq) := Lib.hid (by rw [HFIN.out.1, HQQ.out])
          go_upto_region 22 with (fail)
          clear c0 c1 c2
          go_loopw [15, 16, 17] (fun kk u1 u2 wr => ∃ (k2 : Nat), kk = .int .i64 (k2 : Int) ∧ k2 ≤ sn ∧ Hid (HoldsK iE 1 wr w4.heap.size 0 C.toArray) ∧ Hid (Ex w3.heap.size (some p) w3 wr) ∧ w4.heap.size < wr.heap.size) (fun kk _ _ _ => sn - (intOf kk).toNat)
          case atStart => exact ⟨0, rfl, by omega, HH, HEX, hgo⟩
          case round =>
            clear HH HEX hgo hzo
            obtain ⟨k2, rfl, hk2, HH, HEX, hgo⟩ := hrel
            obtain ⟨wp, hwp⟩ : ∃ wp : World, wp = wr := ⟨_, rfl⟩
            subst hwp
            obtain ⟨c0, c1, c2⟩ := HC.out _ HEX.out
            by_cases hlt2 : k2 < sn
            · have hlt2I : (k2 : Int) < (sn : Int) := by omega
              have hlt2d : decide (k2 < sn) = true := decide_eq_true hlt2
              go_upto_region 25 with (fail)
              clear c0 c1 c2
              go_loopw [16, 17] (fun jj u1 wr => ∃ (j : Nat), jj = .int .i64 (j : Int) ∧ j ≤ sn ∧ Hid (HoldsK iE 1 wr w4.heap.size 0 C.toArray) ∧ Hid (Ex w3.heap.size (some p) w3 wr) ∧ w4.heap.size < wr.heap.size) (fun jj _ _ => sn - (intOf jj).toNat)
              case atStart => exact ⟨0, rfl, by omega, HH, HEX, hgo⟩
              case round =>
                clear HH HEX hgo
                obtain ⟨j, rfl, hj, HH, HEX, hgo⟩ := hrel
                have hzo : w3.heap.size ≤ wr.heap.size := HEX.out.size
                obtain ⟨c0, c1, c2⟩ := HC.out _ HEX.out
                by_cases hjl : j < sn
                · have hjI : (j : Int) < (sn : Int) := by omega
                  have hjd : decide (j < sn) = true := decide_eq_true hjl
                  obtain ⟨ix, hix⟩ : ∃ ix : Nat, ix = k2 * sn + j := ⟨_, rfl⟩
                  obtain ⟨x1, hx1⟩ : ∃ x1 : Nat, x1 = k2 * sn := ⟨_, rfl⟩
                  have hixq : ix < qq := by rw [hix, HQQ.out]; exact sq_lt hlt2 hjl
                  have hwx : IntKind.i64.wrap ((k2 : Int) * (sn : Int)) = (x1 : Int) := by
                    rw [show (k2 : Int) * (sn : Int) = (x1 : Int) by rw [hx1]; exact (Int.natCast_mul _ _).symm]
                    exact IntWalk.i64_in _ (by omega)
                  have hwy : IntKind.i64.wrap ((x1 : Int) + (j : Int)) = (ix : Int) := by
                    rw [IntWalk.i64_in _ (by omega)]; omega
                  have HVE : Hid (C.getD ix 0 = if hasI (nbI es (k2 : Int)) (j : Int) then 1 else 0) := Lib.hid (by
                    rw [hix]
                    exact cntEnd HGT.out (fun a b h => HGR.out.rng a b h) HFIN.out hlt2 hjl)
                  have hixI : (ix : Int) < (qq : Int) := by omega
                  clear hix hx1
                  cases hb : hasI (nbI es (k2 : Int)) (j : Int) with
                  | true =>
                    have HV : Hid (C.getD ix 0 = 1) := Lib.hid (by rw [HVE.out, hb]; rfl)
                    go_wp2_with (first
                      | (go_at_call 25
                         refine (nb20_any (sn : Int) eo en ec go gn gc es (k2 : Int) wr (HXW.out _ HEX.out) HN.out (by omega)).mono ?_
                         rintro e w6 ⟨no, nc, nn, rfl, hnn, hown, hex⟩
                         have HNN := Lib.hid hnn
                         have HNI := Lib.hid hown.ints
                         have HE6 : Hid (Ex w3.heap.size (some p) w3 w6) := Lib.hid (HEX.out.trans hex hzo (by simp))
                         have HH6 : Hid (HoldsK iE 1 w6 w4.heap.size 0 C.toArray) := Lib.hid (holdsK_keep (by decide) HH.out hgo (hex.block _ hgo (by simp)))
                         have hz6 : wr.heap.size ≤ w6.heap.size := hex.size
                         have hnn12 : nn ≤ 12 := (by rw [← hnn]; exact HGT.out.few (k2 : Int))
                         clear hnn hown hex c0 c1 c2
                         obtain ⟨c0, c1, c2⟩ := HC.out _ HE6.out
                         have hcv := (rint_cell HH6.out ix (by rw [List.size_toArray, HCL.out]; exact hixq)).1
                         rw [List.toList_toArray, HV.out] at hcv)
                      | (go_at_call 23
                         refine (has11_any _ (nbI es (k2 : Int)) (j : Int) w6 ⟨no, nc, by rw [HNN.out], HNI.out⟩ (by rw [HNN.out]; omega)).mono ?_
                         rw [hb]
                         rintro e w' ⟨rfl, rfl⟩)
                      | fail)
                    go_roundw
                    case rel => exact ⟨j + 1, by go_num, by omega, HH6, HE6, by omega⟩
                    case measure => simp [intOf] <;> omega
                  | false =>
                    have HV : Hid (C.getD ix 0 = 0) := Lib.hid (by rw [HVE.out, hb]; rfl)
                    go_wp2_with (first
                      | (go_at_call 25
                         refine (nb20_any (sn : Int) eo en ec go gn gc es (k2 : Int) wr (HXW.out _ HEX.out) HN.out (by omega)).mono ?_
                         rintro e w6 ⟨no, nc, nn, rfl, hnn, hown, hex⟩
                         have HNN := Lib.hid hnn
                         have HNI := Lib.hid hown.ints
                         have HE6 : Hid (Ex w3.heap.size (some p) w3 w6) := Lib.hid (HEX.out.trans hex hzo (by simp))
                         have HH6 : Hid (HoldsK iE 1 w6 w4.heap.size 0 C.toArray) := Lib.hid (holdsK_keep (by decide) HH.out hgo (hex.block _ hgo (by simp)))
                         have hz6 : wr.heap.size ≤ w6.heap.size := hex.size
                         have hnn12 : nn ≤ 12 := (by rw [← hnn]; exact HGT.out.few (k2 : Int))
                         clear hnn hown hex c0 c1 c2
                         obtain ⟨c0, c1, c2⟩ := HC.out _ HE6.out
                         have hcv := (rint_cell HH6.out ix (by rw [List.size_toArray, HCL.out]; exact hixq)).1
                         rw [List.toList_toArray, HV.out] at hcv)
                      | (go_at_call 23
                         refine (has11_any _ (nbI es (k2 : Int)) (j : Int) w6 ⟨no, nc, by rw [HNN.out], HNI.out⟩ (by rw [HNN.out]; omega)).mono ?_
                         rw [hb]
                         rintro e w' ⟨rfl, rfl⟩)
                      | fail)
                    go_roundw
                    case rel => exact ⟨j + 1, by go_num, by omega, HH6, HE6, by omega⟩
                    case measure => simp [intOf] <;> omega
                · have hjI : ¬ (j : Int) < (sn : Int) := by omega
                  have hjd : decide (j < sn) = false := decide_eq_false hjl
                  go_wp2
                  go_roundw
                  case rel => exact ⟨k2 + 1, by go_num, by omega, HH, HEX, hgo⟩
                  case measure => simp [intOf] <;> omega
            · have hlt2I : ¬ (k2 : Int) < (sn : Int) := by omega
              have hlt2d : decide (k2 < sn) = false := decide_eq_false hlt2
              have hzo : w3.heap.size ≤ wp.heap.size := HEX.out.size
              go_wp2_with (first | (go_at_call 16; refine (awake20_any _).mono ?_; rintro e w9 ⟨rfl, hex9⟩) | fail)
              go_ret
              exact ⟨rfl, (((HE3.out.trans ((HEX.out.trans hex9 hzo (by simp)).mono (show w.heap.size ≤ w3.heap.size by omega) |>.above (by omega)) (Nat.le_refl _) (by simp)))).below⟩
    · have hsI : decide ((60 : Int) < (salt.size : Int)) = true := decide_eq_true (by omega)
      have hsN : decide (60 < salt.size) = true := decide_eq_true (by omega)
      go_enter Try.func6, Try.ntmps6
      go_wp2_with (first
        | (go_at_call 15; refine (madeLight_any _ _ _ _).mono ?_; rw [hmd]; rintro e w' ⟨rfl, rfl⟩)
        | (go_at_call 16; refine (awake20_any _).mono ?_; rintro e w1 ⟨rfl, hex⟩)
        | fail)
      go_ret
      exact ⟨rfl, hex.below⟩
  · have hmd : decide ((L.length : Int) ≤ 400) = false := decide_eq_false (by omega)
    go_enter Try.func6, Try.ntmps6
    go_wp2_with (first
      | (go_at_call 15; refine (madeLight_any _ _ _ _).mono ?_; rw [hmd]; rintro e w' ⟨rfl, rfl⟩)
      | (go_at_call 16; refine (awake20_any _).mono ?_; rintro e w1 ⟨rfl, hex⟩)
      | fail)
    go_ret
    exact ⟨rfl, hex.below⟩
end Go.Proofs.Ytfllcohnfboccaa
