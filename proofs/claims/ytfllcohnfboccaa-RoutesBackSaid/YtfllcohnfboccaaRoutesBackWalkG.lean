/- RoutesBack: the walk. No statement of the seat. -/
import Derived.Test.YtfllcohnfboccaaRoutesWG
namespace Go.Proofs.Ytfllcohnfboccaa
open Go.RowKit Go.Sort

set_option maxHeartbeats 16000000 in
set_option maxRecDepth 100000 in
theorem routesBack_walk (v : Value) (L : List Int) (salt : ByteArray) (w : World) (hv : Ints w v L) (hm0 : L.length ≤ 9223372036854775807) (_hs0 : salt.size ≤ maxLen) :
    Calls Try.prog 4 #[v, .string salt] w fun e w' => e = .returned (.bool true) ∧ Below w.heap.size w w' := by
  obtain ⟨ao, cap, rfl, hx⟩ := hv
  have HX := Lib.hid hx
  clear hx
  by_cases hm : L.length ≤ 400
  · have hmd : decide ((L.length : Int) ≤ 400) = true := decide_eq_true (by omega)
    by_cases hs : salt.size ≤ 60
    · have hsI : decide ((60 : Int) < (salt.size : Int)) = false := decide_eq_false (by omega)
      have hsN : decide (60 < salt.size) = false := decide_eq_false (by omega)
      go_enter Try.func4, Try.ntmps4
      go_upto_region 5 with (first
        | (go_at_call 15; refine (madeLight_any _ _ _ _).mono ?_; rw [hmd]; rintro e w' ⟨rfl, rfl⟩)
        | (go_at_call 17
           refine (madeRoll_any (.slice ao L.length cap) L w ⟨ao, cap, rfl, HX.out⟩ (by omega)).mono ?_
           rintro e w1 ⟨p, rfl, hd, hp1, hp2, hex⟩
           have HD1 : Hid (DiceOK (p + 1) w1 p) := Lib.hid ⟨_, hd⟩
           have HE1 := Lib.hid hex
           have hz1 : w.heap.size ≤ w1.heap.size := hex.size
           clear hd hex)
        | (go_at_call 18
           refine (graph_w (p + 1) p w1 HD1.out hp2).mono ?_
           rintro e w2 ⟨sn, eo, en, ec, go, gn, gc, es, gone, rfl, ⟨hs2, hs9⟩, ⟨hen, hen22, hec⟩, hG, hsl, hd, hex⟩
           have HN := Lib.hid hen
           have HGR := Lib.hid hG
           have HSL := Lib.hid hsl
           have HD2 := Lib.hid hd
           have HE2 := Lib.hid hex
           have hz2 : w1.heap.size ≤ w2.heap.size := hex.size
           clear hen hG hsl hd hex)
        | fail)
      obtain ⟨w3, hw3⟩ : ∃ w3 : World, w3 = w2.alloc (.cells #[.int .i64 (sn : Int), .slice eo en ec, .slice go gn gc] 45) := ⟨_, rfl⟩
      have HE23 : Hid (Ex w2.heap.size none w2 w3) := Lib.hid (by rw [hw3]; exact Ex.new _ _)
      have hz3 : w2.heap.size + 1 ≤ w3.heap.size := by rw [hw3]; simp
      have HB3 : Hid (w3.heap[w2.heap.size]? = some (.cells #[.int .i64 (sn : Int), .slice eo en ec, .slice go gn gc] 45 (0, 0))) := Lib.hid (by rw [hw3]; exact heap_alloc_new _ _)
      rw [← hw3]
      clear hw3
      have HD3 : Hid (DiceOK (p + 1) w3 p) := Lib.hid (HD2.out.keep HE23.out (by omega))
      have HE3 : Hid (Ex w.heap.size none w w3) := Lib.hid ((HE1.out.trans ((HE2.out.trans HE23.out hz2 (by simp)).mono (show w.heap.size ≤ w1.heap.size by omega) |>.above (by omega)) (Nat.le_refl _) (by simp)))
      have HC : Hid (∀ w', Ex w3.heap.size (some p) w3 w' → w'.cell? ⟨w2.heap.size, 0, none⟩ = some (.int .i64 (sn : Int)) ∧ w'.cell? ⟨w2.heap.size, 1, none⟩ = some (.slice eo en ec) ∧ w'.cell? ⟨w2.heap.size, 2, none⟩ = some (.slice go gn gc)) := Lib.hid (fun w' h => by
        have k := (h.block w2.heap.size (by omega) (by simp; omega)).trans HB3.out
        refine ⟨?_, ?_, ?_⟩ <;> (rw [cell_of_row _ _ _ _ _ _ k]; rfl))
      have HXW : Hid (∀ w', Ex w3.heap.size (some p) w3 w' → SlAt edRep (fun b => w1.heap.size ≤ b) w' eo es) := Lib.hid (fun w' h => HSL.out.keep (by decide) fun b hb1 hb => (h.block b (by omega) (by simp; omega)).trans (HE23.out.block b hb (by simp)))
      have HGT : Hid (GraphT salt es) := Lib.hid (HGR.out.graphT (by omega) hs9)
      have HRF : Hid (Ex w3.heap.size (some p) w3 w3) := Lib.hid (Ex.refl _ _ _)
      clear HE1 HE2 HE23 HD1 HD2 HSL HX hmd hsI hsN
      obtain ⟨c0, c1, c2⟩ := HC.out _ HRF.out
      go_upto_region 8 with (first
        | (go_at_call 11
           refine (next_w (p + 1) p 5 w3 HD3.out (by omega) (by omega)).mono ?_
           rintro e w4 ⟨m, rfl, hm5, _, hex⟩
           have HE4 := Lib.hid hex
           obtain ⟨ln, hln⟩ : ∃ ln : Nat, ln = m + 1 := ⟨_, rfl⟩
           have hwl : IntKind.i64.wrap (1 + (m : Int)) = (ln : Int) := (by rw [IntWalk.i64_in _ (by omega)]; omega)
           have hlnb : 1 ≤ ln ∧ ln ≤ 6 := (by omega)
           have HLN : Hid (ln = m + 1) := Lib.hid hln
           clear hln
           clear hex c0 c1 c2)
        | fail)
      clear hwl
      go_loopw [8, 9, 10, 11, 12, 13, 14] (fun v kk u1 u2 u3 u4 u5 wr => ∃ (k q : Nat) (ro : Option Addr) (rc : Nat) (E : List (Int × Int)), kk = .int .i64 (k : Int) ∧ k ≤ sn ∧ v = .slice ro q rc ∧ q ≤ 12 * k ∧ Hid (E.length = q) ∧ Hid (EndsOf (tabI salt es) m (k : Int) [] E) ∧ Hid (OwnE prE 2 51 wr w3.heap.size ro rc E) ∧ Hid (Ex w3.heap.size (some p) w3 wr)) (fun _ kk _ _ _ _ _ _ => sn - (intOf kk).toNat)
      case atStart => exact ⟨0, 0, none, 0, [], rfl, by omega, rfl, by omega, Lib.hid rfl, Lib.hid (EndsOf.nil _ _ _ _), Lib.hid (OwnE.nil _ _ _ _ _), HE4⟩
      case round =>
        obtain ⟨k, q, ro, rc, E, rfl, hk, rfl, hq, HEL, HEO, HOW, HEX⟩ := hrel
        obtain ⟨wo, hwo⟩ : ∃ wo : World, wo = wr := ⟨_, rfl⟩
        subst hwo
        have hzo : w3.heap.size ≤ wo.heap.size := HEX.out.size
        obtain ⟨c0, c1, c2⟩ := HC.out _ HEX.out
        by_cases hlt : k < sn
        · have hltI : (k : Int) < (sn : Int) := by omega
          have hltd : decide (k < sn) = true := decide_eq_true hlt
          go_upto_region 12 with (first
            | (go_at_call 19
               refine (neigh_any2 (sn : Int) eo en ec go gn gc es (k : Int) wo (HXW.out _ HEX.out) HN.out (by omega)).mono ?_
               rintro e w5 ⟨no, nc, nn, rfl, hnn, hni, hnew, hex⟩
               have HNN := Lib.hid hnn
               have HNI := Lib.hid hni
               have HNE : Hid (∀ b, rowOf ro = some b → nbI es (k : Int) ≠ [] → Away b no) := Lib.hid (fun b hb hne a ha => by
                 have hlt := row_lt HOW.out b hb
                 rcases hnew with h | ⟨g, h1, h2⟩
                 · exact absurd h hne
                 · rw [h1] at ha; cases ha; show g ≠ b; omega)
               have HE5 : Hid (Ex w3.heap.size (some p) w3 w5) := Lib.hid (HEX.out.trans hex hzo (by simp))
               have HO5 := Lib.hid (HOW.out.keep hex (Nat.le_refl _) (by simp))
               have hz5 : w3.heap.size ≤ w5.heap.size := HE5.out.size
               have hnn12 : nn ≤ 12 := (by rw [← hnn]; exact HGT.out.few (k : Int))
               clear hnn hni hnew hex c0 c1 c2)
            | fail)
          go_loopw [8, 11, 12, 13, 14] (fun v ii u1 u2 u3 wr => ∃ (i q : Nat) (ro : Option Addr) (rc : Nat) (E : List (Int × Int)), ii = .int .i64 (i : Int) ∧ i ≤ nn ∧ v = .slice ro q rc ∧ q ≤ 12 * k + i ∧ Hid (E.length = q) ∧ Hid (EndsOf (tabI salt es) m (k : Int) ((nbI es (k : Int)).take i) E) ∧ Hid (OwnE prE 2 51 wr w3.heap.size ro rc E) ∧ Hid (IntsAt wr no (nbI es (k : Int))) ∧ Hid (∀ b, rowOf ro = some b → nbI es (k : Int) ≠ [] → Away b no) ∧ Hid (Ex w3.heap.size (some p) w3 wr)) (fun _ ii _ _ _ _ => nn - (intOf ii).toNat)
          case atStart => exact ⟨0, q, ro, rc, E, rfl, by omega, rfl, by omega, HEL, HEO, HO5, HNI, HNE, HE5⟩
          case round =>
            clear HEL HEO HOW HO5 hq HNI HNE HE5 hz5
            obtain ⟨i, q2, ro2, rc2, E2, rfl, hi, rfl, hq2, HEL2, HEO2, HOW2, HNI2, HNE2, HEX2⟩ := hrel
            by_cases hil : i < nn
            · have hilI : (i : Int) < (nn : Int) := by omega
              have hild : decide (i < nn) = true := decide_eq_true hil
              obtain ⟨b, off, y, hno, cy, HY⟩ := HNI2.out.get i (by rw [HNN.out]; exact hil)
              subst hno
              have HYM : Hid (y ∈ nbI es (k : Int)) := Lib.hid (by rw [← HY.out]; exact getD_mem (by rw [HNN.out]; exact hil))
              have HKT : Hid ((k : Int) ∈ tabI salt es y) := Lib.hid (HGT.out.tabs.sym _ _ (mem_tabI.2 HYM.out))
              have HRT : Hid (routeL salt es (k : Int) y (ln : Int) = rtI (tabI salt es) ((k : Int), y) m) := Lib.hid (by
                rw [show (ln : Int) = (m : Int) + 1 by have := HLN.out; omega]
                exact routeL_eq (by omega) HYM.out)
              have HE6 : Hid (Ex w3.heap.size (some p) w3 wr) := HEX2
              have hz6 : w3.heap.size ≤ wr.heap.size := HE6.out.size
              have HQ : Hid (∀ w', Ex wr.heap.size none wr w' → w'.cell? ⟨w2.heap.size, 0, none⟩ = some (.int .i64 (sn : Int)) ∧ w'.cell? ⟨w2.heap.size, 1, none⟩ = some (.slice eo en ec) ∧ w'.cell? ⟨w2.heap.size, 2, none⟩ = some (.slice go gn gc) ∧ w'.cell? ⟨b, off + i, none⟩ = some (.int .i64 y)) := Lib.hid (fun w' h => by
                obtain ⟨h0, h1, h2⟩ := HC.out _ (HE6.out.trans h hz6 (by simp))
                exact ⟨h0, h1, h2, (World.cell?_of_block (w := wr) (h.block b (World.block_lt_of_cell? wr _ cy) (by simp))).trans cy⟩)
              go_upto_region 14 with (fail)
              go_region_held3 (fun w' => w'.cell? ⟨w2.heap.size, 0, none⟩ = some (.int .i64 (sn : Int)) ∧ w'.cell? ⟨w2.heap.size, 1, none⟩ = some (.slice eo en ec) ∧ w'.cell? ⟨w2.heap.size, 2, none⟩ = some (.slice go gn gc) ∧ w'.cell? ⟨b, off + i, none⟩ = some (.int .i64 y))
                (first | exact HQ.out _ HE7.out | exact HQ.out _ (Ex.refl _ _ wr).drew | exact HQ.out _ (Ex.refl _ _ wr) | fail)
                (first
                  | (go_at_call 20
                     refine (routeP_any (sn : Int) eo en ec go gn gc es salt (k : Int) y (ln : Int) _ (HXW.out _ (HE6.out.trans (Ex.refl _ none wr).drew hz6 (by simp))) HN.out HGT.out).mono ?_
                     rw [HRT.out]
                     rintro e w7 ⟨qo, qc, ql, rfl, hql, hqs, hex⟩
                     have HE7 : Hid (Ex wr.heap.size none wr w7) := Lib.hid ((Ex.refl _ none wr).drew.trans hex (Nat.le_refl _) (by simp))
                     have HQL : Hid (ql = ln + 1) := Lib.hid (by rw [rtI_len] at hql; have := HLN.out; omega)
                     have HQI : Hid (IntsAt w7 qo (rtI (tabI salt es) ((k : Int), y) m)) := Lib.hid (slI_ints hqs)
                     clear hql hqs hex)
                  | fail)
              clear cy
              have hz7 : wr.heap.size ≤ w7.heap.size := HE7.out.size
              have HE7w : Hid (Ex w3.heap.size (some p) w3 w7) := Lib.hid (HE6.out.trans HE7.out hz6 (by simp))
              have HQ7 : Hid (∀ w', Ex w7.heap.size none w7 w' → w'.cell? ⟨w2.heap.size, 0, none⟩ = some (.int .i64 (sn : Int)) ∧ w'.cell? ⟨w2.heap.size, 1, none⟩ = some (.slice eo en ec) ∧ w'.cell? ⟨w2.heap.size, 2, none⟩ = some (.slice go gn gc) ∧ w'.cell? ⟨b, off + i, none⟩ = some (.int .i64 y)) := Lib.hid (fun w' h => HQ.out _ (HE7.out.trans h hz7 (by simp)))
              have hw2 : IntKind.i64.wrap ((ln : Int) + 1) = (ql : Int) := by rw [HQL.out, IntWalk.i64_in _ (by omega)]; omega
              have hw3 : IntKind.i64.wrap ((ln : Int) - 1) = (m : Int) := by have := HLN.out; rw [IntWalk.i64_in _ (by omega)]; omega
              have hq0 : 0 < ql := by have := HQL.out; have := HLN.out; omega
              have hq1 : 1 < ql := by have := HQL.out; have := HLN.out; omega
              have hq2' : m < ql := by have := HQL.out; have := HLN.out; omega
              have hq3 : ln < ql := by have := HQL.out; have := HLN.out; omega
              have hql8 : ql ≤ 8 := by have := HQL.out; omega
              have hq0I : (0 : Int) < (ql : Int) := by omega
              have hq1I : (1 : Int) < (ql : Int) := by omega
              have hq2I : (m : Int) < (ql : Int) := by omega
              have hq3I : (ln : Int) < (ql : Int) := by omega
              have HRL : Hid ((rtI (tabI salt es) ((k : Int), y) m).length = ql) := Lib.hid (by rw [rtI_len]; have := HQL.out; have := HLN.out; omega)
              obtain ⟨rb, ro9, hqo, hcells⟩ := HQI.out 0 (by rw [HRL.out]; exact hq0)
              subst hqo
              have hcells2 : ∀ i, i < ql → w7.cell? ⟨rb, ro9 + i, none⟩ = some (.int .i64 ((rtI (tabI salt es) ((k : Int), y) m).getD i 0)) := by
                intro i hi
                exact hcells i (by rw [HRL.out]; exact hi)
              obtain ⟨e1, he1⟩ : ∃ e1, e1 = (prI (tabI salt es) ((k : Int), y) m).1 := ⟨_, rfl⟩
              obtain ⟨e2, he2⟩ : ∃ e2, e2 = (prI (tabI salt es) ((k : Int), y) m).2 := ⟨_, rfl⟩
              have HPR : Hid ((e1, e2) = prI (tabI salt es) ((k : Int), y) m) := Lib.hid (by rw [he1, he2])
              have hr0 : w7.cell? ⟨rb, ro9, none⟩ = some (.int .i64 (k : Int)) := hcells2 0 hq0
              have hr1 : w7.cell? ⟨rb, ro9 + 1, none⟩ = some (.int .i64 y) := by
                have h := hcells2 1 hq1
                rwa [show (rtI (tabI salt es) ((k : Int), y) m).getD 1 0 = y from rtI_snd _ _ (i := 0) (Nat.zero_le _)] at h
              have hrm : w7.cell? ⟨rb, ro9 + m, none⟩ = some (.int .i64 e1) := by rw [hcells2 m hq2', rtI_fst _ _ (Nat.le_refl m), he1]
              have hrl : w7.cell? ⟨rb, ro9 + ln, none⟩ = some (.int .i64 e2) := by rw [hcells2 ln hq3, HLN.out, rtI_snd _ _ (Nat.le_refl m), he2]
              have HRB : Hid (∀ w', Ex w7.heap.size none w7 w' → w'.cell? ⟨rb, ro9, none⟩ = some (.int .i64 (k : Int)) ∧ w'.cell? ⟨rb, ro9 + 1, none⟩ = some (.int .i64 y) ∧ w'.cell? ⟨rb, ro9 + m, none⟩ = some (.int .i64 e1) ∧ w'.cell? ⟨rb, ro9 + ln, none⟩ = some (.int .i64 e2)) := Lib.hid (fun w' h => by
                have hb := h.block rb (World.block_lt_of_cell? w7 _ hr0) (by simp)
                exact ⟨(World.cell?_of_block (w := w7) hb).trans hr0, (World.cell?_of_block (w := w7) hb).trans hr1, (World.cell?_of_block (w := w7) hb).trans hrm, (World.cell?_of_block (w := w7) hb).trans hrl⟩)
              clear hcells hcells2 he1 he2 hr0 hr1 hrm hrl
              have HBK : Hid (∀ pw : ExW w7, Calls Try.prog 21 #[.agg #[.int .i64 (sn : Int), .slice eo en ec, .slice go gn gc], .string salt, .slice (some ⟨rb, ro9, none⟩) ql qc] pw.w' fun e w' => e = .returned (.bool true) ∧ Ex pw.w'.heap.size none pw.w' w') := Lib.hid (fun pw => (back_any (sn : Int) eo en ec go gn gc es salt (some ⟨rb, ro9, none⟩) ql qc (rtI (tabI salt es) ((k : Int), y) m) pw.w' (HXW.out _ (HE7w.out.trans pw.ex (by omega) (by simp))) HN.out HGT.out (HQI.out.keep pw.ex (Nat.le_refl _) (by simp)) HRL.out (by omega)).mono fun e w' h => ⟨by rw [h.1, route_back (by omega) HYM.out], h.2⟩)
              go_upto_region 15 with (fail)
              obtain ⟨c0, c1, c2, cy⟩ := HQ7.out _ (Ex.refl _ _ w7)
              obtain ⟨d0, d1, d2, d3⟩ := HRB.out _ (Ex.refl _ _ w7)
              have g0 := fun pw : ExW w7 => pw.cellG c0
              have g1 := fun pw : ExW w7 => pw.cellG c1
              have g2 := fun pw : ExW w7 => pw.cellG c2
              have g3 := fun pw : ExW w7 => pw.cellG cy
              have g4 := fun pw : ExW w7 => pw.cellG d0
              have g5 := fun pw : ExW w7 => pw.cellG d1
              clear c0 c1 c2 cy d0 d1 d2 d3
              refine wp_region_quiet_ex (by kernel_rfl) (by kernel_rfl) ?_
              repeat (go_big_quiet_step (first | (go_at_call 21; refine calls_ex_of (HBK.out _)) | fail))
              refine wpQuiet_nil ?_
              intro _ hw'
              obtain ⟨p9, hw''⟩ := hw'
              subst hw''
              clear g0 g1 g2 g3 g4 g5
              obtain ⟨w8, hw8⟩ : ∃ w8 : World, w8 = p9.w' := ⟨_, rfl⟩
              have HE78 : Hid (Ex w7.heap.size none w7 w8) := Lib.hid (by rw [hw8]; exact p9.ex)
              rw [← hw8]
              clear hw8
              have HE8 : Hid (Ex w3.heap.size (some p) w3 w8) := Lib.hid (HE7w.out.trans HE78.out (by omega) (by simp))
              have hz8 : w7.heap.size ≤ w8.heap.size := HE78.out.size
              obtain ⟨d0, d1, d2, d3⟩ := HRB.out _ HE78.out
              have HR8 : Hid (∀ w', Ex w8.heap.size none w8 w' → w'.cell? ⟨rb, ro9 + m, none⟩ = some (.int .i64 e1) ∧ w'.cell? ⟨rb, ro9 + ln, none⟩ = some (.int .i64 e2)) := Lib.hid (fun w' h => by
                have h := HRB.out _ (HE78.out.trans h hz8 (by simp))
                exact ⟨h.2.2.1, h.2.2.2⟩)
              clear d0 d1 d2 d3
              go_upto_region 17 with (fail)
              go_region_held3 (fun w' => w'.cell? ⟨rb, ro9 + m, none⟩ = some (.int .i64 e1) ∧ w'.cell? ⟨rb, ro9 + ln, none⟩ = some (.int .i64 e2))
                (first | exact HR8.out _ ((Ex.refl _ _ w8).drew.alloc (by first | omega | simp) _) | exact HR8.out _ ((Ex.refl _ _ w8).alloc (by first | omega | simp) _) | exact HR8.out _ (Ex.refl _ _ w8).drew | exact HR8.out _ (Ex.refl _ _ w8) | fail)
                (fail)
              obtain ⟨w9, hw9⟩ : ∃ w9 : World, w9 = (w8.alloc (.cells #[.int .i64 e1, .int .i64 e2] 51)).drew := ⟨_, rfl⟩
              have HE89 : Hid (Ex w8.heap.size none w8 w9) := Lib.hid (by rw [hw9]; exact (Ex.new w8 _).drew)
              have HB9 : Hid (w9.heap[w8.heap.size]? = some (.cells #[.int .i64 e1, .int .i64 e2] 51 (0, 0))) := Lib.hid (by rw [hw9]; exact heap_alloc_new w8 _)
              rw [← hw9]
              clear hw9
              have hz9 : w8.heap.size < w9.heap.size := (Array.getElem?_eq_some_iff.1 HB9.out).1
              obtain ⟨wq, hwq⟩ : ∃ wq : World, wq = wr := ⟨_, rfl⟩
              subst hwq
              have HEq9 : Hid (Ex wq.heap.size none wq w9) := Lib.hid ((HE7.out.trans HE78.out hz7 (by simp)).trans HE89.out (by omega) (by simp))
              have HE9w : Hid (Ex w3.heap.size (some p) w3 w9) := Lib.hid (HE8.out.trans HE89.out (by omega) (by simp))
              have HOW9 := Lib.hid (HOW2.out.keep HEq9.out (Nat.le_refl _) (by simp))
              have HNI9 := Lib.hid (HNI2.out.keep HEq9.out (Nat.le_refl _) (by simp))
              have HFR : Hid (∀ x ∈ E2, x ≠ (e1, e2)) := Lib.hid (by
                rw [HPR.out]
                have hni := strict_notin (nbI_strict es (k : Int)) (i := i) (by rw [HNN.out]; exact hil)
                rw [HY.out] at hni
                exact HEO2.out.fresh HGT.out.tabs HKT.out hni)
              go_upto_region 19 with (fail)
              go_loopw [14] (fun jj wr => ∃ j : Nat, jj = .int .i64 (j : Int) ∧ j ≤ q2 ∧ Hid (Ex w9.heap.size none w9 wr)) (fun jj _ => q2 - (intOf jj).toNat)
              case atStart => exact ⟨0, rfl, by omega, Lib.hid (Ex.refl _ _ _)⟩
              case round =>
                obtain ⟨j, rfl, hj, HEJ⟩ := hrel
                have hzj : w9.heap.size ≤ wr.heap.size := HEJ.out.size
                have hbj := (HEJ.out.block w8.heap.size hz9 (by simp)).trans HB9.out
                have z0 : wr.cell? ⟨w8.heap.size, 0, none⟩ = some (.int .i64 e1) := by rw [cell_of_row _ _ _ _ _ _ hbj]; rfl
                have z1 : wr.cell? ⟨w8.heap.size, 1, none⟩ = some (.int .i64 e2) := by rw [cell_of_row _ _ _ _ _ _ hbj]; rfl
                clear hbj
                by_cases hjl : j < q2
                · have hjI : (j : Int) < (q2 : Int) := by omega
                  have hjd : decide (j < q2) = true := decide_eq_true hjl
                  obtain ⟨gb, ⟨xa, xb⟩, hro, x0, x1, HXJ⟩ := pr_get (HOW9.out.keep HEJ.out (Nat.le_refl _) (by simp)) j (by rw [HEL2.out]; exact hjl)
                  subst hro
                  simp only at x0 x1
                  have hxne := HFR.out _ (List.mem_of_getElem? HXJ.out)
                  have hae := a2_ne hxne
                  clear hxne
                  go_upto_region 21 with (fail)
                  go_quiet (fail)
                  go_wp2
                  go_roundw
                  case rel => exact ⟨j + 1, by go_num, by omega, Lib.hid HEJ.out.drewN⟩
                  case measure => simp [intOf] <;> omega
                · have hjI : ¬ (j : Int) < (q2 : Int) := by omega
                  have hjd : decide (j < q2) = false := decide_eq_false hjl
                  go_wp2_with (at_builtin
                               refine wpList_appE2 rfl (.tmp 106) (.tmp 108) 47 51 (by rfl) Try.underlying47 _ 2 16 infoA2 rfl (by decide) (by decide) prE prE_len one_prE w3.heap.size ro2 rc2 q2 E2 HEL2.out (by rfl) (some ⟨wr.heap.size, 0, none⟩) 1 1 (by rfl) [(e1, e2)] rfl ((HOW9.out.keep HEJ.out (Nat.le_refl _) (by simp)).keep (Ex.new wr _) (Nat.le_refl _) (by simp)) (lit_cells (by rfl)) (by omega) (by simp; omega) (q2 + 1) (by omega) ?_
                               intro ro3 rc3 wb hown hex hb hr
                               have HOB := Lib.hid hown
                               have HXB := Lib.hid hex
                               have HBB := Lib.hid hb
                               have HRB3 := Lib.hid hr
                               clear hown hex hb hr)
                  have HNJ := Lib.hid ((HNI9.out.keep HEJ.out (Nat.le_refl _) (by simp)).keep (Ex.new wr (.cells #[.int .i64 e1, .int .i64 e2] 51)) (Nat.le_refl _) (by simp))
                  go_roundw
                  case rel =>
                    refine ⟨i + 1, q2 + 1, ro3, rc3, E2 ++ [(e1, e2)], by go_num, by omega, rfl, by omega, Lib.hid (by rw [List.length_append, HEL2.out]; rfl), Lib.hid ?_, HOB, Lib.hid (HNJ.out.keepB fun a hne ha hlt => HBB.out _ hlt fun e => HNE2.out _ e hne a ha rfl), Lib.hid (fun c hc hne a ha => ?_), Lib.hid ((((HE9w.out.trans HEJ.out (by omega) (by simp)).trans (Ex.new wr _) (by omega) (by simp))).trans HXB.out (by omega) (by simp))⟩
                    · rw [HPR.out]
                      have e : (nbI es (k : Int)).take (i + 1) = (nbI es (k : Int)).take i ++ [y] := take_getD _ (by rw [HNN.out]; exact hil) HY.out
                      rw [e]
                      exact HEO2.out.snoc HKT.out
                    · rcases HRB3.out with h | h
                      · rw [h] at hc
                        exact HNE2.out c hc hne a ha
                      · rw [h] at hc
                        cases hc
                        have := HNI9.out.lt hne a ha
                        intro e
                        rw [e] at this
                        simp at this
                        omega
                  case measure => simp [intOf] <;> omega
            · have hilI : ¬ (i : Int) < (nn : Int) := by omega
              have hild : decide (i < nn) = false := decide_eq_false hil
              go_wp2
              go_roundw
              case rel => exact ⟨k + 1, q2, ro2, rc2, E2, by go_num, by omega, rfl, by omega, HEL2, Lib.hid (by
                have h := HEO2.out.next
                rwa [show (k : Int) + 1 = ((k + 1 : Nat) : Int) by omega] at h), HOW2, HEX2⟩
              case measure => simp [intOf] <;> omega
        · have hltI : ¬ (k : Int) < (sn : Int) := by omega
          have hltd : decide (k < sn) = false := decide_eq_false hlt
          go_wp2_with (first | (go_at_call 16; refine (awake20_any _).mono ?_; rintro e w9 ⟨rfl, hex9⟩) | fail)
          go_ret
          exact ⟨rfl, (((HE3.out.trans ((HEX.out.trans hex9 hzo (by simp)).mono (show w.heap.size ≤ w3.heap.size by omega) |>.above (by omega)) (Nat.le_refl _) (by simp)))).below⟩
    · have hsI : decide ((60 : Int) < (salt.size : Int)) = true := decide_eq_true (by omega)
      have hsN : decide (60 < salt.size) = true := decide_eq_true (by omega)
      go_enter Try.func4, Try.ntmps4
      go_wp2_with (first
        | (go_at_call 15; refine (madeLight_any _ _ _ _).mono ?_; rw [hmd]; rintro e w' ⟨rfl, rfl⟩)
        | (go_at_call 16; refine (awake20_any _).mono ?_; rintro e w1 ⟨rfl, hex⟩)
        | fail)
      go_ret
      exact ⟨rfl, hex.below⟩
  · have hmd : decide ((L.length : Int) ≤ 400) = false := decide_eq_false (by omega)
    go_enter Try.func4, Try.ntmps4
    go_wp2_with (first
      | (go_at_call 15; refine (madeLight_any _ _ _ _).mono ?_; rw [hmd]; rintro e w' ⟨rfl, rfl⟩)
      | (go_at_call 16; refine (awake20_any _).mono ?_; rintro e w1 ⟨rfl, hex⟩)
      | fail)
    go_ret
    exact ⟨rfl, hex.below⟩
end Go.Proofs.Ytfllcohnfboccaa
