/- routes: route, start, length, Route. No statement of the seat. | routes: start, length, Route. No statement of the seat. | routes: all routes of a key. No statement of the seat. | routes: the last step of a route; what it reads as, as a map's key. No statement of the seat. | routes: Escapes. No statement of the seat. -/
import Derived.Test.YtfllcohnfboccaaGreatMg11
import Derived.Test.YtfllcohnfboccaaGreatLossFnsG
import Derived.Test.YtfllcohnfboccaaGreatDraftPG
import Derived.Test.YtfllcohnfboccaaGreatSum01G
import Derived.BigQuiet
import Derived.Test.YtfllcohnfboccaaGreatMg01
import Derived.Laws.ResultCell
import Derived.Test.YtfllcohnfboccaaGreatMg05
import Derived.Laws.Cover3
namespace Go.Proofs.YtfllcohnfboccaaGreat
open Go.RowKit Go.Sort Go.Maps

theorem nxI_rem {T : Int → List Int} {a b : Int} (_h : a ∈ T b) : ((idxI (T b) a : Int) + 1).tmod ((T b).length : Int) = (((idxI (T b) a + 1) % (T b).length : Nat) : Int) := by
  rw [Int.natCast_emod, Int.tmod_eq_emod_of_nonneg (by omega)]
  rfl
set_option maxHeartbeats 3000000 in
set_option maxRecDepth 100000 in
theorem route_any {Q : Nat → Prop} (sz : Int) (eo : Option Addr) (en ec : Nat) (go : Option Addr) (gn gc : Nat) (es : List EdD) (salt : ByteArray) (key first nI : Int) (m mb N : Nat) (w : World) (h : SlAt edRep (fun b => b ≠ mb) w eo es) (hn : es.length = en) (hG : GraphT salt es) (hM : TabMap w mb N Q (tabI salt es)) (hQ : ∀ b, w.heap.size ≤ b → Q b) (hN : N + m ≤ 1000000) (hnI : nI = (m : Int) + 1) (hm : m ≤ 1000) (hf : key ∈ tabI salt es first) :
    Calls Tryz.prog 92 #[.agg #[.int .i64 sz, .slice eo en ec, .slice go gn gc, .string salt, .map (some mb)], .int .i64 key, .int .i64 first, .int .i64 nI] w fun e w' => ∃ (ro : Option Addr) (rc n : Nat), e = .returned (.slice ro n rc) ∧ n = m + 2 ∧ OwnI w' (w.heap.size + 1) ro rc (rtI (tabI salt es) (key, first) m) ∧ TabMap w' mb (N + m) Q (tabI salt es) ∧ Ex w.heap.size (some mb) w w' := by
  have HX := Lib.hid h
  have HN := Lib.hid hn
  have HG := Lib.hid hG
  have HM := Lib.hid hM
  have HNI := Lib.hid hnI
  have HQW := Lib.hid hQ
  have HF := Lib.hid hf
  have hmb := hM.lt
  clear h hn hG hM hnI hf hQ
  go_enter Tryz.func92, Tryz.ntmps92
  go_upto_region 2 with (fail)
  obtain ⟨w1, hw1⟩ : ∃ w1 : World, w1 = (w.alloc (.cells #[.int .i64 sz, .slice eo en ec, .slice go gn gc, .string salt, .map (some mb)] 124)).alloc (.cells #[.int .i64 key, .int .i64 first] 3) := ⟨_, rfl⟩
  have HE1 : Hid (Ex w.heap.size none w w1) := Lib.hid (by rw [hw1]; exact ex_two0 _ _)
  have hz1 : w.heap.size + 2 ≤ w1.heap.size := by rw [hw1]; simp
  have HC : Hid (∀ w', Ex (w.heap.size + 1) (some mb) w1 w' → w'.cell? ⟨w.heap.size, 0, none⟩ = some (.int .i64 sz) ∧ w'.cell? ⟨w.heap.size, 1, none⟩ = some (.slice eo en ec) ∧ w'.cell? ⟨w.heap.size, 2, none⟩ = some (.slice go gn gc) ∧ w'.cell? ⟨w.heap.size, 3, none⟩ = some (.string salt) ∧ w'.cell? ⟨w.heap.size, 4, none⟩ = some (.map (some mb))) := Lib.hid (fun w' h => by
    have k : w'.heap[w.heap.size]? = some (.cells #[.int .i64 sz, .slice eo en ec, .slice go gn gc, .string salt, .map (some mb)] 124 (0, 0)) := (h.block w.heap.size (by omega) (by simp; omega)).trans (by rw [hw1]; exact heap_alloc2_old _ _ _)
    refine ⟨?_, ?_, ?_, ?_, ?_⟩ <;> (rw [cell_of_row _ _ _ _ _ _ k]; rfl))
  have HO1 : Hid (OwnI w1 (w.heap.size + 1) (some ⟨w.heap.size + 1, 0, none⟩) 2 (rtI (tabI salt es) (key, first) 0)) := Lib.hid (by
    refine ⟨rfl, .inr ⟨w.heap.size + 1, 2, #[.int .i64 key, .int .i64 first], rfl, Nat.le_refl _, ?_, Nat.le_refl _, by decide, rfl, rfl⟩⟩
    rw [hw1]
    exact heap_alloc2_new _ _ _)
  rw [← hw1]
  clear hw1
  go_wp2_with fail
  go_loopw [9, 10, 11, 12] (fun v _ _ _ wr => ∃ (k q : Nat) (ro : Option Addr) (rc : Nat), v = .slice ro q rc ∧ Hid (q = k + 2) ∧ k ≤ m ∧ q ≤ m + 2 ∧ Hid (OwnI wr (w.heap.size + 1) ro rc (rtI (tabI salt es) (key, first) k)) ∧ Hid (TabMap wr mb (N + k) (fun b => Q b ∧ rowOf ro ≠ some b) (tabI salt es)) ∧ Hid (Ex (w.heap.size + 1) (some mb) w1 wr)) (fun v _ _ _ _ => m + 2 - lenV v)
  case atStart => exact ⟨0, 2, _, 2, rfl, Lib.hid rfl, by omega, by omega, HO1, Lib.hid ((HM.out.mono fun b hb hl => ⟨hb, by simp [rowOf]; omega⟩).ex HE1.out (Nat.le_refl _)), Lib.hid (Ex.refl _ _ _)⟩
  case round =>
    obtain ⟨k, q, ro, rc, rfl, HQ, hk, hqm, HO, HMR, HEX⟩ := hrel
    have hszr : w1.heap.size ≤ wr.heap.size := HEX.out.size
    have HL : Hid ((rtI (tabI salt es) (key, first) k).length = q) := Lib.hid (by rw [rtI_len, HQ.out])
    by_cases hlt : k < m
    · have hqI : (q : Int) ≤ nI := by have := HQ.out; have := HNI.out; omega
      obtain ⟨i0, hi0⟩ : ∃ i0, i0 = q - 2 := ⟨_, rfl⟩
      obtain ⟨i1, hi1⟩ : ∃ i1, i1 = q - 1 := ⟨_, rfl⟩
      have hw0 : IntKind.i64.wrap ((q : Int) - 2) = (i0 : Int) := by have := HQ.out; rw [IntWalk.i64_in _ (by omega)]; omega
      have hw1' : IntKind.i64.wrap ((q : Int) - 1) = (i1 : Int) := by have := HQ.out; rw [IntWalk.i64_in _ (by omega)]; omega
      have hi0q : (i0 : Int) < (q : Int) := by have := HQ.out; omega
      have hi1q : (i1 : Int) < (q : Int) := by have := HQ.out; omega
      have H0 : Hid (i0 = k) := Lib.hid (by have := HQ.out; omega)
      have H1 : Hid (i1 = k + 1) := Lib.hid (by have := HQ.out; omega)
      clear hi0 hi1
      obtain ⟨go1, rfl, hbg, hgl, hcs⟩ := own_at HO.out (by rw [HL.out]; have := HQ.out; omega)
      obtain ⟨a, ha⟩ : ∃ a, a = (prI (tabI salt es) (key, first) k).1 := ⟨_, rfl⟩
      obtain ⟨b, hb⟩ : ∃ b, b = (prI (tabI salt es) (key, first) k).2 := ⟨_, rfl⟩
      have HA : Hid ((prI (tabI salt es) (key, first) k).1 = a) := Lib.hid ha.symm
      have HB : Hid ((prI (tabI salt es) (key, first) k).2 = b) := Lib.hid hb.symm
      clear ha hb
      have hca : wr.cell? ⟨go1, i0, none⟩ = some (.int .i64 a) := by
        rw [H0.out, hcs k (by rw [HL.out, HQ.out]; omega), rtI_fst _ _ (Nat.le_refl k), HA.out]
      have hcb : wr.cell? ⟨go1, i1, none⟩ = some (.int .i64 b) := by
        rw [H1.out, hcs (k + 1) (by rw [HL.out, HQ.out]; omega), rtI_snd _ _ (Nat.le_refl k), HB.out]
      have HMEM : Hid (a ∈ tabI salt es b) := Lib.hid (by rw [← HA.out, ← HB.out]; exact pr_mem HG.out.tabs (e := (key, first)) HF.out k)
      have hbr : 0 ≤ b ∧ b < 64 := HG.out.rng b a (HG.out.tabs.sym _ _ HMEM.out)
      clear hcs
      go_wp2_with fail
      go_quiet (fail)
      obtain ⟨wq, hwq⟩ : ∃ wq : World, wq = wr.drewN nq := ⟨_, rfl⟩
      have HEQ : Hid (Ex wr.heap.size none wr wq) := Lib.hid (by rw [hwq]; exact (Ex.refl _ _ wr).drewN)
      have hzq : wr.heap.size ≤ wq.heap.size := HEQ.out.size
      rw [← hwq]
      clear hwq hca hcb hw0 hw1'
      have HEXQ : Hid (Ex (w.heap.size + 1) (some mb) w1 wq) := Lib.hid (HEX.out.trans HEQ.out (by omega) (by simp))
      obtain ⟨c0, c1, c2, c3, c4⟩ := HC.out _ HEXQ.out
      have HXQ : Hid (SlAt edRep (fun b => b ≠ mb) wq eo es) := Lib.hid (HX.out.keep (by decide) fun c hne hc => (HEXQ.out.block c (by omega) (fun e => hne (Option.some.inj e))).trans (HE1.out.block c hc (by simp)))
      have HMQ : Hid (TabMap wq mb (N + k) (fun b => Q b ∧ rowOf (some (⟨go1, 0, none⟩ : Addr)) ≠ some b) (tabI salt es)) := Lib.hid (HMR.out.ex HEQ.out (Nat.le_refl _))
      have HQN : Hid (∀ b, wq.heap.size ≤ b → Q b ∧ rowOf (some (⟨go1, 0, none⟩ : Addr)) ≠ some b) := Lib.hid (fun b hb => ⟨HQW.out b (by omega), by simp [rowOf]; omega⟩)
      have hNk : N + k ≤ 1000000 := by omega
      have HCT := Lib.hid (tableM_any (P := fun b => b ≠ mb) sz eo en ec go gn gc es salt b mb (N + k) wq HXQ.out HN.out HG.out HMQ.out HQN.out hNk hbr)
      go_wp2_with fail
      refine HCT.out.mono ?_
      rintro e w3 ⟨to, tc, tn, rfl, htn, hti, htm, hex3⟩
      obtain ⟨T, hT⟩ : ∃ T, T = tabI salt es b := ⟨_, rfl⟩
      have HT := Lib.hid hT
      have HTN := Lib.hid htn
      have HTM := Lib.hid htm
      rw [← hT] at hti
      have HTI := Lib.hid hti
      have HE3 : Hid (Ex (w.heap.size + 1) (some mb) w1 w3) := Lib.hid (HEXQ.out.trans hex3 (by omega) (fun q e _ => by cases e; rfl))
      have HEQ3 : Hid (Ex wr.heap.size (some mb) wr w3) := Lib.hid ((HEQ.out.weaken _).trans hex3 hzq (fun q e _ => by cases e; rfl))
      have hz3 : wr.heap.size ≤ w3.heap.size := HEQ3.out.size
      have HO3 : Hid (OwnI w3 (w.heap.size + 1) (some ⟨go1, 0, none⟩) rc (rtI (tabI salt es) (key, first) k)) := Lib.hid (HO.out.keep HEQ3.out (Nat.le_refl _) (fun q e => by cases e; omega))
      clear hT htn hti htm hex3 c0 c1 c2 c3 c4
      obtain ⟨ix, hix⟩ : ∃ ix, ix = idxI T a := ⟨_, rfl⟩
      obtain ⟨jx, hjx⟩ : ∃ jx, jx = (ix + 1) % tn := ⟨_, rfl⟩
      have HIX := Lib.hid hix
      have HJX := Lib.hid hjx
      have htn0 : 0 < tn := by rw [← HTN.out]; exact List.length_pos_of_mem HMEM.out
      have hjt : jx < tn := by rw [hjx]; exact Nat.mod_lt _ htn0
      have hjtI : (jx : Int) < (tn : Int) := by omega
      have htnI : ¬ ((tn : Int) = 0) := by omega
      have htn12 : tn ≤ 12 := by rw [← HTN.out, tabI_len]; exact HG.out.few b
      have hixt : ix < tn := by rw [hix, HT.out, ← HTN.out]; exact idxI_lt HMEM.out
      have hrem : ((ix : Int) + 1).tmod (tn : Int) = (jx : Int) := by
        rw [hjx, Int.natCast_emod, Int.tmod_eq_emod_of_nonneg (by omega)]; rfl
      clear hix hjx
      obtain ⟨tb, toff, y, rfl, cy, HY⟩ := HTI.out.get jx (by rw [HT.out, HTN.out]; exact hjt)
      have HNX : Hid (nxI (tabI salt es) a b = y) := Lib.hid (by
        unfold nxI
        rw [HTN.out, ← HT.out, ← HIX.out, ← HJX.out]
        exact HY.out)
      have HRS : Hid (rtI (tabI salt es) (key, first) (k + 1) = rtI (tabI salt es) (key, first) k ++ [y]) := Lib.hid (by rw [rtI_succ, HA.out, HB.out, HNX.out])
      go_wp2_with (first
        | (go_at_call 105; refine (indexAt_any (some ⟨tb, toff, none⟩) tn tc T a w3 (by rw [HT.out]; exact HTN.out) (by omega) HTI.out (by rw [HT.out]; exact HMEM.out)).mono ?_; rw [← HIX.out]; rintro e w' ⟨rfl, rfl⟩)
        | (at_builtin; refine wpList_appE2 rfl (.tmp 35) (.tmp 46) _ 3 (by rfl) Tryz.underlying22 _ 1 8 infoI3 rfl (by decide) (by decide) iE iE_len one_iE (w.heap.size + 1) (some ⟨go1, 0, none⟩) rc q (rtI (tabI salt es) (key, first) k) HL.out (by rfl) (some ⟨w3.heap.size, 0, none⟩) 1 1 (by rfl) [y] rfl ((HO3.out.keep (Ex.new w3 _) (Nat.le_refl _) (by simp)).e) (lit_cells (by rfl)) (by omega) (by simp; omega) (q + 1) (by omega) ?_
           intro ro4 rc4 w4 hown4 hex4 hb4 hr4
           have H4 : Hid (OwnI w4 (w.heap.size + 1) ro4 rc4 (rtI (tabI salt es) (key, first) (k + 1)) ∧ Ex (w.heap.size + 1) (some mb) w1 w4) := Lib.hid ⟨by rw [HRS.out]; exact hown4.i, ((HE3.out.trans ((Ex.new w3 _).mono (show w.heap.size + 1 ≤ w3.heap.size by omega)) (Nat.le_refl _) (by simp)).trans hex4 (Nat.le_refl _) (by simp))⟩
           have HM4 : Hid (TabMap w4 mb (N + (k + 1)) (fun b => Q b ∧ rowOf ro4 ≠ some b) (tabI salt es)) := Lib.hid (by
             refine ((HTM.out.mono (P' := fun b => (Q b ∧ rowOf (some (⟨go1, 0, none⟩ : Addr)) ≠ some b) ∧ b < w3.heap.size) fun b hb hl => ⟨hb, hl⟩).keep (w' := w4) ?_).mono ?_
             · intro b hb hl
               have hne : rowOf (some (⟨go1, 0, none⟩ : Addr)) ≠ some b := by
                 rcases hb with rfl | hb
                 · simp [rowOf]; omega
                 · exact hb.1.2
               exact (hb4 b (by simp; omega) hne).trans ((Ex.new w3 _).block b hl (by simp))
             · intro b hb _
               refine ⟨hb.1.1, ?_⟩
               rcases hr4 with e | e
               · rw [e]; exact hb.1.2
               · rw [e]; simp; have := hb.2; omega)
           clear hown4 hex4 hb4 hr4)
        | fail)
      go_roundw
      case rel => exact ⟨k + 1, q + 1, ro4, rc4, rfl, Lib.hid (by rw [HQ.out]), by omega, by have := HQ.out; omega, Lib.hid H4.out.1, HM4, Lib.hid H4.out.2⟩
      case measure => have := HQ.out; simp [lenV] <;> omega
    · have hqI : ¬ (q : Int) ≤ nI := by have := HQ.out; have := HNI.out; omega
      have hkm : k = m := by omega
      have HF2 : Hid (OwnI wr (w.heap.size + 1) ro rc (rtI (tabI salt es) (key, first) m) ∧ TabMap wr mb (N + m) Q (tabI salt es) ∧ q = m + 2) := Lib.hid (by rw [← hkm]; exact ⟨HO.out, HMR.out.mono fun b hb _ => hb.1, HQ.out⟩)
      clear hkm hlt
      go_wp2
      go_ret
      exact ⟨ro, rc, q, rfl, HF2.out.2.2, HF2.out.1, HF2.out.2.1, (HE1.out.weaken _).trans HEX.out (by omega) (fun q e _ => by cases e; rfl)⟩
end Go.Proofs.YtfllcohnfboccaaGreat

namespace Go.Proofs.YtfllcohnfboccaaGreat
open Go.RowKit Go.Sort Go.Maps

/-- Whether a route may be so long. -/
def lenOK (n : Int) : Bool := decide (1 ≤ n) && decide (n ≤ 100)
set_option maxHeartbeats 1000000 in
theorem length_any (n : Int) (w : World) : Calls Tryz.prog 90 #[.int .i64 n] w fun e w' => e = .returned (.bool (lenOK n)) ∧ w = w' := by
  go_enter Tryz.func90, Tryz.ntmps90
  go_wp2_with (go_at_call 132; refine (listsIn_any _ _ _ _).mono ?_; rintro e w' ⟨rfl, rfl⟩)
  go_ret
  exact ⟨rfl, rfl⟩
theorem Tryz.sizeWk : (Tryz.prog.info? 124).map (·.size) = some 5 := by kernel_rfl
set_option maxHeartbeats 2000000 in
set_option maxRecDepth 100000 in
theorem start_any (sz : Int) (eo : Option Addr) (en ec : Nat) (go : Option Addr) (gn gc : Nat) (salt : ByteArray) (w : World) :
    Calls Tryz.prog 91 #[.agg #[.int .i64 sz, .slice eo en ec, .slice go gn gc], .string salt] w fun e w' => ∃ mb, e = .returned (.agg #[.int .i64 sz, .slice eo en ec, .slice go gn gc, .string salt, .map (some mb)]) ∧ w.heap.size ≤ mb ∧ (∀ P T, TabMap w' mb 0 P T) ∧ Ex w.heap.size none w w' := by
  have hmm := @run_makeMap Tryz.prog
  go_enter Tryz.func91, Tryz.ntmps91
  go_upto_region 1 with (fail)
  obtain ⟨w0, hw0⟩ : ∃ w0 : World, w0 = (w.alloc (.cells #[.int .i64 sz, .slice eo en ec, .slice go gn gc] 64)).alloc (.cells #[.int .i64 0, .slice none 0 0, .slice none 0 0, .string ⟨#[]⟩, .map none] 124) := ⟨_, rfl⟩
  have HE0 : Hid (Ex w.heap.size none w w0) := Lib.hid (by rw [hw0]; exact ex_two0 _ _)
  have hz0 : w.heap.size + 2 ≤ w0.heap.size := by rw [hw0]; simp
  have hk : w0.heap[w.heap.size]? = some (.cells #[.int .i64 sz, .slice eo en ec, .slice go gn gc] 64 (0, 0)) := by rw [hw0]; exact heap_alloc2_old _ _ _
  have HB0 : Hid (w0.heap[w.heap.size + 1]? = some (.cells #[.int .i64 0, .slice none 0 0, .slice none 0 0, .string ⟨#[]⟩, .map none] 124 (0, 0))) := Lib.hid (by rw [hw0]; exact heap_alloc2_new _ _ _)
  have k0 : w0.cell? ⟨w.heap.size, 0, none⟩ = some (.int .i64 sz) := by rw [cell_of_row _ _ _ _ _ _ hk]; rfl
  have k1 : w0.cell? ⟨w.heap.size, 1, none⟩ = some (.slice eo en ec) := by rw [cell_of_row _ _ _ _ _ _ hk]; rfl
  have k2 : w0.cell? ⟨w.heap.size, 2, none⟩ = some (.slice go gn gc) := by rw [cell_of_row _ _ _ _ _ _ hk]; rfl
  rw [← hw0]
  clear hw0 hk
  have HB1 : Hid ((w0.alloc (.map #[] 0)).heap[w.heap.size + 1]? = some (.cells #[.int .i64 0, .slice none 0 0, .slice none 0 0, .string ⟨#[]⟩, .map none] 124 (0, 0))) := Lib.hid (((Ex.new w0 _).block _ (by omega) (by simp)).trans HB0.out)
  go_wp2_with (refine wpList_store_rowTo rfl 124 (.tmp 4) (.tmp 8) rfl rfl (w.heap.size + 1) #[.int .i64 sz, .slice eo en ec, .slice go gn gc, .string salt, .map (some w0.heap.size)] (by rfl) (by rfl) 124 _ HB1.out Tryz.sizeWk rfl (by simp [Value.oneCell']) ?_)
  refine bodyPost_ret (v := .agg #[.int .i64 sz, .slice eo en ec, .slice go gn gc, .string salt, .map (some w0.heap.size)]) (results_cell_row rfl _ _ (w.heap.size + 1) 124 _ _ _ (by rfl) (setRow_heap _ _ _ _ _ _ HB1.out) Tryz.underlying124 rfl Tryz.sizeWk) rfl ?_
  refine ⟨w0.heap.size, rfl, by omega, fun P T => ?_, ?_⟩
  · refine (TabMap.new w0 (fun _ => False) T).keep (fun b hb _ => ?_) |>.mono fun b hb _ => hb.elim
    rcases hb with rfl | hb
    · exact setRow_other _ _ _ _ (by omega)
    · exact hb.elim
  · exact ((HE0.out.trans (Ex.new w0 _) (by omega) (by simp))).row _ _ (.inr (by omega))

/-- A route. -/
def routeL (salt : ByteArray) (es : List EdD) (key first n : Int) : List Int := if lenOK n = true ∧ first ∈ nbI es key then rtI (tabI salt es) (key, first) (n.toNat - 1) else []
theorem lenOK_iff {n : Int} : lenOK n = true ↔ 1 ≤ n ∧ n ≤ 100 := by simp [lenOK]
set_option maxHeartbeats 8000000 in
set_option maxRecDepth 100000 in
theorem routeP_any2 {P : Nat → Prop} (sz : Int) (eo : Option Addr) (en ec : Nat) (go : Option Addr) (gn gc : Nat) (es : List EdD) (salt : ByteArray) (key first n : Int) (w : World) (h : SlAt edRep P w eo es) (hn : es.length = en) (hG : GraphT salt es) :
    Calls Tryz.prog 42 #[.agg #[.int .i64 sz, .slice eo en ec, .slice go gn gc], .string salt, .int .i64 key, .int .i64 first, .int .i64 n] w fun e w' => ∃ (ro : Option Addr) (rc q : Nat), e = .returned (.slice ro q rc) ∧ (routeL salt es key first n).length = q ∧ SlAt intRep (fun b => w.heap.size ≤ b) w' ro (routeL salt es key first n) ∧ q ≤ rc ∧ Ex w.heap.size none w w' := by
  have HX := Lib.hid h
  have HN := Lib.hid hn
  have HG := Lib.hid hG
  have hen : en ≤ 1000 := by rw [← hn]; exact hG.len
  clear h hn hG
  cases hb : lenOK n with
  | false =>
    have HR : Hid (routeL salt es key first n = []) := Lib.hid (by unfold routeL; rw [if_neg (by rw [hb]; simp)])
    go_enter Tryz.func42, Tryz.ntmps42
    go_wp2_with (first
      | (go_at_call 90; refine (length_any n _).mono ?_; rw [hb]; rintro e w' ⟨rfl, rfl⟩)
      | fail)
    go_ret
    exact ⟨none, 0, 0, rfl, by rw [HR.out]; rfl, by rw [HR.out]; exact SlAt.nil _ _ _, Nat.le_refl _, Ex.new _ _⟩
  | true =>
    go_enter Tryz.func42, Tryz.ntmps42
    go_upto_region 1 with (fail)
    obtain ⟨w1, hw1⟩ : ∃ w1 : World, w1 = w.alloc (.cells #[.int .i64 sz, .slice eo en ec, .slice go gn gc] 64) := ⟨_, rfl⟩
    have HE1 : Hid (Ex w.heap.size none w w1) := Lib.hid (by rw [hw1]; exact Ex.new _ _)
    have hz1 : w.heap.size + 1 ≤ w1.heap.size := by rw [hw1]; simp
    have HC : Hid (∀ w', Ex w1.heap.size none w1 w' → w'.cell? ⟨w.heap.size, 0, none⟩ = some (.int .i64 sz) ∧ w'.cell? ⟨w.heap.size, 1, none⟩ = some (.slice eo en ec) ∧ w'.cell? ⟨w.heap.size, 2, none⟩ = some (.slice go gn gc)) := Lib.hid (fun w' h => by
      have k : w'.heap[w.heap.size]? = some (.cells #[.int .i64 sz, .slice eo en ec, .slice go gn gc] 64 (0, 0)) := (h.block w.heap.size (by omega) (by simp)).trans (by rw [hw1]; exact heap_alloc_new _ _)
      refine ⟨?_, ?_, ?_⟩ <;> (rw [cell_of_row _ _ _ _ _ _ k]; rfl))
    rw [← hw1]
    clear hw1
    obtain ⟨c0, c1, c2⟩ := HC.out _ (Ex.refl _ _ w1)
    go_wp2_with fail
    refine (length_any n _).mono ?_
    rw [hb]
    rintro e w' ⟨rfl, rfl⟩
    go_wp2_with fail
    refine (neigh_any sz eo en ec go gn gc es key w1 (HX.out.keep (by decide) fun b _ hb => HE1.out.block b hb (by simp)) HN.out hen).mono ?_
    rintro e w2 ⟨no, nc, nn, rfl, hnn, hni, hex2⟩
    have HNN := Lib.hid hnn
    have HNI := Lib.hid hni
    have HE2 := Lib.hid hex2
    have hz2 := hex2.size
    have hnn12 : nn ≤ 12 := by rw [← hnn]; exact HG.out.few key
    clear c0 c1 c2
    obtain ⟨c0, c1, c2⟩ := HC.out _ hex2
    clear hnn hni hex2
    cases hc : hasI (nbI es key) first with
    | false =>
      have HR : Hid (routeL salt es key first n = []) := Lib.hid (by
        unfold routeL
        rw [if_neg]
        rintro ⟨_, h⟩
        rw [← hasI_iff, hc] at h
        cases h)
      go_wp2_with fail
      refine (contains_any _ (nbI es key) first w2 ⟨no, nc, by rw [HNN.out], HNI.out⟩ (by rw [HNN.out]; omega)).mono ?_
      rw [hc]
      rintro e w' ⟨rfl, rfl⟩
      go_wp2
      go_ret
      exact ⟨none, 0, 0, rfl, by rw [HR.out]; rfl, by rw [HR.out]; exact SlAt.nil _ _ _, Nat.le_refl _, HE1.out.trans HE2.out (by omega) (by simp)⟩
    | true =>
      have hmem : first ∈ nbI es key := hasI_iff.1 hc
      have HR : Hid (routeL salt es key first n = rtI (tabI salt es) (key, first) (n.toNat - 1)) := Lib.hid (by
        unfold routeL
        rw [if_pos ⟨hb, hmem⟩])
      have HF : Hid (key ∈ tabI salt es first) := Lib.hid (HG.out.tabs.sym _ _ (mem_tabI.2 hmem))
      have hn1 := lenOK_iff.1 hb
      obtain ⟨m, hm⟩ : ∃ m, m = n.toNat - 1 := ⟨_, rfl⟩
      have hnm : Hid (n = (m : Int) + 1) := Lib.hid (by omega)
      have hm99 : m ≤ 1000 := by omega
      have HMN : Hid (n.toNat - 1 = m) := Lib.hid hm.symm
      clear hm hn1 hmem
      go_wp2_with fail
      refine (contains_any _ (nbI es key) first w2 ⟨no, nc, by rw [HNN.out], HNI.out⟩ (by rw [HNN.out]; omega)).mono ?_
      rw [hc]
      rintro e w' ⟨rfl, rfl⟩
      go_wp2_with fail
      refine (start_any sz eo en ec go gn gc salt w2).mono ?_
      rintro e w3 ⟨mb, rfl, hmb, htm, hex3⟩
      have HTM := Lib.hid htm
      have HE3 : Hid (Ex w.heap.size none w w3) := Lib.hid ((HE1.out.trans HE2.out (by omega) (by simp)).trans hex3 (by omega) (by simp))
      have hz3 : w2.heap.size ≤ w3.heap.size := hex3.size
      have HX3 : Hid (SlAt edRep (fun b => b ≠ mb) w3 eo es) := Lib.hid (((HX.out.mono (P' := fun b => b < w.heap.size) (by decide) fun b _ hb => hb).keep (by decide) fun b _ hb => HE3.out.block b hb (by simp)).mono (by decide) fun b hb _ => by omega)
      clear htm hex3 c0 c1 c2
      go_wp2_with fail
      refine (route_any (Q := fun _ => True) sz eo en ec go gn gc es salt key first n m mb 0 w3 HX3.out HN.out HG.out (HTM.out _ _) (fun _ _ => trivial) (by omega) hnm.out hm99 HF.out).mono ?_
      rintro e w4 ⟨ro, rc, q, rfl, hq, hown4, _, hex4⟩
      have hrc4 : m + 2 ≤ rc := by have h := hown4.cap; rw [rtI_len] at h; exact h
      go_wp2
      go_ret
      refine ⟨ro, rc, m + 2, rfl, by rw [HR.out, HMN.out, rtI_len], by rw [HR.out, HMN.out]; exact hown4.sl.mono (by decide) fun b hb _ => by omega, hrc4, HE3.out.trans ((hex4.mono (show w.heap.size ≤ w3.heap.size by omega)).above (by omega)) (Nat.le_refl _) (by simp)⟩
theorem routeP_any {P : Nat → Prop} (sz : Int) (eo : Option Addr) (en ec : Nat) (go : Option Addr) (gn gc : Nat) (es : List EdD) (salt : ByteArray) (key first n : Int) (w : World) (h : SlAt edRep P w eo es) (hn : es.length = en) (hG : GraphT salt es) :
    Calls Tryz.prog 42 #[.agg #[.int .i64 sz, .slice eo en ec, .slice go gn gc], .string salt, .int .i64 key, .int .i64 first, .int .i64 n] w fun e w' => ∃ (ro : Option Addr) (rc q : Nat), e = .returned (.slice ro q rc) ∧ (routeL salt es key first n).length = q ∧ SlAt intRep (fun b => w.heap.size ≤ b) w' ro (routeL salt es key first n) ∧ Ex w.heap.size none w w' :=
  (routeP_any2 sz eo en ec go gn gc es salt key first n w h hn hG).mono fun _ _ ⟨ro, rc, q, h1, h2, h3, _, h4⟩ => ⟨ro, rc, q, h1, h2, h3, h4⟩
end Go.Proofs.YtfllcohnfboccaaGreat

namespace Go.Proofs.YtfllcohnfboccaaGreat
open Go.RowKit Go.Sort Go.Maps

/-- A slice of numbers by its header, and what it reads as. -/
abbrev RwD := Sv × List Int
def rwE (x : RwD) : List Value := [x.1.v]
theorem rwE_len (x : RwD) : (rwE x).length = 1 := rfl
theorem one_rwE : ∀ x, ∀ v ∈ rwE x, v.oneCell' = true := fun x v hv => by simp [rwE] at hv; subst hv; rfl
/-- The header reads as the numbers, in blocks of which P holds. -/
def RwOK (P : Nat → Prop) (w : World) (x : RwD) : Prop := (x.1.n = x.2.length ∧ x.1.n ≤ x.1.c) ∧ SlAt intRep P w x.1.ao x.2
theorem RwOK.keep {P : Nat → Prop} {w w' : World} {x : RwD} (h : RwOK P w x) (hx : ∀ b, P b → b < w.heap.size → w'.heap[b]? = w.heap[b]?) : RwOK P w' x := ⟨h.1, h.2.keep (by decide) hx⟩
theorem RwOK.mono {P P' : Nat → Prop} {w : World} {x : RwD} (h : RwOK P w x) (hx : ∀ b, P b → b < w.heap.size → P' b) : RwOK P' w x := ⟨h.1, h.2.mono (by decide) hx⟩
/-- The slice at ro owns slices of numbers that read as ls. -/
def OwnRw (w : World) (base : Nat) (ro : Option Addr) (rc : Nat) (P : Nat → Prop) (ls : List (List Int)) : Prop :=
  ∃ xs : List RwD, xs.map (·.2) = ls ∧ OwnE rwE 1 22 w base ro rc xs ∧ ∀ x ∈ xs, RwOK P w x
theorem OwnRw.nil (w : World) (base : Nat) (P : Nat → Prop) : OwnRw w base none 0 P [] := ⟨[], rfl, OwnE.nil _ _ _ _ _, fun x hx => by cases hx⟩
theorem OwnRw.lt {w : World} {base : Nat} {ro : Option Addr} {rc : Nat} {P : Nat → Prop} {ls : List (List Int)} (h : OwnRw w base ro rc P ls) : ∀ b, rowOf ro = some b → base ≤ b ∧ b < w.heap.size := by
  obtain ⟨xs, _, h1, _⟩ := h
  intro b hb
  cases ro with
  | none => cases hb
  | some a => simp [rowOf] at hb; subst hb; exact h1.lt _ rfl
theorem OwnRw.keep {w w' : World} {base : Nat} {ro : Option Addr} {rc : Nat} {P : Nat → Prop} {ls : List (List Int)} (h : OwnRw w base ro rc P ls) (hx : ∀ b, rowOf ro = some b ∨ P b → b < w.heap.size → w'.heap[b]? = w.heap[b]?) : OwnRw w' base ro rc P ls := by
  have hl := h.lt
  obtain ⟨xs, e, h1, h2⟩ := h
  exact ⟨xs, e, h1.same2 fun b hb => hx b (.inl hb) (hl b hb).2, fun x hxx => (h2 x hxx).keep fun b hb hl => hx b (.inr hb) hl⟩
theorem OwnRw.get {w : World} {base : Nat} {ro : Option Addr} {rc : Nat} {P : Nat → Prop} {ls : List (List Int)} (h : OwnRw w base ro rc P ls) (i : Nat) (hi : i < ls.length) :
    ∃ g ao n c l, ro = some ⟨g, 0, none⟩ ∧ w.cell? ⟨g, i, none⟩ = some (.slice ao n c) ∧ Hid (l.length = n ∧ n ≤ c) ∧ Hid (SlAt intRep P w ao l) ∧ Hid (ls[i]? = some l) := by
  obtain ⟨xs, rfl, h1, h2⟩ := h
  have hi' : i < xs.length := by simpa using hi
  rcases h1.cases with ⟨_, _, rfl⟩ | ⟨g, rfl, _, _, _⟩
  · simp at hi'
  · have hh := (h1.holds rwE_len).cell (i := i) (by simpa using hi') (show 0 < 1 by decide)
    simp only [Nat.zero_add, Nat.mul_one, Nat.add_zero] at hh
    obtain ⟨h3, h4⟩ := h2 xs[i] (List.getElem_mem hi')
    refine ⟨g, xs[i].1.ao, xs[i].1.n, xs[i].1.c, xs[i].2, rfl, ?_, Lib.hid ⟨h3.1.symm, h3.2⟩, Lib.hid h4, Lib.hid (by simp [hi'])⟩
    rw [hh.1, getElem!_pos xs.toArray i (by simpa using hi'), List.getElem_toArray]
    rfl
theorem TabMap.away {w : World} {mb N : Nat} {P : Nat → Prop} {T : Int → List Int} (h : TabMap w mb N P T) {ao : Option Addr} {xs : List Int} (hi : IntsAt w ao xs) (hne : xs ≠ []) : Away mb ao := by
  obtain ⟨D, ⟨es, clock, h1, _⟩, _⟩ := h
  intro a ha e
  obtain ⟨b, off, e2, hc⟩ := hi 0 (List.length_pos_iff.2 hne)
  rw [e2] at ha
  cases ha
  have := hc 0 (List.length_pos_iff.2 hne)
  simp only at e
  subst e
  simp [World.cell?, h1] at this
/-- The routes of a key that begin with the first of some neighbours. -/
def routesL (T : Int → List Int) (key : Int) (m : Nat) (l : List Int) : List (List Int) := l.map fun x => rtI T (key, x) m
theorem routesL_up {T : Int → List Int} {key : Int} {m : Nat} {l : List Int} {k : Nat} {y : Int} (hk : k < l.length) (h : l.getD k 0 = y) : routesL T key m (l.take (k + 1)) = routesL T key m (l.take k) ++ [rtI T (key, y) m] := by
  rw [take_getD l hk h]
  unfold routesL
  rw [List.map_append]
  rfl
theorem routesL_len (T : Int → List Int) (key : Int) (m : Nat) (l : List Int) : (routesL T key m l).length = l.length := List.length_map _
theorem infoSlI : (Tryz.prog.info? 22).map (fun i => (i.zero, i.size, i.bytes)) = some (some (.slice none 0 0), 1, 24) := by kernel_rfl

set_option maxHeartbeats 8000000 in
set_option maxRecDepth 100000 in
theorem all_any {Q : Nat → Prop} (sz : Int) (eo : Option Addr) (en ec : Nat) (go : Option Addr) (gn gc : Nat) (es : List EdD) (salt : ByteArray) (key nI : Int) (m mb N : Nat) (w : World) (h : SlAt edRep (fun b => b ≠ mb) w eo es) (hn : es.length = en) (hG : GraphT salt es) (hM : TabMap w mb N Q (tabI salt es)) (hQ : ∀ b, w.heap.size ≤ b → Q b) (hN : N + 12 * m ≤ 1000000) (hnI : nI = (m : Int) + 1) (hm : m ≤ 1000) :
    Calls Tryz.prog 94 #[.agg #[.int .i64 sz, .slice eo en ec, .slice go gn gc, .string salt, .map (some mb)], .int .i64 key, .int .i64 nI] w fun e w' => ∃ (ro : Option Addr) (rc n : Nat), e = .returned (.slice ro n rc) ∧ (nbI es key).length = n ∧ OwnRw w' w.heap.size ro rc (fun b => w.heap.size ≤ b) (routesL (tabI salt es) key m (nbI es key)) ∧ TabMap w' mb (N + 12 * m) Q (tabI salt es) ∧ Ex w.heap.size (some mb) w w' := by
  have HX := Lib.hid h
  have HN := Lib.hid hn
  have HG := Lib.hid hG
  have HM := Lib.hid hM
  have HNI := Lib.hid hnI
  have HQW := Lib.hid hQ
  have hmb := hM.lt
  have hen : en ≤ 1000 := by rw [← hn]; exact hG.len
  clear h hn hG hM hnI hQ
  go_enter Tryz.func94, Tryz.ntmps94
  go_upto_region 1 with (fail)
  obtain ⟨w1, hw1⟩ : ∃ w1 : World, w1 = w.alloc (.cells #[.int .i64 sz, .slice eo en ec, .slice go gn gc, .string salt, .map (some mb)] 124) := ⟨_, rfl⟩
  have HE1 : Hid (Ex w.heap.size none w w1) := Lib.hid (by rw [hw1]; exact Ex.new _ _)
  have hz1 : w.heap.size + 1 ≤ w1.heap.size := by rw [hw1]; simp
  have k : w1.heap[w.heap.size]? = some (.cells #[.int .i64 sz, .slice eo en ec, .slice go gn gc, .string salt, .map (some mb)] 124 (0, 0)) := by rw [hw1]; exact heap_alloc_new _ _
  have c0 : w1.cell? ⟨w.heap.size, 0, none⟩ = some (.int .i64 sz) := by rw [cell_of_row _ _ _ _ _ _ k]; rfl
  have c1 : w1.cell? ⟨w.heap.size, 1, none⟩ = some (.slice eo en ec) := by rw [cell_of_row _ _ _ _ _ _ k]; rfl
  have c2 : w1.cell? ⟨w.heap.size, 2, none⟩ = some (.slice go gn gc) := by rw [cell_of_row _ _ _ _ _ _ k]; rfl
  have c3 : w1.cell? ⟨w.heap.size, 3, none⟩ = some (.string salt) := by rw [cell_of_row _ _ _ _ _ _ k]; rfl
  have c4 : w1.cell? ⟨w.heap.size, 4, none⟩ = some (.map (some mb)) := by rw [cell_of_row _ _ _ _ _ _ k]; rfl
  rw [← hw1]
  clear hw1 k
  go_wp2_with fail
  refine (neigh_any sz eo en ec go gn gc es key w1 (HX.out.keep (by decide) fun b _ hb => HE1.out.block b hb (by simp)) HN.out hen).mono ?_
  rintro e w2 ⟨no, nc, n, rfl, hnn, hni, hex2⟩
  have HNN := Lib.hid hnn
  have HNI2 := Lib.hid hni
  have HE2 : Hid (Ex w.heap.size none w w2) := Lib.hid (HE1.out.trans hex2 (by omega) (by simp))
  have hz2 : w.heap.size + 1 ≤ w2.heap.size := by have := hex2.size; omega
  have hn12 : n ≤ 12 := by rw [← hnn]; exact HG.out.few key
  have HM2 : Hid (TabMap w2 mb N Q (tabI salt es)) := Lib.hid (HM.out.ex HE2.out (Nat.le_refl _))
  have HXW : Hid (∀ wr, Ex w2.heap.size (some mb) w2 wr → SlAt edRep (fun b => b ≠ mb) wr eo es) := Lib.hid (fun wr hx => (HX.out.keep (by decide) fun b hb hl => (hx.block b (by omega) (fun e => hb (Option.some.inj e))).trans (HE2.out.block b hl (by simp))))
  have HNW : Hid (∀ wr, Ex w2.heap.size (some mb) w2 wr → IntsAt wr no (nbI es key)) := Lib.hid (fun wr hx => HNI2.out.keep hx (Nat.le_refl _) fun q e hne => by cases e; exact HM2.out.away HNI2.out hne)
  clear hnn hni hex2 c0 c1 c2 c3 c4
  go_wp2_with fail
  go_loopw [7, 10, 18] (fun v _ i wr => ∃ (k : Nat) (ro : Option Addr) (rc : Nat), i = .int .i64 k ∧ k ≤ n ∧ v = .slice ro k rc ∧ Hid (OwnRw wr w2.heap.size ro rc (fun b => w2.heap.size ≤ b ∧ rowOf ro ≠ some b) (routesL (tabI salt es) key m ((nbI es key).take k))) ∧ Hid (TabMap wr mb (N + k * m) (fun b => Q b ∧ rowOf ro ≠ some b) (tabI salt es)) ∧ Hid (Ex w2.heap.size (some mb) w2 wr)) (fun _ _ i _ => n - (intOf i).toNat)
  case atStart => exact ⟨0, none, 0, rfl, by omega, rfl, Lib.hid (OwnRw.nil _ _ _), Lib.hid ((HM2.out.mono fun b hb _ => ⟨hb, by simp [rowOf]⟩).more (by omega)), Lib.hid (Ex.refl _ _ _)⟩
  case round =>
    obtain ⟨k, ro, rc, rfl, hk, rfl, HO, HMR, HEX⟩ := hrel
    have hszr : w2.heap.size ≤ wr.heap.size := HEX.out.size
    by_cases hlt : k < n
    · have hltI : (k : Int) < (n : Int) := by omega
      obtain ⟨nb, noff, y, rfl, cy, HY⟩ := (HNW.out wr HEX.out).get k (by rw [HNN.out]; exact hlt)
      have HUP : Hid (routesL (tabI salt es) key m ((nbI es key).take (k + 1)) = routesL (tabI salt es) key m ((nbI es key).take k) ++ [rtI (tabI salt es) (key, y) m]) := Lib.hid (routesL_up (by rw [HNN.out]; exact hlt) HY.out)
      have HF : Hid (key ∈ tabI salt es y) := Lib.hid (HG.out.tabs.sym _ _ (mem_tabI.2 (by
        rw [← HY.out, getD_eq (by rw [HNN.out]; exact hlt)]; exact List.getElem_mem _)))
      have hNk : N + k * m + m ≤ 1000000 := by
        have : k * m ≤ 11 * m := Nat.mul_le_mul_right _ (by omega)
        omega
      have HRT := Lib.hid (route_any (Q := fun b => Q b ∧ rowOf ro ≠ some b) sz eo en ec go gn gc es salt key y nI m mb (N + k * m) wr (HXW.out wr HEX.out) HN.out HG.out HMR.out (fun b hb => ⟨HQW.out b (by omega), fun e => by have := (HO.out.lt b e).2; omega⟩) hNk HNI.out hm HF.out)
      go_wp2_with fail
      refine HRT.out.mono ?_
      rintro e w3 ⟨po, pc, q, rfl, hq, hown3, htm3, hex3⟩
      have HE3 : Hid (Ex w2.heap.size (some mb) w2 w3) := Lib.hid (HEX.out.trans hex3 hszr (fun q e _ => by cases e; rfl))
      have hz3 : wr.heap.size ≤ w3.heap.size := hex3.size
      have HP3 : Hid (SlAt intRep (fun b => w2.heap.size ≤ b ∧ rowOf ro ≠ some b) w3 po (rtI (tabI salt es) (key, y) m)) := Lib.hid (hown3.sl.mono (by decide) fun b hb _ => ⟨by omega, fun e => by have := (HO.out.lt b e).2; omega⟩)
      have HQ3 : Hid (q = (rtI (tabI salt es) (key, y) m).length ∧ q ≤ pc) := Lib.hid ⟨by rw [hq, rtI_len], by have := hown3.cap; rw [rtI_len] at this; omega⟩
      have HM3 := Lib.hid htm3
      have HO3 : Hid (OwnRw w3 w2.heap.size ro rc (fun b => w2.heap.size ≤ b ∧ rowOf ro ≠ some b) (routesL (tabI salt es) key m ((nbI es key).take k))) := Lib.hid (HO.out.keep fun b hb hl => hex3.block b hl (fun e => by
        cases e
        rcases hb with hb | hb
        · have := (HO.out.lt _ hb).1; omega
        · have := hb.1; omega))
      clear hq hown3 htm3 hex3 HRT
      obtain ⟨xs, hxs, hoe, hok⟩ := HO3.out
      have HXS := Lib.hid hxs
      have HOE := Lib.hid hoe
      have HOK := Lib.hid hok
      have HLK : Hid (xs.length = k) := Lib.hid (by have := congrArg List.length hxs; rw [List.length_map, routesL_len, List.length_take, HNN.out] at this; omega)
      clear hxs hoe hok cy
      go_wp2_with (first
        | (at_builtin; refine wpList_appE2 rfl (.tmp 22) (.tmp 28) _ 22 (by rfl) Tryz.underlying127 _ 1 24 infoSlI rfl (by decide) (by decide) rwE rwE_len one_rwE w2.heap.size ro rc k xs HLK.out (by rfl) (some ⟨w3.heap.size, 0, none⟩) 1 1 (by rfl) [(⟨po, q, pc⟩, rtI (tabI salt es) (key, y) m)] rfl (HOE.out.keep (Ex.new w3 _) (Nat.le_refl _) (by simp)) (lit_cells (by rfl)) (by omega) (by simp; omega) (k + 1) (by omega) ?_
           intro ro4 rc4 w4 hown4 hex4 hb4 hr4
           have HB4 : Hid (∀ b, b < w3.heap.size → rowOf ro ≠ some b → w4.heap[b]? = w3.heap[b]?) := Lib.hid (fun b hl hne => (hb4 b (by simp; omega) hne).trans ((Ex.new w3 _).block b hl (by simp)))
           have HR4 : Hid (∀ b, b < w3.heap.size → rowOf ro ≠ some b → rowOf ro4 ≠ some b) := Lib.hid (fun b hl hne => by
             rcases hr4 with e | e
             · rw [e]; exact hne
             · rw [e]; simp; omega)
           have HX4 : Hid (Ex w2.heap.size (some mb) w2 w4) := Lib.hid ((HE3.out.trans ((Ex.new w3 _).mono (show w2.heap.size ≤ w3.heap.size by omega)) (Nat.le_refl _) (by simp)).trans hex4 (Nat.le_refl _) (by simp))
           have HOE4 := Lib.hid hown4
           clear hown4 hex4 hb4 hr4)
        | fail)
      go_roundw
      case rel =>
        refine ⟨k + 1, ro4, rc4, by go_num, by omega, rfl, Lib.hid ?_, Lib.hid ?_, HX4⟩
        · refine ⟨_, by rw [HUP.out, List.map_append, HXS.out]; rfl, HOE4.out, ?_⟩
          intro x hx
          have one : ∀ x, RwOK (fun b => w2.heap.size ≤ b ∧ rowOf ro ≠ some b) w3 x → RwOK (fun b => w2.heap.size ≤ b ∧ rowOf ro4 ≠ some b) w4 x := fun x h =>
            (((h.mono (P' := fun b => (w2.heap.size ≤ b ∧ rowOf ro ≠ some b) ∧ b < w3.heap.size) fun b hb hl => ⟨hb, hl⟩).keep (w' := w4) fun b hb hl => HB4.out b hl hb.1.2)).mono fun b hb _ => ⟨hb.1.1, HR4.out b hb.2 hb.1.2⟩
          rcases List.mem_append.1 hx with hx | hx
          · exact one x (HOK.out x hx)
          · rw [List.mem_singleton.1 hx]
            exact one _ ⟨HQ3.out, HP3.out⟩
        · refine ((((HM3.out.mono (P' := fun b => (Q b ∧ rowOf ro ≠ some b) ∧ b < w3.heap.size) fun b hb hl => ⟨hb, hl⟩).keep (w' := w4) fun b hb hl => HB4.out b hl ?_).mono fun b hb _ => ⟨hb.1.1, HR4.out b hb.2 hb.1.2⟩)).more (by rw [Nat.add_mul, Nat.one_mul]; omega)
          rcases hb with rfl | hb
          · intro e; have := (HO.out.lt _ e).1; omega
          · exact hb.1.2
      case measure => simp [intOf] <;> omega
    · have hltI : ¬ (k : Int) < (n : Int) := by omega
      have hkn : k = n := by omega
      have HF : Hid (OwnRw wr w2.heap.size ro rc (fun b => w2.heap.size ≤ b ∧ rowOf ro ≠ some b) (routesL (tabI salt es) key m (nbI es key)) ∧ (nbI es key).length = k) := Lib.hid (by
        have h := HO.out
        rw [hkn, ← HNN.out, List.take_length] at h
        exact ⟨h, by rw [HNN.out, hkn]⟩)
      have hkm : k * m ≤ 12 * m := Nat.mul_le_mul_right _ (by omega)
      have HKM : Hid (N + k * m ≤ N + 12 * m) := Lib.hid (by omega)
      clear hkn hlt hkm
      go_wp2
      go_ret
      obtain ⟨⟨xs, e1, e2, e3⟩, e4⟩ := HF.out
      refine ⟨ro, rc, k, rfl, e4, ⟨xs, e1, e2.lower (by omega), fun x hx => (e3 x hx).mono fun b hb _ => by omega⟩, (HMR.out.mono fun b hb _ => hb.1).more HKM.out, (HE2.out.weaken _).trans HEX.out (by omega) (fun q e _ => by cases e; rfl)⟩
end Go.Proofs.YtfllcohnfboccaaGreat

namespace Go.Proofs.YtfllcohnfboccaaGreat
open Go.RowKit Go.Sort Go.Maps

theorem Tryz.sizeA2 : (Tryz.prog.info? 131).map (·.size) = some 2 := by kernel_rfl
set_option maxHeartbeats 2000000 in
set_option maxRecDepth 100000 in
theorem last_any (ao : Option Addr) (n cap : Nat) (l : List Int) (a b : Int) (w : World) (h : IntsAt w ao l) (hl : l.length = n ∧ n ≤ cap) (h2 : 2 ≤ n) (hm : n ≤ 1000000) (ha : l.getD (n - 2) 0 = a) (hb : l.getD (n - 1) 0 = b) :
    Calls Tryz.prog 97 #[.slice ao n cap] w fun e w' => e = .returned (.agg #[.int .i64 a, .int .i64 b]) ∧ Ex w.heap.size none w w' := by
  obtain ⟨i0, hi0⟩ : ∃ i0, i0 = n - 2 := ⟨_, rfl⟩
  rw [← hi0] at ha
  have hw0 : IntKind.i64.wrap ((n : Int) - 2) = (i0 : Int) := by rw [IntWalk.i64_in _ (by omega)]; omega
  have h0 : (0 : Int) ≤ (i0 : Int) := by omega
  have h0n : (i0 : Int) ≤ (n : Int) := by omega
  have hnc : (n : Int) ≤ (cap : Int) := by omega
  have h0c : (i0 : Int) ≤ (cap : Int) := by omega
  have hd2 : n - i0 = 2 := by omega
  have hdc : 2 ≤ cap - i0 := by omega
  obtain ⟨bb, off, rfl, hc⟩ := h 0 (by omega)
  have ca : w.cell? ⟨bb, off + i0, none⟩ = some (.int .i64 a) := by rw [hc i0 (by omega), ha]
  have cb : w.cell? ⟨bb, off + i0 + 1, none⟩ = some (.int .i64 b) := by rw [Nat.add_assoc, hc (i0 + 1) (by omega), show i0 + 1 = n - 1 by omega, hb]
  have hbl : bb < w.heap.size := World.block_lt_of_cell? w _ ca
  have hce : ¬ (cap = i0) := by omega
  clear h hl hi0 ha hb hc
  go_enter Tryz.func97, Tryz.ntmps97
  go_upto_region 1 with (fail)
  obtain ⟨w1, hw1⟩ : ∃ w1 : World, w1 = w.alloc (.cells #[.int .i64 0, .int .i64 0] 131) := ⟨_, rfl⟩
  have HE1 : Hid (Ex w.heap.size none w w1) := Lib.hid (by rw [hw1]; exact Ex.new _ _)
  have HB1 : Hid (w1.heap[w.heap.size]? = some (.cells #[.int .i64 0, .int .i64 0] 131 (0, 0))) := Lib.hid (by rw [hw1]; exact heap_alloc_new _ _)
  have ca1 : w1.cell? ⟨bb, off + i0, none⟩ = some (.int .i64 a) := (World.cell?_of_block (w := w) (HE1.out.block bb hbl (by simp))).trans ca
  have cb1 : w1.cell? ⟨bb, off + i0 + 1, none⟩ = some (.int .i64 b) := (World.cell?_of_block (w := w) (HE1.out.block bb hbl (by simp))).trans cb
  rw [← hw1]
  clear hw1 ca cb
  have hat : ∀ w (a : Option Addr) (c : Nat), (Instr.arrayAt 131 (.slice a 2 c)).run Tryz.prog w = .ok (.pointer a) w := fun w a c => run_arrayAt w 131 _ 2 a 2 c Tryz.underlying131 (Nat.le_refl _)
  go_wp2_with (refine wpList_store_rowTo rfl 131 (.tmp 2) (.tmp 9) rfl rfl w.heap.size #[.int .i64 a, .int .i64 b] (by rfl) (by rfl) 131 _ HB1.out Tryz.sizeA2 rfl (by simp [Value.oneCell']) ?_)
  refine bodyPost_ret (v := .agg #[.int .i64 a, .int .i64 b]) (results_cell_row rfl _ _ w.heap.size 131 _ _ _ (by rfl) (setRow_heap _ _ _ _ _ _ HB1.out) Tryz.underlying131 rfl Tryz.sizeA2) rfl ?_
  exact ⟨rfl, HE1.out.row _ _ (.inr (Nat.le_refl _))⟩

theorem Tryz.rowA2 : (131 : TypeId) < Tryz.prog.types.size := of_decide_eq_true (by kernel_rfl)
theorem Tryz.cellsA2 : Tryz.prog.cellsOf 131 = 2 := by kernel_rfl
theorem Tryz.deepA2 : Tryz.prog.keyType 131 = true := by kernel_rfl
theorem Tryz.wideA2 : (match Tryz.prog.underlying 131 with | some (.array _ _) | some (.struct _) => true | _ => false) = true := by rw [Tryz.underlying131]
set_option maxRecDepth 100000 in
theorem Tryz.lawA2 : WideMaps.KeyLaw Tryz.prog 131 := deep_law_laid Tryz.laidOut (m := 2) (by omega) Tryz.rowA2 (by kernel_rfl) Tryz.wideA2
theorem Tryz.keyedA2 : Keyed Tryz.prog 131 := Keyed.of_law Tryz.lawA2
set_option maxRecDepth 100000 in
theorem keyOf_A2 (k a : Int) (hk : 0 ≤ k ∧ k < 64) (ha : 0 ≤ a ∧ a < 64) : keyOf Tryz.prog 131 (.agg #[.int .i64 k, .int .i64 a]) = some (keyL k a) := by
  have w1 : (Lit.int .i64 k).wf = true := WalkArith.wf_i64 (by omega)
  have w2 : (Lit.int .i64 a).wf = true := WalkArith.wf_i64 (by omega)
  obtain ⟨m, hm⟩ : ∃ m, Tryz.prog.types.size = m + 1 := ⟨_, (Nat.succ_pred_eq_of_pos (Nat.lt_of_le_of_lt (Nat.zero_le _) Tryz.rowA2)).symm⟩
  unfold keyOf
  simp only [Tryz.underlying131, Tryz.deepA2, Value.formed, Tryz.cellsA2, Bool.true_and]
  rw [hm]
  have hr : List.range 2 = [0, 1] := rfl
  simp [Program.keyLits, hr, Tryz.underlying131, Tryz.underlying3, Tryz.cellsA2, Tryz.cellsInt, Value.cells, w1, w2, keyL]
end Go.Proofs.YtfllcohnfboccaaGreat

namespace Go.Proofs.YtfllcohnfboccaaGreat
open Go.RowKit Go.Sort Go.Maps

/-- Whether numbers meet some keys. -/
def meetI (keys r : List Int) : Bool := r.any fun x => hasI keys x
theorem meetI_up {keys r : List Int} {k : Nat} {y : Int} (hk : k < r.length) (h : r.getD k 0 = y) : meetI keys (r.take (k + 1)) = (meetI keys (r.take k) || hasI keys y) := by
  rw [take_getD r hk h]
  simp [meetI]
theorem meetI_hit {keys r : List Int} {k : Nat} {y : Int} (hk : k < r.length) (h : r.getD k 0 = y) (hy : hasI keys y = true) : meetI keys r = true := by
  unfold meetI
  rw [List.any_eq_true]
  exact ⟨y, by rw [← h, getD_eq hk]; exact List.getElem_mem _, hy⟩
set_option maxHeartbeats 1000000 in
theorem escClos_any (bx : Nat) (ko : Option Addr) (kn kc : Nat) (keys : List Int) (x : Int) (w : World) (hc : w.cell? ⟨bx, 0, none⟩ = some (.slice ko kn kc)) (hk : IntsAt w ko keys) (hn : keys.length = kn) (hm : kn ≤ 1000000) :
    Calls Tryz.prog 96 #[.int .i64 x, .pointer (some ⟨bx, 0, none⟩)] w fun e w' => e = .returned (.bool (hasI keys x)) ∧ w = w' := by
  have HK := Lib.hid hk
  have HN := Lib.hid hn
  clear hk hn
  go_enter Tryz.func96, Tryz.ntmps96
  go_wp2_with (go_at_call 58; refine (contains_any _ keys x w ⟨ko, kc, by rw [HN.out], HK.out⟩ (by rw [HN.out]; omega)).mono ?_; rintro e w' ⟨rfl, rfl⟩)
  go_ret
  exact ⟨rfl, rfl⟩
set_option maxHeartbeats 2000000 in
theorem indexF_any (bx : Nat) (ko : Option Addr) (kn kc : Nat) (keys : List Int) (ao : Option Addr) (n cap : Nat) (xs : List Int) (w : World) (hc : w.cell? ⟨bx, 0, none⟩ = some (.slice ko kn kc)) (hk : IntsAt w ko keys) (hn : keys.length = kn) (hm : kn ≤ 1000000) (hx : IntsAt w ao xs) (hl : xs.length = n) (hm2 : n ≤ 1000000) :
    Calls Tryz.prog 104 #[.slice ao n cap, .func (.func 96) #[] #[.pointer (some ⟨bx, 0, none⟩)]] w fun e w' => ∃ i, e = .returned (.int .i64 i) ∧ Hid (0 ≤ i ↔ meetI keys xs = true) ∧ w = w' := by
  have HX := Lib.hid hx
  have HL := Lib.hid hl
  have HCL := Lib.hid (fun x => escClos_any bx ko kn kc keys x w hc hk hn hm)
  clear hc hk hn hx hl
  go_enter Tryz.func104, Tryz.ntmps104
  go_wp2
  go_loop [5, 8] (fun _ i => ∃ k : Nat, k ≤ n ∧ i = .int .i64 k ∧ Hid (meetI keys (xs.take k) = false)) (fun _ i => n - (intOf i).toNat)
  case atStart => exact ⟨0, Nat.zero_le _, rfl, Lib.hid rfl⟩
  case round =>
    obtain ⟨k, hk, rfl, HNO⟩ := hrel
    by_cases hlt : k < n
    · have hltI : (k : Int) < (n : Int) := by omega
      obtain ⟨b, off, y, rfl, hck, HY⟩ := HX.out.get k (by rw [HL.out]; exact hlt)
      cases hb : hasI keys y with
      | true =>
        have HR : Hid (meetI keys xs = true) := Lib.hid (meetI_hit (by rw [HL.out]; exact hlt) HY.out hb)
        go_wp2_with (go_at_call 96; refine (HCL.out y).mono ?_; rw [hb]; rintro e w' ⟨rfl, rfl⟩)
        go_ret
        exact ⟨_, rfl, Lib.hid (by rw [HR.out]; simp), rfl⟩
      | false =>
        have HR : Hid (meetI keys (xs.take (k + 1)) = false) := Lib.hid (by rw [meetI_up (by rw [HL.out]; exact hlt) HY.out, HNO.out, hb]; rfl)
        go_wp2_with (go_at_call 96; refine (HCL.out y).mono ?_; rw [hb]; rintro e w' ⟨rfl, rfl⟩)
        go_round
        case rel => exact ⟨k + 1, by omega, by go_num, HR⟩
        case measure => simp [intOf] <;> omega
    · have hltI : ¬ (k : Int) < (n : Int) := by omega
      have HR : Hid (meetI keys xs = false) := Lib.hid (by
        have h := HNO.out
        rwa [List.take_of_length_le (by rw [HL.out]; omega)] at h)
      go_wp2
      go_ret
      exact ⟨_, rfl, Lib.hid (by rw [HR.out]; simp), rfl⟩
set_option maxHeartbeats 1000000 in
theorem containsF_any (bx : Nat) (ko : Option Addr) (kn kc : Nat) (keys : List Int) (ao : Option Addr) (n cap : Nat) (xs : List Int) (w : World) (hc : w.cell? ⟨bx, 0, none⟩ = some (.slice ko kn kc)) (hk : IntsAt w ko keys) (hn : keys.length = kn) (hm : kn ≤ 1000000) (hx : IntsAt w ao xs) (hl : xs.length = n) (hm2 : n ≤ 1000000) :
    Calls Tryz.prog 95 #[.slice ao n cap, .func (.func 96) #[] #[.pointer (some ⟨bx, 0, none⟩)]] w fun e w' => e = .returned (.bool (meetI keys xs)) ∧ w = w' := by
  have HI := Lib.hid (indexF_any bx ko kn kc keys ao n cap xs w hc hk hn hm hx hl hm2)
  clear hc hk hx hl hn
  go_enter Tryz.func95, Tryz.ntmps95
  go_wp2_with (go_at_call 104; refine HI.out.mono ?_; rintro e w' ⟨i, rfl, hi, rfl⟩)
  go_ret
  refine ⟨ret_bool ?_, rfl⟩
  have h := hi.out
  show decide (0 ≤ i) = _
  rw [Bool.eq_iff_iff, decide_eq_true_eq, h]

/-- How many of the routes of a key meet some keys. -/
def escL (T : Int → List Int) (keys : List Int) (key : Int) (m : Nat) (l : List Int) : Nat := l.countP fun x => meetI keys (rtI T (key, x) m)
theorem escL_up {T : Int → List Int} {keys : List Int} {key : Int} {m : Nat} {l : List Int} {k : Nat} {r : List Int} (h : (routesL T key m l)[k]? = some r) : escL T keys key m (l.take (k + 1)) = escL T keys key m (l.take k) + if meetI keys r = true then 1 else 0 := by
  obtain ⟨hk, e⟩ := List.getElem?_eq_some_iff.1 h
  have hk' : k < l.length := by simpa [routesL] using hk
  have e2 : l.take (k + 1) = l.take k ++ [l[k]] := by rw [List.take_add_one]; simp [hk']
  unfold escL
  rw [e2, List.countP_append]
  congr 1
  have e3 : r = rtI T (key, l[k]) m := by rw [← e]; simp [routesL]
  rw [e3]
  simp [List.countP_cons]
def escV (salt : ByteArray) (es : List EdD) (keys : List Int) (key n : Int) : Nat := if lenOK n = true then escL (tabI salt es) keys key (n.toNat - 1) (nbI es key) else 0
set_option maxHeartbeats 8000000 in
set_option maxRecDepth 100000 in
theorem escapes_any {P : Nat → Prop} (sz : Int) (eo : Option Addr) (en ec : Nat) (go : Option Addr) (gn gc : Nat) (es : List EdD) (salt : ByteArray) (key n : Int) (ko : Option Addr) (kn kc : Nat) (keys : List Int) (w : World) (h : SlAt edRep P w eo es) (hn : es.length = en) (hG : GraphT salt es) (hk : IntsAt w ko keys) (hkn : keys.length = kn) (hkm : kn ≤ 1000000) :
    Calls Tryz.prog 45 #[.agg #[.int .i64 sz, .slice eo en ec, .slice go gn gc], .string salt, .int .i64 key, .int .i64 n, .slice ko kn kc] w fun e w' => e = .returned (.int .i64 (escV salt es keys key n : Nat)) ∧ Ex w.heap.size none w w' := by
  have HX := Lib.hid h
  have HN := Lib.hid hn
  have HG := Lib.hid hG
  have HK := Lib.hid hk
  have HKN := Lib.hid hkn
  clear h hn hG hk hkn
  cases hb : lenOK n with
  | false =>
    have HR : Hid (escV salt es keys key n = 0) := Lib.hid (by unfold escV; rw [if_neg (by rw [hb]; simp)])
    go_enter Tryz.func45, Tryz.ntmps45
    go_wp2_with (first
      | (go_at_call 90; refine (length_any n _).mono ?_; rw [hb]; rintro e w' ⟨rfl, rfl⟩)
      | fail)
    go_ret
    exact ⟨by rw [HR.out]; rfl, ex_two0 _ _⟩
  | true =>
    have hn1 := lenOK_iff.1 hb
    obtain ⟨m, hm⟩ : ∃ m, m = n.toNat - 1 := ⟨_, rfl⟩
    have hnm : Hid (n = (m : Int) + 1) := Lib.hid (by omega)
    have hm99 : m ≤ 1000 := by omega
    have HR : Hid (escV salt es keys key n = escL (tabI salt es) keys key m (nbI es key)) := Lib.hid (by unfold escV; rw [if_pos hb, ← hm])
    clear hm hn1
    go_enter Tryz.func45, Tryz.ntmps45
    go_upto_region 1 with (fail)
    obtain ⟨w1, hw1⟩ : ∃ w1 : World, w1 = (w.alloc (.cells #[.int .i64 sz, .slice eo en ec, .slice go gn gc] 64)).alloc (.cells #[.slice ko kn kc] 22) := ⟨_, rfl⟩
    have HE1 : Hid (Ex w.heap.size none w w1) := Lib.hid (by rw [hw1]; exact ex_two0 _ _)
    have hz1 : w.heap.size + 2 ≤ w1.heap.size := by rw [hw1]; simp
    have k1 : w1.heap[w.heap.size]? = some (.cells #[.int .i64 sz, .slice eo en ec, .slice go gn gc] 64 (0, 0)) := by rw [hw1]; exact heap_alloc2_old _ _ _
    have HKB : Hid (∀ w', Ex w1.heap.size none w1 w' → w'.cell? ⟨w.heap.size + 1, 0, none⟩ = some (.slice ko kn kc)) := Lib.hid (fun w' hx => by
      have k2 : w'.heap[w.heap.size + 1]? = some (.cells #[.slice ko kn kc] 22 (0, 0)) := (hx.block _ (by omega) (by simp)).trans (by rw [hw1]; exact heap_alloc2_new _ _ _)
      rw [cell_of_row _ _ _ _ _ _ k2]; rfl)
    have c0 : w1.cell? ⟨w.heap.size, 0, none⟩ = some (.int .i64 sz) := by rw [cell_of_row _ _ _ _ _ _ k1]; rfl
    have c1 : w1.cell? ⟨w.heap.size, 1, none⟩ = some (.slice eo en ec) := by rw [cell_of_row _ _ _ _ _ _ k1]; rfl
    have c2 : w1.cell? ⟨w.heap.size, 2, none⟩ = some (.slice go gn gc) := by rw [cell_of_row _ _ _ _ _ _ k1]; rfl
    rw [← hw1]
    clear hw1 k1
    go_wp2_with fail
    refine (length_any n _).mono ?_
    rw [hb]
    rintro e w' ⟨rfl, rfl⟩
    go_wp2_with fail
    refine (start_any sz eo en ec go gn gc salt w1).mono ?_
    rintro e w3 ⟨mb, rfl, hmb, htm, hex3⟩
    have HTM := Lib.hid htm
    have HE3 : Hid (Ex w.heap.size none w w3) := Lib.hid (HE1.out.trans hex3 (by omega) (by simp))
    have HE13 := Lib.hid hex3
    have hz3 : w1.heap.size ≤ w3.heap.size := hex3.size
    have HX3 : Hid (SlAt edRep (fun b => b ≠ mb) w3 eo es) := Lib.hid (((HX.out.mono (P' := fun b => b < w.heap.size) (by decide) fun b _ hb => hb).keep (by decide) fun b _ hb => HE3.out.block b hb (by simp)).mono (by decide) fun b hb _ => by omega)
    clear htm hex3 c0 c1 c2
    go_wp2_with fail
    refine (all_any (Q := fun _ => True) sz eo en ec go gn gc es salt key n m mb 0 w3 HX3.out HN.out HG.out (HTM.out _ _) (fun _ _ => trivial) (by omega) hnm.out hm99).mono ?_
    rintro e w4 ⟨ro, rc, q, rfl, hq, hrw, _, hex4⟩
    have HQ := Lib.hid hq
    have HRW := Lib.hid hrw
    have HE4 : Hid (Ex w1.heap.size none w1 w4) := Lib.hid (HE13.out.trans ((hex4.mono (show w1.heap.size ≤ w3.heap.size by omega)).above (by omega)) (Nat.le_refl _) (by simp))
    have hz4 : w1.heap.size ≤ w4.heap.size := HE4.out.size
    have hq12 : q ≤ 12 := by rw [← hq]; exact HG.out.few key
    clear hq hrw hex4
    have hkb := HKB.out w4 HE4.out
    have HCF := Lib.hid (fun ao r cap (xs : List Int) hx hl hr => containsF_any (w.heap.size + 1) ko kn kc keys ao r cap xs w4 hkb (HK.out.keep (HE1.out.trans HE4.out (by omega) (by simp)) (Nat.le_refl _) (by simp)) HKN.out hkm hx hl hr)
    clear hkb
    go_wp2_with fail
    go_loopw [11, 13, 24] (fun c _ i wr => ∃ (k cn : Nat), i = .int .i64 k ∧ k ≤ q ∧ c = .int .i64 cn ∧ cn ≤ k ∧ Hid (cn = escL (tabI salt es) keys key m ((nbI es key).take k)) ∧ Hid (w4 = wr)) (fun _ _ i _ => q - (intOf i).toNat)
    case atStart => exact ⟨0, 0, rfl, by omega, rfl, by omega, Lib.hid rfl, Lib.hid (by first | rfl | trivial)⟩
    case round =>
      obtain ⟨k, cn, rfl, hk, rfl, hcn, HCN, HW⟩ := hrel
      have hw := HW.out
      subst hw
      by_cases hlt : k < q
      · have hltI : (k : Int) < (q : Int) := by omega
        obtain ⟨g, ao, r, c, l, rfl, hcl, HLR, HSL, HLK⟩ := HRW.out.get k (by rw [routesL_len, HQ.out]; exact hlt)
        have HLL : Hid (l.length = m + 2) := Lib.hid (by
          obtain ⟨hk', e⟩ := List.getElem?_eq_some_iff.1 HLK.out
          rw [← e]
          simp [routesL, rtI_len])
        have HUP := Lib.hid (escL_up (keys := keys) HLK.out)
        cases hbm : meetI keys l with
        | true =>
          have HU2 : Hid (cn + 1 = escL (tabI salt es) keys key m ((nbI es key).take (k + 1))) := Lib.hid (by rw [HUP.out, if_pos hbm, HCN.out])
          go_wp2_with (go_at_call 95; refine (HCF.out ao r c l (slI_ints HSL.out) HLR.out.1 (by rw [← HLR.out.1, HLL.out]; omega)).mono ?_; rw [hbm]; rintro e w' ⟨rfl, rfl⟩)
          go_roundw
          case rel => exact ⟨k + 1, cn + 1, by go_num, by omega, by go_num, by omega, HU2, Lib.hid (by first | rfl | trivial)⟩
          case measure => simp [intOf] <;> omega
        | false =>
          have HU2 : Hid (cn = escL (tabI salt es) keys key m ((nbI es key).take (k + 1))) := Lib.hid (by rw [HUP.out, if_neg (by rw [hbm]; simp), HCN.out]; rfl)
          go_wp2_with (go_at_call 95; refine (HCF.out ao r c l (slI_ints HSL.out) HLR.out.1 (by rw [← HLR.out.1, HLL.out]; omega)).mono ?_; rw [hbm]; rintro e w' ⟨rfl, rfl⟩)
          go_roundw
          case rel => exact ⟨k + 1, cn, by go_num, by omega, by go_num, by omega, HU2, Lib.hid (by first | rfl | trivial)⟩
          case measure => simp [intOf] <;> omega
      · have hltI : ¬ (k : Int) < (q : Int) := by omega
        have HF : Hid (escV salt es keys key n = cn) := Lib.hid (by
          have hkq : k = q := by omega
          rw [HR.out, HCN.out, hkq, ← HQ.out, List.take_length])
        go_wp2
        go_ret
        exact ⟨by rw [HF.out]; rfl, HE1.out.trans HE4.out (by omega) (by simp)⟩
end Go.Proofs.YtfllcohnfboccaaGreat
