/- guardian.All at whatever statements: a contract, no statement of the seat. -/
import Derived.Test.YtaghfcnpnfhacaaGreatMg08
import Derived.Test.YtaghfcnpnfhacaaGreatGuardOfG
import Derived.Maps.OwnOps
namespace Go.Proofs.YtaghfcnpnfhacaaGreat
open Go.RowKit Go.Maps Go.Sort

set_option maxHeartbeats 16000000 in
set_option maxRecDepth 100000 in
theorem guardAll_any {P : Nat → Prop} (v : Value) (l : List St) (w : World) (hv : Sl stRep P w v l) (hm : l.length ≤ 100000) (hL : LightL 9223372036854775807 l) :
    Calls Tryz.prog 73 #[v] w fun e w' => ∃ (ro : Option Addr) (rc n : Nat), e = .returned (.slice ro n rc) ∧ (guardsTo l 64).length = n ∧ Sl guardRep (fun _ => True) w' (.slice ro n rc) (guardsTo l 64) ∧ Ex w.heap.size none w w' := by
  obtain ⟨ao, cap, rfl, hx⟩ := hv
  have HX := Lib.hid hx
  have HLL := Lib.hid hL
  clear hx hL
  have hmm := @run_makeMap Tryz.prog
  go_enter Tryz.func73, Tryz.ntmps73
  go_upto_region 2 with (fail)
  obtain ⟨w1, hw1⟩ : ∃ w1 : World, w1 = w.alloc (.map #[] 0) := ⟨_, rfl⟩
  have HM0 : Hid (w1.ownsMap Tryz.prog 3 valElem w.heap.size 0 (mapV (([] : List (GuardD × Sv)).map storeG))) := Lib.hid (by rw [hw1]; exact World.ownsMap_made _ _ _ _)
  have HE1 : Hid (Ex w.heap.size none w w1) := Lib.hid (by rw [hw1]; exact Ex.new _ _)
  have hz1 : w.heap.size < w1.heap.size := by rw [hw1]; simp
  rw [← hw1]
  clear hw1 hmm
  go_wp2_with fail
  go_loopw [5, 6, 7, 15] (fun _ _ _ i wr => ∃ (k m : Nat) (ys : List (GuardD × Sv)), i = .int .i64 k ∧ k ≤ l.length ∧ m ≤ k ∧ w.heap.size < wr.heap.size ∧ Hid (ys.map (·.1) = ((l.take k).filter guardB).map guardS) ∧ Hid (wr.ownsMap Tryz.prog 3 valElem w.heap.size m (mapV (ys.map storeG))) ∧ Hid (∀ y ∈ ys, LieG (fun b => w.heap.size < b) wr y) ∧ Ex w.heap.size none w wr) (fun _ _ _ i _ => l.length - (intOf i).toNat)
  case atStart => exact ⟨0, 0, [], rfl, by omega, by omega, hz1, Lib.hid rfl, HM0, Lib.hid (fun y hy => by cases hy), HE1.out⟩
  case round =>
    obtain ⟨k, m, ys, rfl, hk, hmk, hsz, HYS, HM, HLY, hex⟩ := hrel
    have HEX := Lib.hid hex
    by_cases hlt : k < l.length
    · have hltI : (k : Int) < (l.length : Int) := by omega
      obtain ⟨b, off, s, ⟨lo, ln, lc⟩, ⟨po, pn, pc⟩, rfl, _, hls, hr, HXs⟩ := st_get (HX.out.keep (by decide) (fun b _ hb => hex.block b hb (by simp))) k hlt
      have HLG : Hid (s.list.length ≤ 9223372036854775807 ∧ s.pins.length ≤ 9223372036854775807) := Lib.hid (HLL.out s (List.mem_of_getElem? HXs.out))
      have hc := st_at hr
      simp only [Sv.v] at hc
      obtain ⟨c0, c1, c2, c3, c4, c5, c6, c7, c8, c9, c10, c11, c12⟩ := hc
      have HLS := Lib.hid hls
      have HKM : Hid (∀ w', Ex wr.heap.size none wr w' → w'.ownsMap Tryz.prog 3 valElem w.heap.size m (mapV (ys.map storeG))) := Lib.hid (fun w' h => by
        obtain ⟨es, clock, q1, q2⟩ := HM.out
        exact ⟨es, clock, (h.block _ (HM.out.lt) (by simp)).trans q1, q2⟩)
      have HKY : Hid (∀ w', Ex wr.heap.size none wr w' → ∀ y ∈ ys, LieG (fun b => w.heap.size < b) w' y) := Lib.hid (fun w' h y hy => (HLY.out y hy).keep fun b _ hb => h.block b hb (by simp))
      clear hls hr hex HM HLY
      go_upto_region 5 with (fail)
      obtain ⟨ws, hws⟩ : ∃ ws : World, ws = wr.alloc (.cells #[.int .i64 s.author, .int .i64 s.number, .string s.prev, .int .i64 s.time, .int .i64 s.kind, .int .i64 s.a, .int .i64 s.b, .int .i64 s.c, .slice lo ln lc, .slice po pn pc, .string s.body, .int .i64 s.key, .string s.dig] 48) := ⟨_, rfl⟩
      have HEs : Hid (Ex wr.heap.size none wr ws) := Lib.hid (by rw [hws]; exact Ex.new _ _)
      have hzs : ws.heap.size = wr.heap.size + 1 := by rw [hws]; simp
      have HQ : Hid (∀ w', Ex ws.heap.size none ws w' → w'.cell? ⟨wr.heap.size, 0, none⟩ = some (.int .i64 s.author) ∧ w'.cell? ⟨wr.heap.size, 1, none⟩ = some (.int .i64 s.number) ∧ w'.cell? ⟨wr.heap.size, 2, none⟩ = some (.string s.prev) ∧ w'.cell? ⟨wr.heap.size, 3, none⟩ = some (.int .i64 s.time) ∧ w'.cell? ⟨wr.heap.size, 4, none⟩ = some (.int .i64 s.kind) ∧ w'.cell? ⟨wr.heap.size, 5, none⟩ = some (.int .i64 s.a) ∧ w'.cell? ⟨wr.heap.size, 6, none⟩ = some (.int .i64 s.b) ∧ w'.cell? ⟨wr.heap.size, 7, none⟩ = some (.int .i64 s.c) ∧ w'.cell? ⟨wr.heap.size, 8, none⟩ = some (.slice lo ln lc) ∧ w'.cell? ⟨wr.heap.size, 9, none⟩ = some (.slice po pn pc) ∧ w'.cell? ⟨wr.heap.size, 10, none⟩ = some (.string s.body) ∧ w'.cell? ⟨wr.heap.size, 11, none⟩ = some (.int .i64 s.key) ∧ w'.cell? ⟨wr.heap.size, 12, none⟩ = some (.string s.dig)) := Lib.hid (fun w' h => (st_block ((h.block _ (by omega) (by simp)).trans (by rw [hws]; exact heap_alloc_new _ _))).1)
      rw [← hws]
      clear hws c0 c1 c2 c3 c4 c5 c6 c7 c8 c9 c10 c11 c12
      obtain ⟨d0, d1, d2, d3, d4, d5, d6, d7, d8, d9, d10, d11, d12⟩ := HQ.out _ (Ex.refl _ _ ws)
      cases hg : guardB s with
      | false =>
        have HNO := Lib.hid (guardsY_no HXs.out HYS.out hg)
        go_upto_region 6 with (first
          | (go_at_call 151; refine (guardOf_any s lo po ln lc pn pc _ (HLS.out.keep fun b _ hb => HEs.out.block b hb (by simp)) HLG.out).mono ?_; rintro e w2 ⟨go, gn, ga, gl, gc, er, rfl, hof, hex2⟩; have HER := Lib.hid (hof.no hg); have HE2 : Hid (Ex wr.heap.size none wr w2) := Lib.hid (HEs.out.trans hex2 (by omega) (by simp)); have hz2 : ws.heap.size ≤ w2.heap.size := hex2.size; clear hof hex2 d0 d1 d2 d3 d4 d5 d6 d7 d8 d9 d10 d11 d12)
          | fail)
        have ker : (er == 0) = false := by simpa using HER.out
        obtain ⟨w3, hw3⟩ : ∃ w3 : World, w3 = w2.alloc (.cells #[.int .i64 go, .int .i64 gn, .slice ga gl gc] 113) := ⟨_, rfl⟩
        have HE3 : Hid (Ex wr.heap.size none wr w3) := Lib.hid (by rw [hw3]; exact HE2.out.alloc (by omega) _)
        have hz3 : w.heap.size < w3.heap.size := by rw [hw3]; simp; omega
        rw [← hw3]
        clear hw3
        go_wp2_with fail
        go_roundw
        case rel => exact ⟨k + 1, m, ys, by go_num, by omega, by omega, hz3, HNO, Lib.hid (HKM.out _ HE3.out), Lib.hid (HKY.out _ HE3.out), HEX.out.trans HE3.out (by omega) (by simp)⟩
        case measure => simp [intOf] <;> omega
      | true =>
        have HSA : Hid (0 ≤ s.author ∧ s.author < 64) := Lib.hid (by have h := guardB_valid hg; simp only [validG, Bool.and_eq_true, decide_eq_true_eq] at h; exact ⟨h.1.1.1.1.1.1, h.1.1.1.1.1.2⟩)
        go_upto_region 6 with (first
          | (go_at_call 151; refine (guardOf_any s lo po ln lc pn pc _ (HLS.out.keep fun b _ hb => HEs.out.block b hb (by simp)) HLG.out).mono ?_; rintro e w2 ⟨go, gn, ga, gl, gc, er, rfl, hof, hex2⟩; obtain ⟨rfl, rfl, rfl, hsl⟩ := hof.yes hg; have HSL := Lib.hid hsl; have HE2 : Hid (Ex wr.heap.size none wr w2) := Lib.hid (HEs.out.trans hex2 (by omega) (by simp)); have hz2 : ws.heap.size ≤ w2.heap.size := hex2.size; clear hof hsl hex2 d0 d1 d2 d3 d4 d5 d6 d7 d8 d9 d10 d11 d12)
          | fail)
        obtain ⟨w3, hw3⟩ : ∃ w3 : World, w3 = w2.alloc (.cells #[.int .i64 s.author, .int .i64 s.a, .slice ga gl gc] 113) := ⟨_, rfl⟩
        have HE3 : Hid (Ex wr.heap.size none wr w3) := Lib.hid (by rw [hw3]; exact HE2.out.alloc (by omega) _)
        have hz3 : w3.heap.size = w2.heap.size + 1 := by rw [hw3]; simp
        have HSL3 : Hid (LieG (fun b => w.heap.size < b) w3 ((s.author, s.a, s.list), ⟨ga, gl, gc⟩)) := Lib.hid (by
          rw [hw3]
          exact (Sl.keep HSL.out (by decide) fun b _ hb => (Ex.new _ _).block b hb (by simp)).mono (by decide) fun b h _ => by omega)
        obtain ⟨g0, g1, g2⟩ : w3.cell? ⟨w2.heap.size, 0, none⟩ = some (.int .i64 s.author) ∧ w3.cell? ⟨w2.heap.size, 1, none⟩ = some (.int .i64 s.a) ∧ w3.cell? ⟨w2.heap.size, 2, none⟩ = some (.slice ga gl gc) := by
          have k : w3.heap[w2.heap.size]? = some (.cells #[.int .i64 s.author, .int .i64 s.a, .slice ga gl gc] 113 (0, 0)) := by rw [hw3]; exact heap_alloc_new _ _
          refine ⟨?_, ?_, ?_⟩ <;> (rw [cell_of_row _ _ _ _ _ _ k]; rfl)
        rw [← hw3]
        clear hw3
        go_wp2_with (at_mapUpdate; refine wpList_mapUpdate_own _ rfl _ _ _ _ rfl 3 113 (int_keyed Tryz.underlying3) Tryz.underlying181 valElem w.heap.size m _ (by rfl) (HKM.out _ HE3.out) (by unfold maxLen; omega) _ _ (.int .i64 s.author) (by rfl) (by rfl) (keyOf_int_mk Tryz.underlying3 (WalkArith.wf_i64 (by have := HSA.out; omega))) (.held (.agg #[.int .i64 s.author, .int .i64 s.a, .slice ga gl gc])) [] rfl ?_; intro w5 hown5 hgrow5)
        go_roundw
        case rel =>
          refine ⟨k + 1, m + 1, ys ++ [((s.author, s.a, s.list), ⟨ga, gl, gc⟩)], by go_num, by omega, by omega, by have := hgrow5.size; omega, Lib.hid (guardsY_yes HXs.out HYS.out hg _), Lib.hid ?_, Lib.hid ?_, (HEX.out.trans HE3.out (by omega) (by simp)).grown hgrow5 (by omega) (by simp)⟩
          · rw [List.map_append, List.map_singleton, mapV_snoc]; exact hown5
          · intro y hy
            rcases List.mem_append.1 hy with hy | hy
            · exact (HKY.out _ HE3.out y hy).keep fun b h hb => hgrow5.block b hb (by simp; omega)
            · rw [List.mem_singleton.1 hy]; exact HSL3.out.keep fun b h hb => hgrow5.block b hb (by simp; omega)
        case measure => simp [intOf] <;> omega
    · have hkl : k = l.length := by omega
      have hltI : ¬ (k : Int) < (l.length : Int) := by omega
      have HYE : Hid (ys.map (·.1) = (l.filter guardB).map guardS) := Lib.hid (by have h := HYS.out; rw [hkl, List.take_length] at h; exact h)
      clear hkl hex
      obtain ⟨w9, hw9⟩ : ∃ w9 : World, w9 = wr := ⟨_, rfl⟩
      subst hw9
      have HKM : Hid (∀ w', Ex w9.heap.size none w9 w' → w'.ownsMap Tryz.prog 3 valElem w.heap.size m (mapV (ys.map storeG))) := Lib.hid (fun w' h => by
        obtain ⟨es, clock, q1, q2⟩ := HM.out
        exact ⟨es, clock, (h.block _ (HM.out.lt) (by simp)).trans q1, q2⟩)
      go_wp2
      go_loopw [8, 9, 10, 11, 31] (fun u _ _ _ i wr => ∃ (j n : Nat) (ro : Option Addr) (rc : Nat), i = .int .i64 j ∧ j ≤ 64 ∧ n ≤ j ∧ u = .slice ro n rc ∧ Hid ((outY ys j).length = n) ∧ OwnE gE 3 113 wr w9.heap.size ro rc (outY ys j) ∧ Ex w9.heap.size none w9 wr) (fun _ _ _ _ i _ => 64 - (intOf i).toNat)
      case atStart => exact ⟨0, 0, none, 0, rfl, by omega, by omega, rfl, Lib.hid rfl, OwnE.nil _ _ _ _ _, Ex.refl _ _ _⟩
      case round =>
        obtain ⟨j, n, ro, rc, rfl, hj, hn, rfl, HN, hown, hexi⟩ := hrel
        have hszi := hexi.size
        have HO := Lib.hid hown
        have HEI := Lib.hid hexi
        clear hown hexi
        by_cases h64 : j < 64
        · have hjI : (j : Int) < 64 := by omega
          have HS := outY_succ ys j
          cases hy : lastY ys (j : Int) with
          | none =>
            rw [hy] at HS
            have HYS2 : Hid (outY ys (j + 1) = outY ys j) := Lib.hid (by rw [HS]; exact List.append_nil _)
            have HY := Lib.hid hy
            clear HS hy
            go_upto_region 14 with (first
              | (at_lookup; refine wpList_lookV _ rfl _ _ _ rfl 3 113 (int_keyed Tryz.underlying3) Tryz.underlying181 (.agg #[.int .i64 0, .int .i64 0, .slice none 0 0]) (by kernel_rfl) w.heap.size m (ys.map storeG) (by rfl) (HKM.out _ HEI.out) _ (.int .i64 (j : Int)) (by rfl) (keyOf_int_mk Tryz.underlying3 (WalkArith.wf_i64 (by omega))) trivial (.agg #[.int .i64 0, .int .i64 0, .slice none 0 0]) false (by rw [lastV_storeG, HY.out]; rfl) (by rw [lastV_storeG, HY.out]; rfl) ?_)
              | fail)
            obtain ⟨ws, hws⟩ : ∃ ws : World, ws = wr.alloc (.cells #[.int .i64 0, .int .i64 0, .slice none 0 0] 113) := ⟨_, rfl⟩
            have HEs : Hid (Ex wr.heap.size none wr ws) := Lib.hid (by rw [hws]; exact Ex.new _ _)
            rw [← hws]
            clear hws
            go_wp2_with fail
            go_roundw
            case rel => exact ⟨j + 1, n, ro, rc, by go_num, by omega, by omega, rfl, Lib.hid (by rw [HYS2.out]; exact HN.out), by rw [HYS2.out]; exact HO.out.keep HEs.out (Nat.le_refl _) (by simp), HEI.out.trans HEs.out hszi (by simp)⟩
            case measure => simp [intOf] <;> omega
          | some y =>
            rw [hy] at HS
            have HYS2 : Hid (outY ys (j + 1) = outY ys j ++ [y]) := Lib.hid HS
            have HY := Lib.hid hy
            clear HS hy
            obtain ⟨⟨yo, yn, yl⟩, ⟨ya, yc, yd⟩⟩ := y
            go_upto_region 14 with (first
              | (at_lookup; refine wpList_lookV _ rfl _ _ _ rfl 3 113 (int_keyed Tryz.underlying3) Tryz.underlying181 (.agg #[.int .i64 0, .int .i64 0, .slice none 0 0]) (by kernel_rfl) w.heap.size m (ys.map storeG) (by rfl) (HKM.out _ HEI.out) _ (.int .i64 (j : Int)) (by rfl) (keyOf_int_mk Tryz.underlying3 (WalkArith.wf_i64 (by omega))) trivial (.agg #[.int .i64 yo, .int .i64 yn, .slice ya yc yd]) true (by rw [lastV_storeG, HY.out]; rfl) (by rw [lastV_storeG, HY.out]; rfl) ?_)
              | fail)
            obtain ⟨ws, hws⟩ : ∃ ws : World, ws = wr.alloc (.cells #[.int .i64 yo, .int .i64 yn, .slice ya yc yd] 113) := ⟨_, rfl⟩
            have HEs : Hid (Ex wr.heap.size none wr ws) := Lib.hid (by rw [hws]; exact Ex.new _ _)
            have hzs : wr.heap.size ≤ ws.heap.size := HEs.out.size
            obtain ⟨g0, g1, g2⟩ : ws.cell? ⟨wr.heap.size, 0, none⟩ = some (.int .i64 yo) ∧ ws.cell? ⟨wr.heap.size, 1, none⟩ = some (.int .i64 yn) ∧ ws.cell? ⟨wr.heap.size, 2, none⟩ = some (.slice ya yc yd) := by
              have k : ws.heap[wr.heap.size]? = some (.cells #[.int .i64 yo, .int .i64 yn, .slice ya yc yd] 113 (0, 0)) := by rw [hws]; exact heap_alloc_new _ _
              refine ⟨?_, ?_, ?_⟩ <;> (rw [cell_of_row _ _ _ _ _ _ k]; rfl)
            rw [← hws]
            clear hws
            go_wp2_with (first
              | (at_builtin; refine wpList_appE2 rfl (.tmp 41) (.tmp 43) _ 113 (by rfl) Tryz.underlying122 _ 3 40 Tryz.infoG rfl (by decide) (by decide) gE gE_len one_gE w9.heap.size ro rc n (outY ys j) HN.out (by rfl) (some ⟨ws.heap.size, 0, none⟩) 1 1 (by rfl) [((yo, yn, yl), ⟨ya, yc, yd⟩)] rfl ((HO.out.keep HEs.out (Nat.le_refl _) (by simp)).keep (Ex.new ws _) (Nat.le_refl _) (by simp)) (lit_cells (by rfl)) (by omega) (by simp; omega) (n + 1) (by omega) ?_; intro ro2 rc2 w2 hown2 hex2 _ _; have H2 : Hid (OwnE gE 3 113 w2 w9.heap.size ro2 rc2 (outY ys (j + 1)) ∧ Ex w9.heap.size none w9 w2) := Lib.hid ⟨by rw [HYS2.out]; exact hown2, ((HEI.out.trans HEs.out hszi (by simp)).trans (Ex.new ws _) (by omega) (by simp)).trans hex2 (Nat.le_refl _) (by simp)⟩; clear hown2 hex2)
              | fail)
            go_roundw
            case rel => exact ⟨j + 1, n + 1, ro2, rc2, by go_num, by omega, by omega, rfl, Lib.hid (by rw [HYS2.out, List.length_append, HN.out]; rfl), H2.out.1, H2.out.2⟩
            case measure => simp [intOf] <;> omega
        · have hjI : ¬ (j : Int) < 64 := by omega
          have h64e : j = 64 := by omega
          have HV : Hid (outY ys j = outY ys 64) := Lib.hid (by rw [h64e])
          clear h64e
          have HG := Lib.hid (outY_G HYE.out 64)
          have HLA : Hid (∀ y ∈ outY ys 64, LieG (fun _ => True) wr y) := Lib.hid (fun y hy => ((HLY.out y (outY_mem hy)).keep fun b _ hb => HEI.out.block b hb (by simp)).mono fun _ _ _ => trivial)
          have HNL : Hid ((guardsTo l 64).length = n) := Lib.hid (by rw [← HG.out, List.length_map, ← HV.out]; exact HN.out)
          have HSA : Hid (SlAt guardRep (fun _ => True) wr ro (guardsTo l 64)) := Lib.hid (by
            rw [← HG.out]
            refine own_g_sl (base := w9.heap.size) (rc := rc) ?_ HLA.out
            rw [← HV.out]; exact HO.out)
          go_wp2
          go_ret
          exact ⟨ro, rc, n, rfl, HNL.out, ⟨ro, rc, by rw [HNL.out], HSA.out⟩, HEX.out.trans HEI.out (by omega) (by simp)⟩
end Go.Proofs.YtaghfcnpnfhacaaGreat
