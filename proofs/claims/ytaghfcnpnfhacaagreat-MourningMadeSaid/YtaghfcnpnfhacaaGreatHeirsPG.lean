/- mourning.Heirs at whatever statements: a contract, no statement of the seat. -/
import Derived.Test.YtaghfcnpnfhacaaGreatGuardAllG
import Derived.Test.YtaghfcnpnfhacaaGreatMg12
import Derived.Test.YtaghfcnpnfhacaaGreatMg05
import Derived.Test.YtaghfcnpnfhacaaGreatMg06
import Derived.Test.YtaghfcnpnfhacaaGreatMg08
import Derived.Test.YtaghfcnpnfhacaaGreatMg13
namespace Go.Proofs.YtaghfcnpnfhacaaGreat
open Go.RowKit Go.Maps Go.Sort

theorem heirsP_snoc {vl : List Vote} {gs : List GuardD} {k : Nat} {g : GuardD} (h : gs[k]? = some g) : heirsP vl (gs.take (k + 1)) = heirsP vl (gs.take k) ++ heirP vl g := by
  unfold heirsP
  rw [List.take_add_one, h, List.flatMap_append]
  simp
theorem heirP_len (vl : List Vote) (g : GuardD) : (heirP vl g).length ≤ 1 := by unfold heirP; split <;> simp
theorem iE_ints {w : World} {base : Nat} {ro : Option Addr} {rc n : Nat} {xs : List Int} (hn : xs.length = n) (h : OwnE iE 1 3 w base ro rc xs) : Ints w (.slice ro n rc) xs := by
  subst hn
  rcases h.cases with ⟨rfl, rfl, rfl⟩ | ⟨g, rfl, _, _, _⟩
  · exact Ints.nil _
  · refine ⟨_, _, rfl, fun j hj => ⟨g, 0, rfl, fun i hi => ?_⟩⟩
    have := (intK_cell (h.holds iE_len) i (by simpa using hi)).1
    simpa using this
set_option maxHeartbeats 16000000 in
set_option maxRecDepth 100000 in
theorem heirsP_any {P : Nat → Prop} (v : Value) (l : List St) (w : World) (hv : Sl stRep P w v l) (hm : l.length ≤ 100000) (hL : LightL 9223372036854775807 l) :
    Calls Tryz.prog 23 #[v] w fun e w' => ∃ (ro : Option Addr) (rc n : Nat), e = .returned (.slice ro n rc) ∧ (heirsP (votesG l) (guardsTo l 64)).length = n ∧ OwnE encH 2 25 w' w.heap.size ro rc (heirsP (votesG l) (guardsTo l 64)) ∧ Ex w.heap.size none w w' := by
  have HV := Lib.hid hv
  have HLL := Lib.hid hL
  obtain ⟨vo, vcap, rfl, _⟩ := hv
  clear hL
  obtain ⟨vl, hvl⟩ : ∃ vl, vl = votesG l := ⟨_, rfl⟩
  obtain ⟨gl, hgl⟩ : ∃ gl, gl = guardsTo l 64 := ⟨_, rfl⟩
  have HKO : Hid (KeysOK vl) := Lib.hid (by rw [hvl]; exact votesG_ok l)
  have HGV : Hid (∀ g ∈ gl, validG g.1 g.2.1 g.2.2 = true) := Lib.hid (by rw [hgl]; exact fun g hg => (guardsTo_valid hg).1)
  have HVL := Lib.hid hvl
  have HGL := Lib.hid hgl
  rw [← hvl, ← hgl]
  clear hvl hgl
  go_enter Tryz.func23, Tryz.ntmps23
  go_upto_region 4 with (first
    | (go_at_call 71; refine (lossesG_any _ l w HV.out hm HLL.out).mono ?_; rw [← HVL.out]; rintro e w1 ⟨mg, rfl, mm, hmm, hom, hex⟩; have HM := Lib.hid hom; have HE1 := Lib.hid hex; have hz1 := hex.size; clear hom hex)
    | (go_at_call 73; refine (guardAll_any _ l w1 (HV.out.keep (by decide) fun b _ hb => HE1.out.block b hb (by simp)) hm HLL.out).mono ?_; rw [← HGL.out]; rintro e w2 ⟨ga, gc, gn, rfl, hgn, hgs, hex⟩; have HGN := Lib.hid hgn; have HGS := Lib.hid hgs; have HE2 := Lib.hid hex; have hz2 := hex.size; clear hgn hgs hex)
    | fail)
  have HM2 : Hid (∀ w', Ex w2.heap.size none w2 w' → w'.ownsMap Tryz.prog 180 (plainElem Tryz.prog 3) mg mm (mapG vl)) := Lib.hid (fun w' h => by
    have hlt := HM.out.lt
    obtain ⟨es, clock, q1, q2⟩ := HM.out
    exact ⟨es, clock, ((h.block _ (by omega) (by simp)).trans (HE2.out.block _ hlt (by simp))).trans q1, q2⟩)
  have HE12 : Hid (Ex w.heap.size none w w2) := Lib.hid (HE1.out.trans HE2.out (by omega) (by simp))
  have hgn : gn ≤ 64 := by have := guardsTo_len l 64; rw [← HGL.out, HGN.out] at this; exact this
  go_loopw [4, 6, 7, 8, 9, 10, 11, 17] (fun u _ _ _ _ _ _ i wr => ∃ (k n : Nat) (ro : Option Addr) (rc : Nat), i = .int .i64 k ∧ k ≤ gn ∧ n ≤ k ∧ u = .slice ro n rc ∧ Hid ((heirsP vl (gl.take k)).length = n) ∧ OwnE encH 2 25 wr w2.heap.size ro rc (heirsP vl (gl.take k)) ∧ Ex w2.heap.size none w2 wr) (fun _ _ _ _ _ _ _ i _ => gn - (intOf i).toNat)
  case atStart => exact ⟨0, 0, none, 0, rfl, by omega, by omega, rfl, Lib.hid rfl, OwnE.nil _ _ _ _ _, Ex.refl _ _ _⟩
  case round =>
    obtain ⟨k, n, ro, rc, rfl, hk, hn, rfl, HN, hown, hex⟩ := hrel
    have hsz := hex.size
    have HO := Lib.hid hown
    have HEX := Lib.hid hex
    clear hown
    by_cases hlt : k < gn
    · have hltI : (k : Int) < (gn : Int) := by omega
      obtain ⟨b, off, o, nd, gs, go, gsn, gsc, rfl, _, hlg, c0, c1, c2, HG⟩ := guard_get (HGS.out.at'.keep (by decide) (fun b _ hb => hex.block b hb (by simp))) k (by rw [HGN.out]; exact hlt)
      have HLG := Lib.hid hlg
      have HSN : Hid (gs.length = gsn) := Lib.hid (by obtain ⟨_, _, e, _⟩ := hlg; simp only [Sv.v] at e; cases e; rfl)
      have HVG : Hid (validG o nd gs = true) := Lib.hid (HGV.out _ (List.mem_of_getElem? HG.out))
      have ho : 0 ≤ o ∧ o < 64 := by have h := HVG.out; simp only [validG, Bool.and_eq_true, decide_eq_true_eq] at h; exact ⟨h.1.1.1.1.1.1, h.1.1.1.1.1.2⟩
      have hgsn : gsn ≤ 12 := by have h := HVG.out; simp only [validG, Bool.and_eq_true, decide_eq_true_eq] at h; rw [← HSN.out]; exact h.1.1.1.1.2
      have HSNOC : Hid (heirsP vl (gl.take (k + 1)) = heirsP vl (gl.take k) ++ heirP vl (o, nd, gs)) := Lib.hid (heirsP_snoc HG.out)
      clear hex hlg
      obtain ⟨wo, hwo⟩ : ∃ wo : World, wo = wr := ⟨_, rfl⟩
      subst hwo
      go_upto_region 7 with (fail)
      obtain ⟨ws, hws⟩ : ∃ ws : World, ws = wo.alloc (.cells #[.int .i64 o, .int .i64 nd, .slice go gsn gsc] 113) := ⟨_, rfl⟩
      have HEs : Hid (Ex wo.heap.size none wo ws) := Lib.hid (by rw [hws]; exact Ex.new _ _)
      have hzs : ws.heap.size = wo.heap.size + 1 := by rw [hws]; simp
      have HQ : Hid (∀ w', Ex ws.heap.size none ws w' → w'.cell? ⟨wo.heap.size, 0, none⟩ = some (.int .i64 o) ∧ w'.cell? ⟨wo.heap.size, 1, none⟩ = some (.int .i64 nd) ∧ w'.cell? ⟨wo.heap.size, 2, none⟩ = some (.slice go gsn gsc)) := Lib.hid (fun w' h => by
        have q : w'.heap[wo.heap.size]? = some (.cells #[.int .i64 o, .int .i64 nd, .slice go gsn gsc] 113 (0, 0)) := (h.block _ (by omega) (by simp)).trans (by rw [hws]; exact heap_alloc_new _ _)
        refine ⟨?_, ?_, ?_⟩ <;> (rw [cell_of_row _ _ _ _ _ _ q]; rfl))
      have HGI : Hid (∀ w', Ex ws.heap.size none ws w' → IntsAt w' go gs) := Lib.hid (fun w' h => (sl_ints (Sl.keep HLG.out (by decide) fun b _ hb => (h.block b (by omega) (by simp)).trans (HEs.out.block b hb (by simp)))).at')
      have HE2s : Hid (Ex w2.heap.size none w2 ws) := Lib.hid (HEX.out.trans HEs.out hsz (by simp))
      rw [← hws]
      clear hws c0 c1 c2
      go_wp2_with fail
      go_loopw [7, 8, 9, 10, 11, 21] (fun be mo _ _ _ i wi => ∃ (j m : Nat) (bi : Int), i = .int .i64 j ∧ j ≤ 64 ∧ be = .int .i64 bi ∧ mo = .int .i64 m ∧ m ≤ 64 ∧ Hid (pickP vl (o, nd, gs) j = (bi, m)) ∧ Ex ws.heap.size none ws wi) (fun _ _ _ _ _ i _ => 64 - (intOf i).toNat)
      case atStart => exact ⟨0, 0, 0, rfl, by omega, rfl, rfl, by omega, Lib.hid rfl, Ex.refl _ _ _⟩
      case round =>
        obtain ⟨j, m, bi, rfl, hj, rfl, rfl, hm64, HP, hexi⟩ := hrel
        have hszi := hexi.size
        have HEI := Lib.hid hexi
        clear hexi
        by_cases h64 : j < 64
        · have hjI : (j : Int) < 64 := by omega
          have HPS := pickP_succ vl (o, nd, gs) j
          rw [HP.out] at HPS
          obtain ⟨all, hall⟩ : ∃ all, all = voicesL (onLost vl o) (j : Int) 64 := ⟨_, rfl⟩
          have HAL : Hid (allP vl (o, nd, gs) j = all) := Lib.hid (by rw [hall]; rfl)
          have HMI : Hid (mineP vl (o, nd, gs) j = all.filter (hasI gs)) := Lib.hid (by rw [hall]; rfl)
          have HALL := Lib.hid hall
          have hal64 : all.length ≤ 64 := by rw [hall]; exact voicesL_len _ _ _
          have HPS := Lib.hid HPS
          obtain ⟨g0, g1, g2⟩ := HQ.out _ HEI.out
          clear hall HP
          cases hen : enoughG o nd gs all with
          | false =>
            have HP2 : Hid (pickP vl (o, nd, gs) (j + 1) = (bi, m)) := Lib.hid (by rw [HPS.out]; unfold stepP; rw [HAL.out, if_neg (by simp [hen])])
            go_wp2_with (first | (go_at_call 70; refine (voicesG_any mg mm vl _ o (j : Int) _ (HM2.out _ (HE2s.out.trans HEI.out (by omega) (by simp))) HKO.out rfl ho).mono ?_; rw [← HALL.out]; rintro e w3 ⟨ao, ac, an, rfl, han, hoa, hex3⟩; have HAN := Lib.hid han; have HOA := Lib.hid hoa; have HE3 := Lib.hid (HEI.out.trans hex3 hszi (by simp)); have hz3 := hex3.size; clear han hoa hex3 g0 g1 g2; obtain ⟨g0, g1, g2⟩ := HQ.out _ HE3.out) | (go_at_call 74; refine (asB (enoughP_any o nd go gsn gsc gs _ all _ (HGI.out _ HE3.out) HSN.out (by omega) (iE_ints HAN.out HOA.out) (by omega)) hen).mono ?_; rintro e w4 ⟨rfl, hex4⟩; have HE34 := Lib.hid hex4; have HE4 := Lib.hid (HE3.out.trans hex4 (by omega) (by simp)); have hz4 := hex4.size; clear hex4 g0 g1 g2) | fail)
            go_roundw
            case rel => exact ⟨j + 1, m, bi, by go_num, by omega, rfl, rfl, hm64, HP2, HE4.out⟩
            case measure => simp [intOf] <;> omega
          | true =>
            obtain ⟨mn, hmn⟩ : ∃ mn, mn = (all.filter (hasI gs)).length := ⟨_, rfl⟩
            have HMN := Lib.hid hmn.symm
            have hmn64 : mn ≤ 64 := by rw [hmn]; exact Nat.le_trans (List.length_filter_le _ _) hal64
            clear hmn
            by_cases hmm : m < mn
            · have hmmI : (m : Int) < (mn : Int) := by omega
              have hmmd : decide (m < mn) = true := decide_eq_true hmm
              have HP2 : Hid (pickP vl (o, nd, gs) (j + 1) = ((j : Int), mn)) := Lib.hid (by rw [HPS.out]; unfold stepP; rw [HAL.out, HMI.out, HMN.out, if_pos ⟨hen, hmm⟩])
              clear hmm
              go_wp2_with (first | (go_at_call 70; refine (voicesG_any mg mm vl _ o (j : Int) _ (HM2.out _ (HE2s.out.trans HEI.out (by omega) (by simp))) HKO.out rfl ho).mono ?_; rw [← HALL.out]; rintro e w3 ⟨ao, ac, an, rfl, han, hoa, hex3⟩; have HAN := Lib.hid han; have HOA := Lib.hid hoa; have HE3 := Lib.hid (HEI.out.trans hex3 hszi (by simp)); have hz3 := hex3.size; clear han hoa hex3 g0 g1 g2; obtain ⟨g0, g1, g2⟩ := HQ.out _ HE3.out) | (go_at_call 74; refine (asB (enoughP_any o nd go gsn gsc gs _ all _ (HGI.out _ HE3.out) HSN.out (by omega) (iE_ints HAN.out HOA.out) (by omega)) hen).mono ?_; rintro e w4 ⟨rfl, hex4⟩; have HE34 := Lib.hid hex4; have HE4 := Lib.hid (HE3.out.trans hex4 (by omega) (by simp)); have hz4 := hex4.size; clear hex4 g0 g1 g2) | (go_at_call 75; refine (deleteOut_any ao ac an wr.heap.size all wo.heap.size go gsn gsc gs w4 HAN.out (by rw [← HAN.out]; omega) (HOA.out.keep HE34.out (Nat.le_refl _) (by simp)) (fun w' h => ⟨(HQ.out _ (HE4.out.trans h hszi (by simp))).2.2, HGI.out _ (HE4.out.trans h hszi (by simp)), HSN.out⟩) (by omega) (by omega)).mono ?_; rintro e w5 ⟨da, dc, dm, rfl, hdl, hdn, hex5⟩; rw [HMN.out] at hdl; subst hdl; have HE5 := Lib.hid (HE4.out.trans hex5 hszi (by simp)); clear hex5) | fail)
              go_roundw
              case rel => exact ⟨j + 1, mn, j, by go_num, by omega, rfl, rfl, hmn64, HP2, HE5.out⟩
              case measure => simp [intOf] <;> omega
            · have hmmI : ¬ (m : Int) < (mn : Int) := by omega
              have hmmd : decide (m < mn) = false := decide_eq_false hmm
              have HP2 : Hid (pickP vl (o, nd, gs) (j + 1) = (bi, m)) := Lib.hid (by rw [HPS.out]; unfold stepP; rw [HAL.out, HMI.out, HMN.out, if_neg (fun h => hmm h.2)])
              clear hmm
              go_wp2_with (first | (go_at_call 70; refine (voicesG_any mg mm vl _ o (j : Int) _ (HM2.out _ (HE2s.out.trans HEI.out (by omega) (by simp))) HKO.out rfl ho).mono ?_; rw [← HALL.out]; rintro e w3 ⟨ao, ac, an, rfl, han, hoa, hex3⟩; have HAN := Lib.hid han; have HOA := Lib.hid hoa; have HE3 := Lib.hid (HEI.out.trans hex3 hszi (by simp)); have hz3 := hex3.size; clear han hoa hex3 g0 g1 g2; obtain ⟨g0, g1, g2⟩ := HQ.out _ HE3.out) | (go_at_call 74; refine (asB (enoughP_any o nd go gsn gsc gs _ all _ (HGI.out _ HE3.out) HSN.out (by omega) (iE_ints HAN.out HOA.out) (by omega)) hen).mono ?_; rintro e w4 ⟨rfl, hex4⟩; have HE34 := Lib.hid hex4; have HE4 := Lib.hid (HE3.out.trans hex4 (by omega) (by simp)); have hz4 := hex4.size; clear hex4 g0 g1 g2) | (go_at_call 75; refine (deleteOut_any ao ac an wr.heap.size all wo.heap.size go gsn gsc gs w4 HAN.out (by rw [← HAN.out]; omega) (HOA.out.keep HE34.out (Nat.le_refl _) (by simp)) (fun w' h => ⟨(HQ.out _ (HE4.out.trans h hszi (by simp))).2.2, HGI.out _ (HE4.out.trans h hszi (by simp)), HSN.out⟩) (by omega) (by omega)).mono ?_; rintro e w5 ⟨da, dc, dm, rfl, hdl, hdn, hex5⟩; rw [HMN.out] at hdl; subst hdl; have HE5 := Lib.hid (HE4.out.trans hex5 hszi (by simp)); clear hex5) | fail)
              go_roundw
              case rel => exact ⟨j + 1, m, bi, by go_num, by omega, rfl, rfl, hm64, HP2, HE5.out⟩
              case measure => simp [intOf] <;> omega
        · have hjI : ¬ (j : Int) < 64 := by omega
          have h64e : j = 64 := by omega
          have HP64 : Hid (pickP vl (o, nd, gs) 64 = (bi, m)) := Lib.hid (by rw [← h64e]; exact HP.out)
          clear h64e HP
          obtain ⟨g0, g1, g2⟩ := HQ.out _ HEI.out
          have HEO : Hid (Ex wo.heap.size none wo wr) := Lib.hid (HEs.out.trans HEI.out (by omega) (by simp))
          have hzo : wo.heap.size ≤ wr.heap.size := HEO.out.size
          by_cases hm0 : 0 < m
          · have hm0I : (0 : Int) < (m : Int) := by omega
            have hm0d : decide (0 < m) = true := decide_eq_true hm0
            have HS2 : Hid (heirsP vl (gl.take (k + 1)) = heirsP vl (gl.take k) ++ [(o, bi)]) := Lib.hid (by rw [HSNOC.out]; unfold heirP; rw [HP64.out, if_pos hm0])
            clear hm0
            go_wp2_with (first
              | (at_builtin; refine wpList_appE2 rfl (.tmp 46) (.tmp 51) _ 25 (by rfl) Tryz.underlying42 (.agg #[.int .i64 0, .int .i64 0]) 2 16 Tryz.infoHeir rfl (by decide) (by decide) encH (fun _ => rfl) one_encH w2.heap.size ro rc n (heirsP vl (gl.take k)) HN.out (by rfl) (some ⟨wr.heap.size, 0, none⟩) 1 1 (by rfl) [(o, bi)] rfl ((HO.out.keep HEO.out (Nat.le_refl _) (by simp)).keep (Ex.new wr _) (Nat.le_refl _) (by simp)) (lit_cells (by rfl)) (by omega) (by simp; omega) (n + 1) (by omega) ?_; intro ro2 rc2 w6 hown6 hex6 _ _; have H6 : Hid (OwnE encH 2 25 w6 w2.heap.size ro2 rc2 (heirsP vl (gl.take (k + 1))) ∧ Ex w2.heap.size none w2 w6) := Lib.hid ⟨by rw [HS2.out]; exact hown6, ((HEX.out.trans HEO.out hsz (by simp)).trans (Ex.new wr _) (by omega) (by simp)).trans hex6 (Nat.le_refl _) (by simp)⟩; clear hown6 hex6)
              | fail)
            go_roundw
            case rel => exact ⟨k + 1, n + 1, ro2, rc2, by go_num, by omega, by omega, rfl, Lib.hid (by rw [HS2.out, List.length_append, HN.out]; rfl), H6.out.1, H6.out.2⟩
            case measure => simp [intOf] <;> omega
          · have hm0I : ¬ (0 : Int) < (m : Int) := by omega
            have hm0d : decide (0 < m) = false := decide_eq_false hm0
            have HS2 : Hid (heirsP vl (gl.take (k + 1)) = heirsP vl (gl.take k)) := Lib.hid (by rw [HSNOC.out]; unfold heirP; rw [HP64.out, if_neg hm0, List.append_nil])
            clear hm0
            go_wp2_with fail
            go_roundw
            case rel => exact ⟨k + 1, n, ro, rc, by go_num, by omega, by omega, rfl, Lib.hid (by rw [HS2.out]; exact HN.out), by rw [HS2.out]; exact HO.out.keep HEO.out (Nat.le_refl _) (by simp), HEX.out.trans HEO.out hsz (by simp)⟩
            case measure => simp [intOf] <;> omega
    · have hkl : k = gn := by omega
      have hltI : ¬ (k : Int) < (gn : Int) := by omega
      have HT : Hid (heirsP vl (gl.take k) = heirsP vl gl) := Lib.hid (by rw [hkl, List.take_of_length_le (by rw [HGN.out]; omega)])
      clear hkl hex
      go_wp2
      go_ret
      exact ⟨ro, rc, n, rfl, by rw [← HT.out]; exact HN.out, by rw [← HT.out]; exact HO.out.lowerE (by omega), HE12.out.trans HEX.out (by omega) (by simp)⟩
end Go.Proofs.YtaghfcnpnfhacaaGreat
