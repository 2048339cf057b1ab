/- ref35.Heirs at whatever statements: a contract, no statement of the seat. -/
import Derived.Test.YtaghfcnpnfhacaaGreatMg15
import Derived.Test.YtaghfcnpnfhacaaGreatAll34G
import Derived.Test.YtaghfcnpnfhacaaGreatHeirsPG
import Derived.Test.YtaghfcnpnfhacaaGreatMg06
namespace Go.Proofs.YtaghfcnpnfhacaaGreat
open Go.RowKit Go.Maps Go.Sort

theorem cellK35 {w w' : World} (h : Ex w.heap.size none w w') {b o : Nat} {v : Value} (hc : w.cell? ⟨b, o, none⟩ = some v) : w'.cell? ⟨b, o, none⟩ = some v :=
  (World.cell?_of_block (w := w) (h.block b (World.block_lt_of_cell? w _ hc) (by simp))).trans hc
theorem heirsR_snoc {l : List St} {gs : List GuardD} {k : Nat} {g : GuardD} (h : gs[k]? = some g) : heirsR l (gs.take (k + 1)) = heirsR l (gs.take k) ++ heirR l g := by
  unfold heirsR
  rw [List.take_add_one, h, List.flatMap_append]
  simp
set_option maxHeartbeats 16000000 in
set_option maxRecDepth 100000 in
theorem heirs35_any {P : Nat → Prop} (v : Value) (l : List St) (w : World) (hv : Sl stRep P w v l) (hm : l.length ≤ 100000) (hL : LightL 9223372036854775807 l) :
    Calls Tryz.prog 24 #[v] w fun e w' => ∃ (ro : Option Addr) (rc n : Nat), e = .returned (.slice ro n rc) ∧ (heirsR l (guardsTo l 64)).length = n ∧ OwnE encH 2 25 w' w.heap.size ro rc (heirsR l (guardsTo l 64)) ∧ Ex w.heap.size none w w' := by
  have HV := Lib.hid hv
  have HLI := Lib.hid hL
  have HLEN := Lib.hid hm
  obtain ⟨vo, vc, e, _⟩ := hv
  obtain ⟨vn, hvn⟩ : ∃ vn, vn = l.length := ⟨_, rfl⟩
  rw [← hvn] at e
  subst e
  clear hvn hL
  obtain ⟨gl, hgl⟩ : ∃ gl, gl = guardsTo l 64 := ⟨_, rfl⟩
  have HGV : Hid (∀ g ∈ gl, validG g.1 g.2.1 g.2.2 = true) := Lib.hid (by rw [hgl]; exact fun g hg => (guardsTo_valid hg).1)
  have HGL := Lib.hid hgl
  rw [← hgl]
  clear hgl
  go_enter Tryz.func24, Tryz.ntmps24
  go_upto_region 3 with (first
    | (go_at_call 78; refine (all34_any _ l w HV.out HLEN.out HLI.out).mono ?_; rw [← HGL.out]; rintro e w2 ⟨ga, gc, gn, rfl, hgn, hgs, hex⟩; have HGN := Lib.hid hgn; have HGS := Lib.hid hgs; have HE2 := Lib.hid hex; have hz2 := hex.size; clear hgn hgs hex)
    | fail)
  have hgn : gn ≤ 64 := by have := guardsTo_len l 64; rw [← HGL.out, HGN.out] at this; exact this
  have HSL : Hid (∀ w', Ex w2.heap.size none w2 w' → Sl stRep (fun _ => True) w' (.slice vo vn vc) l) := Lib.hid (fun w' h => ((HV.out.keep (by decide) fun b _ hb => HE2.out.block b hb (by simp)).mono (P' := fun b => b < w2.heap.size) (by decide) fun b _ hb => hb).keep (by decide) (fun b hb _ => h.block b hb (by simp)) |>.mono (by decide) fun _ _ _ => trivial)
  go_wp2_with fail
  go_loopw [4, 5, 6, 7, 8, 9, 10] (fun u iv _ _ _ _ _ wr => ∃ (k n : Nat) (ro : Option Addr) (rc : Nat), iv = .int .i64 k ∧ k ≤ gn ∧ n ≤ k ∧ u = .slice ro n rc ∧ Hid ((heirsR l (gl.take k)).length = n) ∧ Hid (OwnE encH 2 25 wr w2.heap.size ro rc (heirsR l (gl.take k))) ∧ Ex w2.heap.size none w2 wr) (fun _ iv _ _ _ _ _ _ => gn - (intOf iv).toNat)
  case atStart => exact ⟨0, 0, none, 0, rfl, by omega, by omega, rfl, Lib.hid rfl, Lib.hid (OwnE.nil _ _ _ _ _), Ex.refl _ _ _⟩
  case round =>
    obtain ⟨k, n, ro, rc, rfl, hk, hn, rfl, HN, HO, hex⟩ := hrel
    obtain ⟨wo, hwo⟩ : ∃ wo : World, wo = wr := ⟨_, rfl⟩
    subst hwo
    have hsz := hex.size
    have HEX := Lib.hid hex
    clear hex
    by_cases hlt : k < gn
    · have hltI : (k : Int) < (gn : Int) := by omega
      obtain ⟨b, off, o, nd, gs, go, gsn, gsc, rfl, _, hlg, c0, c1, c2, HG⟩ := guard_get HGS.out.at' k (by rw [HGN.out]; exact hlt)
      have HQ : Hid (∀ w', Ex w2.heap.size none w2 w' → w'.cell? ⟨b, off + k * 3, none⟩ = some (.int .i64 o) ∧ w'.cell? ⟨b, off + k * 3 + 1, none⟩ = some (.int .i64 nd) ∧ w'.cell? ⟨b, off + k * 3 + 2, none⟩ = some (.slice go gsn gsc)) := Lib.hid (fun w' h => ⟨cellK35 h c0, cellK35 h c1, cellK35 h c2⟩)
      have HGI : Hid (∀ w', Ex w2.heap.size none w2 w' → IntsAt w' go gs) := Lib.hid (fun w' h => (sl_ints (Sl.keep hlg (by decide) fun b _ hb => h.block b hb (by simp))).at')
      have HSN : Hid (gs.length = gsn) := Lib.hid (by obtain ⟨_, _, e, _⟩ := hlg; simp only [Sv.v] at e; cases e; rfl)
      have HVG : Hid (validG o nd gs = true) := Lib.hid (HGV.out _ (List.mem_of_getElem? HG.out))
      have hgsn : gsn ≤ 12 := by have h := HVG.out; simp only [validG, Bool.and_eq_true, decide_eq_true_eq] at h; rw [← HSN.out]; exact h.1.1.1.1.2
      have HSNOC : Hid (heirsR l (gl.take (k + 1)) = heirsR l (gl.take k) ++ heirR l (o, nd, gs)) := Lib.hid (heirsR_snoc HG.out)
      clear hlg c0 c1 c2
      go_wp2_with fail
      go_loopw [6, 7, 8, 9, 10] (fun be mo jv _ _ wr => ∃ (j m : Nat) (bi : Int), jv = .int .i64 j ∧ j ≤ 64 ∧ be = .int .i64 bi ∧ mo = .int .i64 m ∧ m ≤ 64 ∧ Hid (pickR l (o, nd, gs) j = (bi, m)) ∧ Ex w2.heap.size none w2 wr ∧ Ex wo.heap.size none wo wr) (fun _ _ jv _ _ _ => 64 - (intOf jv).toNat)
      case atStart => exact ⟨0, 0, -1, rfl, by omega, rfl, rfl, by omega, Lib.hid rfl, HEX.out, Ex.refl _ _ _⟩
      case round =>
        obtain ⟨j, m, bi, rfl, hj, rfl, rfl, hm64, HP, hexi, hexw⟩ := hrel
        have HEW := Lib.hid hexw
        have hszi := hexi.size
        have HEI := Lib.hid hexi
        clear hexi hexw
        obtain ⟨g0, g1, g2⟩ := HQ.out _ HEI.out
        by_cases h64 : j < 64
        · have hjI : (j : Int) < 64 := by omega
          have HPS := pickR_succ l (o, nd, gs) j
          rw [HP.out] at HPS
          unfold stepR at HPS
          cases hnm : namedS l o (j : Int) with
          | false =>
            have HP1 : Hid (pickR l (o, nd, gs) (j + 1) = (bi, m)) := Lib.hid (by rw [HPS, if_neg]; rintro ⟨h, _⟩; rw [show namedS l o (j : Int) = false from hnm] at h; cases h)
            clear HPS
            go_wp2_with (first
  | (go_at_call 79; refine (asB (named35_any (.slice vo vn vc) l o (j : Int) _ (HSL.out _ HEI.out) (by have := HLEN.out; omega)) hnm).mono ?_; rintro e wn ⟨rfl, rfl⟩)
  | (go_at_call 21; refine (voices35_any (.slice vo vn vc) l o (j : Int) _ (HSL.out _ HEI.out) HLEN.out HLI.out).mono ?_; rintro e wv ⟨va, vcc, vnn, rfl, hvn, hown, hex⟩; have HXv : Hid (Ex w2.heap.size none w2 wv) := Lib.hid (HEI.out.trans hex hszi (by simp)); have HYv : Hid (Ex wr.heap.size none wr wv) := Lib.hid hex; have HVI := Lib.hid (iE_ints hvn hown); have hzv : wr.heap.size ≤ wv.heap.size := hex.size; clear hvn hown hex g0 g1 g2; obtain ⟨g0, g1, g2⟩ := HQ.out _ HXv.out)
  | (go_at_call 80; refine (refVoices34_any o nd go gsn gsc gs (.slice va vnn vcc) _ _ (HGI.out _ HXv.out) HSN.out (by omega) HVI.out (by have := voicesL_len (onLost (votesG l) o) (j : Int) 64; omega)).mono ?_; rw [HCNT.out]; rintro e wc ⟨rfl, hex⟩; have HXc : Hid (Ex w2.heap.size none w2 wc) := Lib.hid (HXv.out.trans hex (by omega) (by simp)); have HYc : Hid (Ex wr.heap.size none wr wc) := Lib.hid (HYv.out.trans hex hzv (by simp)); have hzc : wv.heap.size ≤ wc.heap.size := hex.size; have HVC := Lib.hid (HVI.out.keep hex (Nat.le_refl _)); clear hex g0 g1 g2; obtain ⟨g0, g1, g2⟩ := HQ.out _ HXc.out)
  | (go_at_call 81; refine (asB (refEnough_any o nd go gsn gsc gs (.slice va vnn vcc) _ _ (HGI.out _ HXc.out) HSN.out (by omega) HVC.out (by have := voicesL_len (onLost (votesG l) o) (j : Int) 64; omega)) hen).mono ?_; rintro e we ⟨rfl, hex⟩; have HXe : Hid (Ex w2.heap.size none w2 we) := Lib.hid (HXc.out.trans hex (by omega) (by simp)); have HY : Hid (Ex wr.heap.size none wr we) := Lib.hid (HYc.out.trans hex (by omega) (by simp)); have hwr0 : wo.heap.size ≤ wr.heap.size := HEW.out.size; clear hex)
  | fail)
            go_roundw
            case rel => exact ⟨j + 1, m, bi, by go_num, by omega, rfl, rfl, hm64, HP1, HEI.out, HEW.out⟩
            case measure => simp [intOf] <;> omega
          | true =>
            obtain ⟨cn, hcn⟩ : ∃ cn, countG gs (voicesL (onLost (votesG l) o) (j : Int) 64) = cn := ⟨_, rfl⟩
            have HCNT : Hid (countG gs (voicesL (onLost (votesG l) o) (j : Int) 64) = cn) := Lib.hid hcn
            have hcn12 : cn ≤ 12 := by rw [← hcn]; have := countG_len gs (voicesL (onLost (votesG l) o) (j : Int) 64); have := HSN.out; omega
            cases hen : enoughG o nd gs (voicesL (onLost (votesG l) o) (j : Int) 64) with
            | false =>
              have HP1 : Hid (pickR l (o, nd, gs) (j + 1) = (bi, m)) := Lib.hid (by rw [HPS, if_neg]; rintro ⟨_, h, _⟩; have h2 : enoughG o nd gs (voicesL (onLost (votesG l) o) (j : Int) 64) = true := h; rw [hen] at h2; cases h2)
              clear HPS hcn
              go_wp2_with (first
  | (go_at_call 79; refine (asB (named35_any (.slice vo vn vc) l o (j : Int) _ (HSL.out _ HEI.out) (by have := HLEN.out; omega)) hnm).mono ?_; rintro e wn ⟨rfl, rfl⟩)
  | (go_at_call 21; refine (voices35_any (.slice vo vn vc) l o (j : Int) _ (HSL.out _ HEI.out) HLEN.out HLI.out).mono ?_; rintro e wv ⟨va, vcc, vnn, rfl, hvn, hown, hex⟩; have HXv : Hid (Ex w2.heap.size none w2 wv) := Lib.hid (HEI.out.trans hex hszi (by simp)); have HYv : Hid (Ex wr.heap.size none wr wv) := Lib.hid hex; have HVI := Lib.hid (iE_ints hvn hown); have hzv : wr.heap.size ≤ wv.heap.size := hex.size; clear hvn hown hex g0 g1 g2; obtain ⟨g0, g1, g2⟩ := HQ.out _ HXv.out)
  | (go_at_call 80; refine (refVoices34_any o nd go gsn gsc gs (.slice va vnn vcc) _ _ (HGI.out _ HXv.out) HSN.out (by omega) HVI.out (by have := voicesL_len (onLost (votesG l) o) (j : Int) 64; omega)).mono ?_; rw [HCNT.out]; rintro e wc ⟨rfl, hex⟩; have HXc : Hid (Ex w2.heap.size none w2 wc) := Lib.hid (HXv.out.trans hex (by omega) (by simp)); have HYc : Hid (Ex wr.heap.size none wr wc) := Lib.hid (HYv.out.trans hex hzv (by simp)); have hzc : wv.heap.size ≤ wc.heap.size := hex.size; have HVC := Lib.hid (HVI.out.keep hex (Nat.le_refl _)); clear hex g0 g1 g2; obtain ⟨g0, g1, g2⟩ := HQ.out _ HXc.out)
  | (go_at_call 81; refine (asB (refEnough_any o nd go gsn gsc gs (.slice va vnn vcc) _ _ (HGI.out _ HXc.out) HSN.out (by omega) HVC.out (by have := voicesL_len (onLost (votesG l) o) (j : Int) 64; omega)) hen).mono ?_; rintro e we ⟨rfl, hex⟩; have HXe : Hid (Ex w2.heap.size none w2 we) := Lib.hid (HXc.out.trans hex (by omega) (by simp)); have HY : Hid (Ex wr.heap.size none wr we) := Lib.hid (HYc.out.trans hex (by omega) (by simp)); have hwr0 : wo.heap.size ≤ wr.heap.size := HEW.out.size; clear hex)
  | fail)
              go_roundw
              case rel => exact ⟨j + 1, m, bi, by go_num, by omega, rfl, rfl, hm64, HP1, HXe.out, HEW.out.trans HY.out (by omega) (by simp)⟩
              case measure => simp [intOf] <;> omega
            | true =>
              by_cases hgt : m < cn
              · have HP1 : Hid (pickR l (o, nd, gs) (j + 1) = ((j : Int), cn)) := Lib.hid (by rw [HPS, if_pos ⟨hnm, hen, by show m < countG gs (voicesL (onLost (votesG l) o) (j : Int) 64); rw [hcn]; exact hgt⟩]; show ((j : Int), countG gs (voicesL (onLost (votesG l) o) (j : Int) 64)) = _; rw [hcn])
                have hgtI : (m : Int) < (cn : Int) := by omega
                have hgtd : decide (m < cn) = true := decide_eq_true hgt
                clear HPS hcn hgt
                go_wp2_with (first
  | (go_at_call 79; refine (asB (named35_any (.slice vo vn vc) l o (j : Int) _ (HSL.out _ HEI.out) (by have := HLEN.out; omega)) hnm).mono ?_; rintro e wn ⟨rfl, rfl⟩)
  | (go_at_call 21; refine (voices35_any (.slice vo vn vc) l o (j : Int) _ (HSL.out _ HEI.out) HLEN.out HLI.out).mono ?_; rintro e wv ⟨va, vcc, vnn, rfl, hvn, hown, hex⟩; have HXv : Hid (Ex w2.heap.size none w2 wv) := Lib.hid (HEI.out.trans hex hszi (by simp)); have HYv : Hid (Ex wr.heap.size none wr wv) := Lib.hid hex; have HVI := Lib.hid (iE_ints hvn hown); have hzv : wr.heap.size ≤ wv.heap.size := hex.size; clear hvn hown hex g0 g1 g2; obtain ⟨g0, g1, g2⟩ := HQ.out _ HXv.out)
  | (go_at_call 80; refine (refVoices34_any o nd go gsn gsc gs (.slice va vnn vcc) _ _ (HGI.out _ HXv.out) HSN.out (by omega) HVI.out (by have := voicesL_len (onLost (votesG l) o) (j : Int) 64; omega)).mono ?_; rw [HCNT.out]; rintro e wc ⟨rfl, hex⟩; have HXc : Hid (Ex w2.heap.size none w2 wc) := Lib.hid (HXv.out.trans hex (by omega) (by simp)); have HYc : Hid (Ex wr.heap.size none wr wc) := Lib.hid (HYv.out.trans hex hzv (by simp)); have hzc : wv.heap.size ≤ wc.heap.size := hex.size; have HVC := Lib.hid (HVI.out.keep hex (Nat.le_refl _)); clear hex g0 g1 g2; obtain ⟨g0, g1, g2⟩ := HQ.out _ HXc.out)
  | (go_at_call 81; refine (asB (refEnough_any o nd go gsn gsc gs (.slice va vnn vcc) _ _ (HGI.out _ HXc.out) HSN.out (by omega) HVC.out (by have := voicesL_len (onLost (votesG l) o) (j : Int) 64; omega)) hen).mono ?_; rintro e we ⟨rfl, hex⟩; have HXe : Hid (Ex w2.heap.size none w2 we) := Lib.hid (HXc.out.trans hex (by omega) (by simp)); have HY : Hid (Ex wr.heap.size none wr we) := Lib.hid (HYc.out.trans hex (by omega) (by simp)); have hwr0 : wo.heap.size ≤ wr.heap.size := HEW.out.size; clear hex)
  | fail)
                go_roundw
                case rel => exact ⟨j + 1, cn, j, by go_num, by omega, rfl, rfl, by omega, HP1, HXe.out, HEW.out.trans HY.out (by omega) (by simp)⟩
                case measure => simp [intOf] <;> omega
              · have HP1 : Hid (pickR l (o, nd, gs) (j + 1) = (bi, m)) := Lib.hid (by rw [HPS, if_neg]; rintro ⟨_, _, h⟩; exact hgt (by rw [← hcn]; exact h))
                have hgtI : ¬ (m : Int) < (cn : Int) := by omega
                have hgtd : decide (m < cn) = false := decide_eq_false hgt
                clear HPS hcn hgt
                go_wp2_with (first
  | (go_at_call 79; refine (asB (named35_any (.slice vo vn vc) l o (j : Int) _ (HSL.out _ HEI.out) (by have := HLEN.out; omega)) hnm).mono ?_; rintro e wn ⟨rfl, rfl⟩)
  | (go_at_call 21; refine (voices35_any (.slice vo vn vc) l o (j : Int) _ (HSL.out _ HEI.out) HLEN.out HLI.out).mono ?_; rintro e wv ⟨va, vcc, vnn, rfl, hvn, hown, hex⟩; have HXv : Hid (Ex w2.heap.size none w2 wv) := Lib.hid (HEI.out.trans hex hszi (by simp)); have HYv : Hid (Ex wr.heap.size none wr wv) := Lib.hid hex; have HVI := Lib.hid (iE_ints hvn hown); have hzv : wr.heap.size ≤ wv.heap.size := hex.size; clear hvn hown hex g0 g1 g2; obtain ⟨g0, g1, g2⟩ := HQ.out _ HXv.out)
  | (go_at_call 80; refine (refVoices34_any o nd go gsn gsc gs (.slice va vnn vcc) _ _ (HGI.out _ HXv.out) HSN.out (by omega) HVI.out (by have := voicesL_len (onLost (votesG l) o) (j : Int) 64; omega)).mono ?_; rw [HCNT.out]; rintro e wc ⟨rfl, hex⟩; have HXc : Hid (Ex w2.heap.size none w2 wc) := Lib.hid (HXv.out.trans hex (by omega) (by simp)); have HYc : Hid (Ex wr.heap.size none wr wc) := Lib.hid (HYv.out.trans hex hzv (by simp)); have hzc : wv.heap.size ≤ wc.heap.size := hex.size; have HVC := Lib.hid (HVI.out.keep hex (Nat.le_refl _)); clear hex g0 g1 g2; obtain ⟨g0, g1, g2⟩ := HQ.out _ HXc.out)
  | (go_at_call 81; refine (asB (refEnough_any o nd go gsn gsc gs (.slice va vnn vcc) _ _ (HGI.out _ HXc.out) HSN.out (by omega) HVC.out (by have := voicesL_len (onLost (votesG l) o) (j : Int) 64; omega)) hen).mono ?_; rintro e we ⟨rfl, hex⟩; have HXe : Hid (Ex w2.heap.size none w2 we) := Lib.hid (HXc.out.trans hex (by omega) (by simp)); have HY : Hid (Ex wr.heap.size none wr we) := Lib.hid (HYc.out.trans hex (by omega) (by simp)); have hwr0 : wo.heap.size ≤ wr.heap.size := HEW.out.size; clear hex)
  | fail)
                go_roundw
                case rel => exact ⟨j + 1, m, bi, by go_num, by omega, rfl, rfl, hm64, HP1, HXe.out, HEW.out.trans HY.out (by omega) (by simp)⟩
                case measure => simp [intOf] <;> omega
        · have hjI : ¬ (j : Int) < 64 := by omega
          have HP64 : Hid (pickR l (o, nd, gs) 64 = (bi, m)) := Lib.hid (by have h := HP.out; rw [show j = 64 by omega] at h; exact h)
          clear h64
          by_cases hb : 0 ≤ bi
          · have kb : decide (0 ≤ bi) = true := decide_eq_true hb
            have HS2 : Hid (heirsR l (gl.take (k + 1)) = heirsR l (gl.take k) ++ [(o, bi)]) := Lib.hid (by rw [HSNOC.out]; unfold heirR; rw [HP64.out, if_pos hb])
            go_wp2_with (first
              | (at_builtin; refine wpList_appE2 rfl (.tmp 61) (.tmp 69) _ 25 (by rfl) Tryz.underlying42 _ 2 16 Tryz.infoHeir rfl (by decide) (by decide) encH (fun _ => rfl) one_encH w2.heap.size ro rc n (heirsR l (gl.take k)) HN.out (by rfl) (some ⟨wr.heap.size, 0, none⟩) 1 1 (by rfl) [(o, bi)] rfl ((HO.out.keep HEW.out (Nat.le_refl _) (by simp)).keep (Ex.new wr _) (Nat.le_refl _) (by simp)) (lit_cells (by rfl)) (by omega) (by simp; omega) (n + 1) (by omega) ?_; intro ro2 rc2 w6 hown6 hex6 _ _; have H6 : Hid (OwnE encH 2 25 w6 w2.heap.size ro2 rc2 (heirsR l (gl.take (k + 1))) ∧ Ex w2.heap.size none w2 w6) := Lib.hid ⟨by rw [HS2.out]; exact hown6, (HEI.out.trans (Ex.new wr _) hszi (by simp)).trans hex6 (Nat.le_refl _) (by simp)⟩; clear hown6 hex6)
              | fail)
            go_roundw
            case rel => exact ⟨k + 1, n + 1, ro2, rc2, by go_num, by omega, by omega, rfl, Lib.hid (by rw [HS2.out, List.length_append, HN.out]; rfl), Lib.hid H6.out.1, H6.out.2⟩
            case measure => simp [intOf] <;> omega
          · have kb : decide (0 ≤ bi) = false := decide_eq_false hb
            have HS2 : Hid (heirsR l (gl.take (k + 1)) = heirsR l (gl.take k)) := Lib.hid (by rw [HSNOC.out]; unfold heirR; rw [HP64.out, if_neg hb, List.append_nil])
            go_wp2_with fail
            go_roundw
            case rel => exact ⟨k + 1, n, ro, rc, by go_num, by omega, by omega, rfl, Lib.hid (by rw [HS2.out]; exact HN.out), Lib.hid (by rw [HS2.out]; exact HO.out.keep HEW.out (Nat.le_refl _) (by simp)), HEI.out⟩
            case measure => simp [intOf] <;> omega
    · have hkl : k = gn := by omega
      have hltI : ¬ (k : Int) < (gn : Int) := by omega
      have HT : Hid (heirsR l (gl.take k) = heirsR l gl) := Lib.hid (by rw [hkl, List.take_of_length_le (by rw [HGN.out]; omega)])
      clear hkl
      go_wp2
      go_ret
      exact ⟨ro, rc, n, rfl, by rw [← HT.out]; exact HN.out, by rw [← HT.out]; exact HO.out.lowerE (by omega), HE2.out.trans HEX.out (by omega) (by simp)⟩
end Go.Proofs.YtaghfcnpnfhacaaGreat
