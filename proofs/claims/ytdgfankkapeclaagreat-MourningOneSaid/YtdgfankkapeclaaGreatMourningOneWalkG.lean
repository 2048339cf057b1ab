/- The walk of MourningOne. No statement of the seat. -/
import Derived.Test.YtdgfankkapeclaaGreatHeirsPG
import Derived.Test.YtdgfankkapeclaaGreatOnePlainG
import Derived.Test.YtdgfankkapeclaaGreatAll34G
import Derived.Test.YtdgfankkapeclaaGreatGriefG
import Derived.Test.YtdgfankkapeclaaGreatVoicesXG
import Derived.Test.YtdgfankkapeclaaGreatMg13
import Derived.Test.YtdgfankkapeclaaGreatMg01
import Derived.Test.YtdgfankkapeclaaGreatMg00
namespace Go.Proofs.YtdgfankkapeclaaGreat
open Go.RowKit Go.Maps Go.Sort

theorem own_heirs_sl {w : World} {base : Nat} {ao : Option Addr} {cap n : Nat} {xs : List (Int × Int)} (h : OwnE encH 2 34 w base ao cap xs) (hn : xs.length = n) : Sl heirRep (fun b => base ≤ b) w (.slice ao n cap) xs := by
  subst hn
  refine ⟨ao, cap, rfl, ?_⟩
  rcases h.cases with ⟨rfl, _, rfl⟩ | ⟨g, rfl, hb, _, _⟩
  · exact SlAt.nil _ _ _
  · exact sl_holdsK hb (h.holds (show ∀ x : Int × Int, (encH x).length = 2 from fun _ => rfl))
theorem Ex.cellK {w w' : World} (h : Ex w.heap.size none w w') {b o : Nat} {v : Value} (hc : w.cell? ⟨b, o, none⟩ = some v) : w'.cell? ⟨b, o, none⟩ = some v :=
  (World.cell?_of_block (w := w) (h.block b (World.block_lt_of_cell? w _ hc) (by simp))).trans hc
theorem heir_at {P : Nat → Prop} {w : World} {ao : Option Addr} {xs : List (Int × Int)} (h : SlAt heirRep P w ao xs) (i : Nat) (hi : i < xs.length) : ∃ b off x1 x2, ao = some ⟨b, off, none⟩ ∧ w.cell? ⟨b, off + i * 2, none⟩ = some (.int .i64 x1) ∧ w.cell? ⟨b, off + i * 2 + 1, none⟩ = some (.int .i64 x2) ∧ Hid (xs[i]? = some (x1, x2)) := by
  obtain ⟨b, off, cs, e, _, hr, hR⟩ := h i hi
  refine ⟨b, off, xs[i].1, xs[i].2, e, hr 0 _ (by rw [show cs = _ from hR]; rfl), hr 1 _ (by rw [show cs = _ from hR]; rfl), ?_⟩
  show _ = _
  simp [hi]

set_option maxHeartbeats 16000000 in
set_option maxRecDepth 100000 in
theorem mourningOne_walk (v : Value) (L : List Int) (w : World) (hv : Ints w v L) (hm0 : L.length ≤ 9223372036854775807) :
    Calls Tryz.prog 3 #[v] w fun e w' => e = .returned (.bool true) ∧ Below w.heap.size w w' := by
  obtain ⟨ao, cap, rfl, hx⟩ := hv
  have HX := Lib.hid hx
  clear hx
  by_cases hm : L.length ≤ 400
  · have hmI : (L.length : Int) ≤ 400 := by omega
    go_enter Tryz.func3, Tryz.ntmps3
    go_upto_region 7 with (first
      | (go_at_call 10; refine (light_any _ _ _ _).mono ?_; rintro e w' ⟨rfl, rfl⟩)
      | (go_at_call 12
         refine (roll_any (.slice ao L.length cap) L w ⟨ao, cap, rfl, HX.out⟩ (by omega)).mono ?_
         rintro e w1 ⟨p, rfl, hd, hp1, hp2, hex⟩
         have HD1 : Hid (DiceOK (p + 1) w1 p ∧ Ex w.heap.size none w w1) := Lib.hid ⟨⟨_, hd⟩, hex⟩
         have hz1 : w.heap.size ≤ w1.heap.size := hex.size
         clear hd hex)
      | (go_at_call 13
         refine (grief_w (p + 1) p _ HD1.out.1 hp2).mono ?_
         rintro e w2 ⟨so, sc, sn, rfl, l, hsn, hs20, hown, hli, hd, hex⟩
         have HD2 : Hid (DiceOK (p + 1) w2 p ∧ Ex w.heap.size none w w2) := Lib.hid ⟨hd, HD1.out.2.trans hex hz1 (fun q e hq => by cases e; omega)⟩
         have HO2 := Lib.hid hown
         have HSN := Lib.hid hsn
         have HLI0 := Lib.hid hli
         have hz2 : w1.heap.size ≤ w2.heap.size := hex.size
         have HS2 : Hid (∀ w', Ex w2.heap.size none w2 w' → Sl stRep (fun _ => True) w' (.slice so sn sc) l) := Lib.hid (fun w' h => by
           have q := HO2.out.sl
           rw [HSN.out] at q
           exact (q.keep (by decide) fun b _ hb => h.block b hb (by simp)).mono (by decide) fun _ _ _ => trivial)
         have HLI : Hid (LightL 9223372036854775807 l) := Lib.hid (fun s hs => by have := HLI0.out s hs; omega)
         have HLEN : Hid (l.length ≤ 100000) := Lib.hid (by rw [HSN.out]; omega)
         clear hsn hown hli hd hex)
      | (go_at_call 14
         refine (all34_any (.slice so sn sc) l _ (HS2.out _ (Ex.refl _ _ _)) HLEN.out HLI.out).mono ?_
         rintro e w3 ⟨ga0, gc0, gn, rfl, hgn, hsl, hex⟩
         have HE3 : Hid (Ex w2.heap.size none w2 w3) := Lib.hid hex
         have HGL := Lib.hid hgn
         have HG3 := Lib.hid hsl
         have hz3 : w2.heap.size ≤ w3.heap.size := hex.size
         clear hgn hsl hex)
      | (go_at_call 15
         refine (heirsP_any (.slice so sn sc) l _ (HS2.out _ HE3.out) HLEN.out HLI.out).mono ?_
         rintro e w4 ⟨ha, hc, hn, rfl, hhn, hown, hex⟩
         have HE4 : Hid (Ex w2.heap.size none w2 w4) := Lib.hid (HE3.out.trans hex hz3 (by simp))
         have HHN := Lib.hid hhn
         have HH4 := Lib.hid (own_heirs_sl hown hhn)
         have HG4 : Hid (Sl guardRep (fun _ => True) w4 (.slice ga0 gn gc0) (guardsTo l 64)) := Lib.hid (HG3.out.keep (by decide) fun b _ hb => hex.block b hb (by simp))
         have hz4 : w3.heap.size ≤ w4.heap.size := hex.size
         clear hhn hown hex)
      | fail)
    obtain ⟨vl, hvl⟩ : ∃ vl, vl = votesG l := ⟨_, rfl⟩
    obtain ⟨gs, hgs⟩ : ∃ gs, gs = guardsTo l 64 := ⟨_, rfl⟩
    obtain ⟨hs, hhs⟩ : ∃ hs, hs = heirsP vl gs := ⟨_, rfl⟩
    have HVL : Hid (votesG l = vl) := Lib.hid hvl.symm
    have HDEF : Hid (vl = votesG l ∧ gs = guardsTo l 64 ∧ hs = heirsP vl gs) := Lib.hid ⟨hvl, hgs, hhs⟩
    have HSL : Hid (∀ w', Ex w4.heap.size none w4 w' → Sl stRep (fun _ => True) w' (.slice so sn sc) l) := Lib.hid (fun w' h => HS2.out w' (HE4.out.trans h (by omega) (by simp)))
    have HD4 : Hid (DiceOK (p + 1) w4 p ∧ Ex w.heap.size none w w4) := Lib.hid ⟨HD2.out.1.keep HE4.out (by omega), HD2.out.2.trans HE4.out (by omega) (by simp)⟩
    obtain ⟨_, _, eg, hga⟩ := HG4.out
    obtain ⟨_, _, eh, hha⟩ := HH4.out
    simp only [Value.slice.injEq] at eg eh
    rw [← eg.1] at hga
    rw [← eh.1] at hha
    clear eg eh
    have hn64 : hn ≤ 64 := by have := heirsP_len (votesG l) l; have := HHN.out; omega
    have hg64 : gn ≤ 64 := by have := guardsTo_len l 64; have := HGL.out; omega
    rw [← hvl, ← hgs, ← hhs] at hha
    rw [← hgs] at hga
    have HLH : Hid (hs.length = hn) := Lib.hid (by rw [hhs, hvl, hgs]; exact HHN.out)
    have HLGS : Hid (gs.length = gn) := Lib.hid (by rw [hgs]; exact HGL.out)
    have HGA := Lib.hid hga
    have HHA := Lib.hid hha
    clear hvl hgs hhs hga hha HG4 HH4 HG3 HGL HHN HO2 HLI0 HS2 HE3 HE4 HD1 HD2
    go_wp2_with (fail)
    go_loopw [7, 8, 9] (fun iv _ _ wr => ∃ i : Nat, iv = .int .i64 i ∧ i ≤ hn ∧ Ex w4.heap.size none w4 wr) (fun iv _ _ _ => hn - (intOf iv).toNat)
    case atStart => exact ⟨0, rfl, Nat.zero_le _, Ex.refl _ _ _⟩
    case round =>
      obtain ⟨wo, hwo⟩ : ∃ wo : World, wo = wr := ⟨_, rfl⟩
      subst hwo
      obtain ⟨i, rfl, hi, hexi⟩ := hrel
      have hszi := hexi.size
      have HEI := Lib.hid hexi
      clear hexi
      by_cases hlt : i < hn
      · have hltI : (i : Int) < (hn : Int) := by omega
        obtain ⟨b, off, x1, x2, rfl, cx1, cx2, HXi⟩ := heir_at HHA.out i (by rw [HLH.out]; exact hlt)
        have HMEM : Hid ((x1, x2) ∈ hs) := Lib.hid (List.mem_of_getElem? HXi.out)
        have HXK : Hid ((0 ≤ x1 ∧ x1 < 64) ∧ 0 ≤ x2 ∧ x2 < 64) := Lib.hid (by have h := HMEM.out; obtain ⟨e1, e2, e3⟩ := HDEF.out; rw [e3, e1] at h; exact heirs_key h)
        have HXN : Hid (x1 ≠ x2) := Lib.hid (by have h := HMEM.out; obtain ⟨e1, e2, e3⟩ := HDEF.out; rw [e3, e1] at h; exact heirs_ne h)
        have kne : (x1 == x2) = false := by simpa using HXN.out
        have HCX : Hid (w4.cell? ⟨b, off + i * 2, none⟩ = some (.int .i64 x1) ∧ w4.cell? ⟨b, off + i * 2 + 1, none⟩ = some (.int .i64 x2)) := Lib.hid ⟨cx1, cx2⟩
        have q1 : ∀ q, (wo.drewN q).cell? ⟨b, off + i * 2, none⟩ = some (.int .i64 x1) := fun q => (HEI.out.drewN).cellK cx1
        have q2 : ∀ q, (wo.drewN q).cell? ⟨b, off + i * 2 + 1, none⟩ = some (.int .i64 x2) := fun q => (HEI.out.drewN).cellK cx2
        clear cx1 cx2
        by_cases h0 : i = 0
        · have h0d : decide (0 < i) = false := by simp [h0]
          clear h0
          go_wp2_with fail
          go_quiet (fail)
          go_wp2_with fail
          go_loopw [8, 9] (fun fv kv wi => ∃ k : Nat, kv = .int .i64 k ∧ k ≤ gn ∧ fv = .bool (foundTo vl x1 x2 gs k) ∧ Ex w4.heap.size none w4 wi) (fun _ kv _ => gn - (intOf kv).toNat)
          case atStart => exact ⟨0, rfl, Nat.zero_le _, rfl, by repeat (first | exact HEI.out | refine Ex.drewN ?_ | refine Ex.drew ?_)⟩
          case round =>
            clear q1 q2
            clear HEI hszi
            obtain ⟨k, rfl, hk, rfl, hexk⟩ := hrel
            have hszk := hexk.size
            have HEK := Lib.hid hexk
            clear hexk
            by_cases hlk : k < gn
            · have hlkI : (k : Int) < (gn : Int) := by omega
              obtain ⟨gb, goff, o, nd, gsl, ga, gl, gc, rfl, _, hlg, cg0, cg1, cg2, HGk⟩ := guard_get HGA.out k (by rw [HLGS.out]; exact hlk)
              have HQ : Hid (∀ w', Ex w4.heap.size none w4 w' → w'.cell? ⟨gb, goff + k * 3, none⟩ = some (.int .i64 o) ∧ w'.cell? ⟨gb, goff + k * 3 + 1, none⟩ = some (.int .i64 nd) ∧ w'.cell? ⟨gb, goff + k * 3 + 2, none⟩ = some (.slice ga gl gc) ∧ w'.cell? ⟨b, off + i * 2, none⟩ = some (.int .i64 x1) ∧ w'.cell? ⟨b, off + i * 2 + 1, none⟩ = some (.int .i64 x2)) := Lib.hid (fun w' h => ⟨h.cellK cg0, h.cellK cg1, h.cellK cg2, h.cellK HCX.out.1, h.cellK HCX.out.2⟩)
              have HLG : Hid (∀ w', Ex w4.heap.size none w4 w' → Sl intRep (fun _ => True) w' (.slice ga gl gc) gsl) := Lib.hid (fun w' h => Sl.keep hlg (by decide) fun b _ hb => h.block b hb (by simp))
              have HGN : Hid (gsl.length = gl) := Lib.hid (by obtain ⟨_, _, e, _⟩ := hlg; simp only [Sv.v] at e; cases e; rfl)
              have HG64 : Hid (gsl.length ≤ 12) := Lib.hid (by
                obtain ⟨e1, e2, e3⟩ := HDEF.out
                have hmem := List.mem_of_getElem? HGk.out
                rw [e2] at hmem
                have h := (guardsTo_valid hmem).1
                simp only [validG, Bool.and_eq_true, decide_eq_true_eq] at h
                exact h.1.1.1.1.2)
              have HSU := Lib.hid (foundTo_succ (vl := vl) (a := x1) (b := x2) HGk.out)
              clear hlg cg0 cg1 cg2
              obtain ⟨g0, g1, g2, g3, g4⟩ := HQ.out _ HEK.out
              obtain ⟨fb, hfb⟩ : ∃ fb, fb = foundTo vl x1 x2 gs k := ⟨_, rfl⟩
              have HFB : Hid (foundTo vl x1 x2 gs k = fb) := Lib.hid hfb.symm
              rw [← hfb]
              clear hfb
              cases fb with
              | true =>
                have HF1 : Hid (foundTo vl x1 x2 gs (k + 1) = true) := Lib.hid (by rw [HSU.out, HFB.out]; rfl)
                have r0 : ∀ q, (wr.drewN q).cell? ⟨gb, goff + k * 3, none⟩ = some (.int .i64 o) := fun q => (HQ.out _ HEK.out.drewN).1
                have r1 : ∀ q, (wr.drewN q).cell? ⟨b, off + i * 2, none⟩ = some (.int .i64 x1) := fun q => (HQ.out _ HEK.out.drewN).2.2.2.1
                clear g0 g1 g2 g3 g4
                go_wp2_with fail
                go_quiet (fail)
                go_wp2_with (fail)
                go_roundw
                case rel => exact ⟨k + 1, by go_num, by omega, by rw [HF1.out], by repeat (first | exact HEK.out | refine Ex.drewN ?_ | refine Ex.drew ?_)⟩
                case measure => simp [intOf] <;> omega
              | false =>
                by_cases hox : o = x1
                · have kox : (o == x1) = true := by simp [hox]
                  have HOX := Lib.hid hox
                  clear hox
                  obtain ⟨en, hen⟩ : ∃ en, enoughG o nd gsl (voicesL (onLost vl x1) x2 64) = en := ⟨_, rfl⟩
                  have HF1 : Hid (foundTo vl x1 x2 gs (k + 1) = en) := Lib.hid (by rw [HSU.out, HFB.out]; show (decide (o = x1) && enoughG o nd gsl (voicesL (onLost vl x1) x2 64)) = en; rw [hen, HOX.out]; simp)
                  have HEN := Lib.hid hen
                  clear hen
                  cases en with
                  | true =>
                    go_upto_region 16 with (fail)
                    go_region_held3 (fun w' => w'.cell? ⟨gb, goff + k * 3, none⟩ = some (.int .i64 o) ∧ w'.cell? ⟨gb, goff + k * 3 + 1, none⟩ = some (.int .i64 nd) ∧ w'.cell? ⟨gb, goff + k * 3 + 2, none⟩ = some (.slice ga gl gc) ∧ w'.cell? ⟨b, off + i * 2, none⟩ = some (.int .i64 x1) ∧ w'.cell? ⟨b, off + i * 2 + 1, none⟩ = some (.int .i64 x2)) (exact HQ.out _ (by repeat (first | with_reducible exact HXe.out | with_reducible exact HXv.out | with_reducible exact HEK.out | with_reducible refine Ex.drew ?_)))
                      (first
                      | (go_at_call 17
                         refine (voicesX_any (.slice so sn sc) l x1 x2 _ (HSL.out _ (by repeat (first | with_reducible exact HXe.out | with_reducible exact HXv.out | with_reducible exact HEK.out | with_reducible refine Ex.drew ?_))) HLEN.out HLI.out (by have := HXK.out; omega)).mono ?_
                         rintro e wv ⟨va, vc, vn, rfl, hvn, hown, hex⟩
                         rw [HVL.out] at hvn hown
                         have HXv : Hid (Ex w4.heap.size none w4 wv) := Lib.hid ((HEK.out.drew).trans hex hszk (by simp))
                         have HVI := Lib.hid (iE_ints hvn hown)
                         have hzv : wr.heap.size ≤ wv.heap.size := hex.size
                         clear hvn hown hex)
                      | (go_at_call 16
                         refine (asB (refEnough_any o nd ga gl gc gsl (.slice va vn vc) _ wv (sl_ints (HLG.out _ HXv.out)).at' HGN.out (by have := HGN.out; have := HG64.out; omega) HVI.out (by have := voicesL_len (onLost vl x1) x2 64; omega)) HEN.out).mono ?_
                         rintro e we ⟨rfl, hex⟩
                         have HXe : Hid (Ex w4.heap.size none w4 we) := Lib.hid (HXv.out.trans hex (by omega) (by simp))
                         clear hex)
                      | fail)
                    go_wp2_with (fail)
                    go_roundw
                    case rel => exact ⟨k + 1, by go_num, by omega, by rw [HF1.out], HXe.out⟩
                    case measure => simp [intOf] <;> omega
                  | false =>
                    go_upto_region 16 with (fail)
                    go_region_held3 (fun w' => w'.cell? ⟨gb, goff + k * 3, none⟩ = some (.int .i64 o) ∧ w'.cell? ⟨gb, goff + k * 3 + 1, none⟩ = some (.int .i64 nd) ∧ w'.cell? ⟨gb, goff + k * 3 + 2, none⟩ = some (.slice ga gl gc) ∧ w'.cell? ⟨b, off + i * 2, none⟩ = some (.int .i64 x1) ∧ w'.cell? ⟨b, off + i * 2 + 1, none⟩ = some (.int .i64 x2)) (exact HQ.out _ (by repeat (first | with_reducible exact HXe.out | with_reducible exact HXv.out | with_reducible exact HEK.out | with_reducible refine Ex.drew ?_)))
                      (first
                      | (go_at_call 17
                         refine (voicesX_any (.slice so sn sc) l x1 x2 _ (HSL.out _ (by repeat (first | with_reducible exact HXe.out | with_reducible exact HXv.out | with_reducible exact HEK.out | with_reducible refine Ex.drew ?_))) HLEN.out HLI.out (by have := HXK.out; omega)).mono ?_
                         rintro e wv ⟨va, vc, vn, rfl, hvn, hown, hex⟩
                         rw [HVL.out] at hvn hown
                         have HXv : Hid (Ex w4.heap.size none w4 wv) := Lib.hid ((HEK.out.drew).trans hex hszk (by simp))
                         have HVI := Lib.hid (iE_ints hvn hown)
                         have hzv : wr.heap.size ≤ wv.heap.size := hex.size
                         clear hvn hown hex)
                      | (go_at_call 16
                         refine (asB (refEnough_any o nd ga gl gc gsl (.slice va vn vc) _ wv (sl_ints (HLG.out _ HXv.out)).at' HGN.out (by have := HGN.out; have := HG64.out; omega) HVI.out (by have := voicesL_len (onLost vl x1) x2 64; omega)) HEN.out).mono ?_
                         rintro e we ⟨rfl, hex⟩
                         have HXe : Hid (Ex w4.heap.size none w4 we) := Lib.hid (HXv.out.trans hex (by omega) (by simp))
                         clear hex)
                      | fail)
                    go_wp2_with (fail)
                    go_roundw
                    case rel => exact ⟨k + 1, by go_num, by omega, by rw [HF1.out], HXe.out⟩
                    case measure => simp [intOf] <;> omega
                · have kox : (o == x1) = false := by simpa using hox
                  have HF1 : Hid (foundTo vl x1 x2 gs (k + 1) = false) := Lib.hid (by rw [HSU.out, HFB.out]; show (decide (o = x1) && enoughG o nd gsl (voicesL (onLost vl x1) x2 64)) = false; rw [decide_eq_false hox]; rfl)
                  clear hox
                  have r0 : ∀ q, (wr.drewN q).cell? ⟨gb, goff + k * 3, none⟩ = some (.int .i64 o) := fun q => (HQ.out _ HEK.out.drewN).1
                  have r1 : ∀ q, (wr.drewN q).cell? ⟨b, off + i * 2, none⟩ = some (.int .i64 x1) := fun q => (HQ.out _ HEK.out.drewN).2.2.2.1
                  clear g0 g1 g2 g3 g4
                  go_wp2_with fail
                  go_quiet (fail)
                  go_wp2_with (fail)
                  go_roundw
                  case rel => exact ⟨k + 1, by go_num, by omega, by rw [HF1.out], by repeat (first | exact HEK.out | refine Ex.drewN ?_ | refine Ex.drew ?_)⟩
                  case measure => simp [intOf] <;> omega
            · have hlkI : ¬ (k : Int) < (gn : Int) := by omega
              have HFA : Hid (foundTo vl x1 x2 gs k = true) := Lib.hid (by
                have h := HMEM.out
                obtain ⟨e1, e2, e3⟩ := HDEF.out
                rw [e3] at h
                have h2 := found_all h
                rw [show k = gs.length by have := HLGS.out; omega]
                exact h2)
              rw [HFA.out]
              go_wp2_with (fail)
              go_roundw
              case rel => exact ⟨i + 1, by go_num, by omega, HEK.out⟩
              case measure => simp [intOf] <;> omega
        · have h0d : 0 < i := by omega
          obtain ⟨j, hj⟩ : ∃ j, i = j + 1 := ⟨i - 1, by omega⟩
          have hw1 : IntKind.i64.wrap ((i : Int) - 1) = j := by rw [show (i : Int) - 1 = j by omega]; exact IntWalk.i64_in _ (by omega)
          have hjn : (j : Int) < (hn : Int) := by omega
          obtain ⟨b', off', y1, y2, e', cy1, _, HYi⟩ := heir_at HHA.out j (by rw [HLH.out]; omega)
          cases e'
          have HLT : Hid (y1 < x1) := Lib.hid (by
            obtain ⟨e1, e2, e3⟩ := HDEF.out
            have h1 := HYi.out
            have h2 := HXi.out
            rw [e3, e2] at h1 h2
            rw [hj] at h2
            exact heirs_next h1 h2)
          have h3d : decide (x1 ≤ y1) = false := decide_eq_false (by have := HLT.out; omega)
          have q3 : ∀ q, (wo.drewN q).cell? ⟨b, off + j * 2, none⟩ = some (.int .i64 y1) := fun q => (HEI.out.drewN).cellK cy1
          have HJ := Lib.hid hj
          clear hj h0 cy1
          go_wp2_with fail
          go_quiet (fail)
          go_wp2_with fail
          go_loopw [8, 9] (fun fv kv wi => ∃ k : Nat, kv = .int .i64 k ∧ k ≤ gn ∧ fv = .bool (foundTo vl x1 x2 gs k) ∧ Ex w4.heap.size none w4 wi) (fun _ kv _ => gn - (intOf kv).toNat)
          case atStart => exact ⟨0, rfl, Nat.zero_le _, rfl, by repeat (first | exact HEI.out | refine Ex.drewN ?_ | refine Ex.drew ?_)⟩
          case round =>
            clear q1 q2 q3
            clear HEI hszi
            obtain ⟨k, rfl, hk, rfl, hexk⟩ := hrel
            have hszk := hexk.size
            have HEK := Lib.hid hexk
            clear hexk
            by_cases hlk : k < gn
            · have hlkI : (k : Int) < (gn : Int) := by omega
              obtain ⟨gb, goff, o, nd, gsl, ga, gl, gc, rfl, _, hlg, cg0, cg1, cg2, HGk⟩ := guard_get HGA.out k (by rw [HLGS.out]; exact hlk)
              have HQ : Hid (∀ w', Ex w4.heap.size none w4 w' → w'.cell? ⟨gb, goff + k * 3, none⟩ = some (.int .i64 o) ∧ w'.cell? ⟨gb, goff + k * 3 + 1, none⟩ = some (.int .i64 nd) ∧ w'.cell? ⟨gb, goff + k * 3 + 2, none⟩ = some (.slice ga gl gc) ∧ w'.cell? ⟨b, off + i * 2, none⟩ = some (.int .i64 x1) ∧ w'.cell? ⟨b, off + i * 2 + 1, none⟩ = some (.int .i64 x2)) := Lib.hid (fun w' h => ⟨h.cellK cg0, h.cellK cg1, h.cellK cg2, h.cellK HCX.out.1, h.cellK HCX.out.2⟩)
              have HLG : Hid (∀ w', Ex w4.heap.size none w4 w' → Sl intRep (fun _ => True) w' (.slice ga gl gc) gsl) := Lib.hid (fun w' h => Sl.keep hlg (by decide) fun b _ hb => h.block b hb (by simp))
              have HGN : Hid (gsl.length = gl) := Lib.hid (by obtain ⟨_, _, e, _⟩ := hlg; simp only [Sv.v] at e; cases e; rfl)
              have HG64 : Hid (gsl.length ≤ 12) := Lib.hid (by
                obtain ⟨e1, e2, e3⟩ := HDEF.out
                have hmem := List.mem_of_getElem? HGk.out
                rw [e2] at hmem
                have h := (guardsTo_valid hmem).1
                simp only [validG, Bool.and_eq_true, decide_eq_true_eq] at h
                exact h.1.1.1.1.2)
              have HSU := Lib.hid (foundTo_succ (vl := vl) (a := x1) (b := x2) HGk.out)
              clear hlg cg0 cg1 cg2
              obtain ⟨g0, g1, g2, g3, g4⟩ := HQ.out _ HEK.out
              obtain ⟨fb, hfb⟩ : ∃ fb, fb = foundTo vl x1 x2 gs k := ⟨_, rfl⟩
              have HFB : Hid (foundTo vl x1 x2 gs k = fb) := Lib.hid hfb.symm
              rw [← hfb]
              clear hfb
              cases fb with
              | true =>
                have HF1 : Hid (foundTo vl x1 x2 gs (k + 1) = true) := Lib.hid (by rw [HSU.out, HFB.out]; rfl)
                have r0 : ∀ q, (wr.drewN q).cell? ⟨gb, goff + k * 3, none⟩ = some (.int .i64 o) := fun q => (HQ.out _ HEK.out.drewN).1
                have r1 : ∀ q, (wr.drewN q).cell? ⟨b, off + i * 2, none⟩ = some (.int .i64 x1) := fun q => (HQ.out _ HEK.out.drewN).2.2.2.1
                clear g0 g1 g2 g3 g4
                go_wp2_with fail
                go_quiet (fail)
                go_wp2_with (fail)
                go_roundw
                case rel => exact ⟨k + 1, by go_num, by omega, by rw [HF1.out], by repeat (first | exact HEK.out | refine Ex.drewN ?_ | refine Ex.drew ?_)⟩
                case measure => simp [intOf] <;> omega
              | false =>
                by_cases hox : o = x1
                · have kox : (o == x1) = true := by simp [hox]
                  have HOX := Lib.hid hox
                  clear hox
                  obtain ⟨en, hen⟩ : ∃ en, enoughG o nd gsl (voicesL (onLost vl x1) x2 64) = en := ⟨_, rfl⟩
                  have HF1 : Hid (foundTo vl x1 x2 gs (k + 1) = en) := Lib.hid (by rw [HSU.out, HFB.out]; show (decide (o = x1) && enoughG o nd gsl (voicesL (onLost vl x1) x2 64)) = en; rw [hen, HOX.out]; simp)
                  have HEN := Lib.hid hen
                  clear hen
                  cases en with
                  | true =>
                    go_upto_region 16 with (fail)
                    go_region_held3 (fun w' => w'.cell? ⟨gb, goff + k * 3, none⟩ = some (.int .i64 o) ∧ w'.cell? ⟨gb, goff + k * 3 + 1, none⟩ = some (.int .i64 nd) ∧ w'.cell? ⟨gb, goff + k * 3 + 2, none⟩ = some (.slice ga gl gc) ∧ w'.cell? ⟨b, off + i * 2, none⟩ = some (.int .i64 x1) ∧ w'.cell? ⟨b, off + i * 2 + 1, none⟩ = some (.int .i64 x2)) (exact HQ.out _ (by repeat (first | with_reducible exact HXe.out | with_reducible exact HXv.out | with_reducible exact HEK.out | with_reducible refine Ex.drew ?_)))
                      (first
                      | (go_at_call 17
                         refine (voicesX_any (.slice so sn sc) l x1 x2 _ (HSL.out _ (by repeat (first | with_reducible exact HXe.out | with_reducible exact HXv.out | with_reducible exact HEK.out | with_reducible refine Ex.drew ?_))) HLEN.out HLI.out (by have := HXK.out; omega)).mono ?_
                         rintro e wv ⟨va, vc, vn, rfl, hvn, hown, hex⟩
                         rw [HVL.out] at hvn hown
                         have HXv : Hid (Ex w4.heap.size none w4 wv) := Lib.hid ((HEK.out.drew).trans hex hszk (by simp))
                         have HVI := Lib.hid (iE_ints hvn hown)
                         have hzv : wr.heap.size ≤ wv.heap.size := hex.size
                         clear hvn hown hex)
                      | (go_at_call 16
                         refine (asB (refEnough_any o nd ga gl gc gsl (.slice va vn vc) _ wv (sl_ints (HLG.out _ HXv.out)).at' HGN.out (by have := HGN.out; have := HG64.out; omega) HVI.out (by have := voicesL_len (onLost vl x1) x2 64; omega)) HEN.out).mono ?_
                         rintro e we ⟨rfl, hex⟩
                         have HXe : Hid (Ex w4.heap.size none w4 we) := Lib.hid (HXv.out.trans hex (by omega) (by simp))
                         clear hex)
                      | fail)
                    go_wp2_with (fail)
                    go_roundw
                    case rel => exact ⟨k + 1, by go_num, by omega, by rw [HF1.out], HXe.out⟩
                    case measure => simp [intOf] <;> omega
                  | false =>
                    go_upto_region 16 with (fail)
                    go_region_held3 (fun w' => w'.cell? ⟨gb, goff + k * 3, none⟩ = some (.int .i64 o) ∧ w'.cell? ⟨gb, goff + k * 3 + 1, none⟩ = some (.int .i64 nd) ∧ w'.cell? ⟨gb, goff + k * 3 + 2, none⟩ = some (.slice ga gl gc) ∧ w'.cell? ⟨b, off + i * 2, none⟩ = some (.int .i64 x1) ∧ w'.cell? ⟨b, off + i * 2 + 1, none⟩ = some (.int .i64 x2)) (exact HQ.out _ (by repeat (first | with_reducible exact HXe.out | with_reducible exact HXv.out | with_reducible exact HEK.out | with_reducible refine Ex.drew ?_)))
                      (first
                      | (go_at_call 17
                         refine (voicesX_any (.slice so sn sc) l x1 x2 _ (HSL.out _ (by repeat (first | with_reducible exact HXe.out | with_reducible exact HXv.out | with_reducible exact HEK.out | with_reducible refine Ex.drew ?_))) HLEN.out HLI.out (by have := HXK.out; omega)).mono ?_
                         rintro e wv ⟨va, vc, vn, rfl, hvn, hown, hex⟩
                         rw [HVL.out] at hvn hown
                         have HXv : Hid (Ex w4.heap.size none w4 wv) := Lib.hid ((HEK.out.drew).trans hex hszk (by simp))
                         have HVI := Lib.hid (iE_ints hvn hown)
                         have hzv : wr.heap.size ≤ wv.heap.size := hex.size
                         clear hvn hown hex)
                      | (go_at_call 16
                         refine (asB (refEnough_any o nd ga gl gc gsl (.slice va vn vc) _ wv (sl_ints (HLG.out _ HXv.out)).at' HGN.out (by have := HGN.out; have := HG64.out; omega) HVI.out (by have := voicesL_len (onLost vl x1) x2 64; omega)) HEN.out).mono ?_
                         rintro e we ⟨rfl, hex⟩
                         have HXe : Hid (Ex w4.heap.size none w4 we) := Lib.hid (HXv.out.trans hex (by omega) (by simp))
                         clear hex)
                      | fail)
                    go_wp2_with (fail)
                    go_roundw
                    case rel => exact ⟨k + 1, by go_num, by omega, by rw [HF1.out], HXe.out⟩
                    case measure => simp [intOf] <;> omega
                · have kox : (o == x1) = false := by simpa using hox
                  have HF1 : Hid (foundTo vl x1 x2 gs (k + 1) = false) := Lib.hid (by rw [HSU.out, HFB.out]; show (decide (o = x1) && enoughG o nd gsl (voicesL (onLost vl x1) x2 64)) = false; rw [decide_eq_false hox]; rfl)
                  clear hox
                  have r0 : ∀ q, (wr.drewN q).cell? ⟨gb, goff + k * 3, none⟩ = some (.int .i64 o) := fun q => (HQ.out _ HEK.out.drewN).1
                  have r1 : ∀ q, (wr.drewN q).cell? ⟨b, off + i * 2, none⟩ = some (.int .i64 x1) := fun q => (HQ.out _ HEK.out.drewN).2.2.2.1
                  clear g0 g1 g2 g3 g4
                  go_wp2_with fail
                  go_quiet (fail)
                  go_wp2_with (fail)
                  go_roundw
                  case rel => exact ⟨k + 1, by go_num, by omega, by rw [HF1.out], by repeat (first | exact HEK.out | refine Ex.drewN ?_ | refine Ex.drew ?_)⟩
                  case measure => simp [intOf] <;> omega
            · have hlkI : ¬ (k : Int) < (gn : Int) := by omega
              have HFA : Hid (foundTo vl x1 x2 gs k = true) := Lib.hid (by
                have h := HMEM.out
                obtain ⟨e1, e2, e3⟩ := HDEF.out
                rw [e3] at h
                have h2 := found_all h
                rw [show k = gs.length by have := HLGS.out; omega]
                exact h2)
              rw [HFA.out]
              go_wp2_with (fail)
              go_roundw
              case rel => exact ⟨i + 1, by go_num, by omega, HEK.out⟩
              case measure => simp [intOf] <;> omega
      · have hltI : ¬ (i : Int) < (hn : Int) := by omega
        obtain ⟨w5, hw5⟩ : ∃ w5 : World, w5 = wo := ⟨_, rfl⟩
        subst hw5
        clear hlt
        have HD5 : Hid (DiceOK (p + 1) w5 p) := Lib.hid (HD4.out.1.keep HEI.out (by omega))
        have HRNG : Hid (∀ k x, heirI hs k = some x → 0 ≤ x ∧ x < 64) := Lib.hid (fun k x h => by
          have h1 := heirI_some h
          obtain ⟨e1, e2, e3⟩ := HDEF.out
          rw [e3, e1] at h1
          exact (heirs_key h1).2)
        have hH5 : Sl heirRep (fun _ => True) w5 (.slice ha hn hc) hs := ⟨ha, hc, by rw [HLH.out], (HHA.out.keep (by decide) fun b _ hb => HEI.out.block b hb (by simp)).mono (by decide) fun _ _ _ => trivial⟩
        have HH5 : Hid (∀ w', Ex w5.heap.size none w5 w' → Sl heirRep (fun _ => True) w' (.slice ha hn hc) hs) := Lib.hid (fun w' h => hH5.keep (by decide) fun b _ hb => h.block b hb (by simp))
        have HHP : Hid (∀ w', Ex w5.heap.size (some p) w5 w' → Sl heirRep (fun _ => True) w' (.slice ha hn hc) hs) := Lib.hid (fun w' h => ⟨ha, hc, by rw [HLH.out], ((HHA.out.keep (by decide) fun b _ hb => HEI.out.block b hb (by simp)).keep (by decide) fun b h1 hb => h.block b hb (fun e => by cases e; omega)).mono (by decide) fun _ _ _ => trivial⟩)
        have HHL : Hid (hs.length ≤ 1000000) := Lib.hid (by rw [HLH.out]; omega)
        clear hH5
        go_upto_region 21 with (first
          | (go_at_call 18
             refine (keys_w (p + 1) p 8 _ HD5.out (by omega) (by omega) (by omega)).mono ?_
             rintro e w6 ⟨ra, rc, rn, r, rfl, hrn, hown, hrl, hrm, hr0, hd, hex⟩
             have HRN := Lib.hid hrn
             have HRM := Lib.hid hrm
             have HR0 := Lib.hid hr0
             have hrn8 : rn ≤ 8 := by rw [← hrn]; omega
             have HR6 : Hid (∀ w', Ex w6.heap.size none w6 w' → Ints w' (.slice ra rn rc) r) := Lib.hid (fun w' h => by rw [← hrn]; exact (sl_ints (own_ints_sl hown)).keep h (Nat.le_refl _))
             have HE6 : Hid (Ex w.heap.size none w w6) := Lib.hid ((HD4.out.2.trans HEI.out (by omega) (by simp)).trans hex (by omega) (fun q e hq => by cases e; omega))
             have HH6 : Hid (∀ w', Ex w6.heap.size none w6 w' → Sl heirRep (fun _ => True) w' (.slice ha hn hc) hs) := Lib.hid (fun w' h => (HHP.out _ hex).keep (by decide) fun b _ hb => h.block b hb (by simp))
             have hz6 : w5.heap.size ≤ w6.heap.size := hex.size
             clear hrn hown hrl hrm hr0 hd hex)
          | (go_at_call 19
             refine (replace_any _ (HR6.out _ (Ex.refl _ _ _)) (HH6.out _ (Ex.refl _ _ _)) HHL.out (by rw [HRN.out]; omega)).mono ?_
             rintro e w7 ⟨na, nc, rfl, hint, hex⟩
             obtain ⟨nl, hnl⟩ : ∃ nl, nl = replI (heirI hs) r := ⟨_, rfl⟩
             rw [← hnl] at hint ⊢
             obtain ⟨nn, hnn⟩ : ∃ nn, nn = nl.length := ⟨_, rfl⟩
             have HNI : Hid (∀ w', Ex w7.heap.size none w7 w' → Ints w' (.slice na nn nc) nl) := Lib.hid (fun w' h => by rw [hnn]; exact (show Ints w7 (.slice na nl.length nc) nl from ⟨_, _, rfl, hint⟩).keep h (Nat.le_refl _))
             rw [← hnn]
             have HNL : Hid (nn = nl.length ∧ nl = replI (heirI hs) r) := Lib.hid ⟨hnn, hnl⟩
             have HE7 : Hid (Ex w6.heap.size none w6 w7) := Lib.hid hex
             have hz7 : w6.heap.size ≤ w7.heap.size := hex.size
             clear hint hnl hnn hex)
          | fail)
        have HHAS : Hid (∀ y ∈ r, hasI nl (followI (heirI hs) y) = true) := Lib.hid (fun y hy => by
          have h64 : ∀ x ∈ r, 0 ≤ x ∧ x < 64 := fun x hx => by have := HRM.out x hx; omega
          have hf := followI_key (h64 y hy) HRNG.out
          rw [hasI_iff, HNL.out.2, mem_replI h64]
          exact ⟨hf.1, hf.2, y, hy, rfl⟩)
        have hnr : nn ≤ rn := by
          obtain ⟨e1, e2⟩ := HNL.out
          rw [e1, e2, ← HRN.out]
          exact replI_le _ _
        have hn0 : 0 < nn := by
          obtain ⟨y, hy⟩ := List.exists_mem_of_ne_nil r HR0.out
          have h1 := HHAS.out y hy
          rw [hasI_iff] at h1
          have := List.length_pos_of_mem h1
          have := HNL.out.1
          omega
        have k1 : ¬ (rn : Int) < (nn : Int) := by omega
        have k1d : decide (rn < nn) = false := decide_eq_false (by omega)
        have k2 : ((nn : Int) == 0) = false := by simp; omega
        go_wp2_with (fail)
        go_loopw [12] (fun iv wr => ∃ j : Nat, iv = .int .i64 j ∧ j ≤ rn ∧ Ex w7.heap.size none w7 wr) (fun iv _ => rn - (intOf iv).toNat)
        case atStart => exact ⟨0, rfl, Nat.zero_le _, Ex.refl _ _ _⟩
        case round =>
          clear k1 k1d k2
          obtain ⟨j, rfl, hj, hexj⟩ := hrel
          have hszj := hexj.size
          have HEJ := Lib.hid hexj
          clear hexj
          by_cases hlj : j < rn
          · have hljI : (j : Int) < (rn : Int) := by omega
            obtain ⟨b, off, y, rfl, hck, HY⟩ := ((HR6.out _ (HE7.out.trans HEJ.out hz7 (by simp))).at').get j (by rw [HRN.out]; exact hlj)
            have HYM : Hid (y ∈ r) := Lib.hid (by
              have := HY.out
              rw [List.getD_eq_getElem?_getD, List.getElem?_eq_getElem (by rw [HRN.out]; exact hlj)] at this
              simp at this; subst this; exact List.getElem_mem _)
            go_wp2_with (first
              | (go_at_call 21
                 refine (follow_any y _ (HH6.out _ (HE7.out.trans HEJ.out hz7 (by simp))) HHL.out).mono ?_
                 rintro e wf ⟨rfl, hex⟩
                 have HEF : Hid (Ex w7.heap.size none w7 wf) := Lib.hid (HEJ.out.trans hex hszj (by simp))
                 have hzf : wr.heap.size ≤ wf.heap.size := hex.size
                 clear hex hck)
              | (go_at_call 20
                 refine (asB (refHas_any (.slice na nn nc) nl (followI (heirI hs) y) _ (HNI.out _ HEF.out) (by have := HNL.out.1; omega)) (HHAS.out y HYM.out)).mono ?_
                 rintro e wg ⟨rfl, rfl⟩)
              | fail)
            go_roundw
            case rel => exact ⟨j + 1, by go_num, by omega, HEF.out⟩
            case measure => simp [intOf] <;> omega
          · have hljI : ¬ (j : Int) < (rn : Int) := by omega
            go_wp2_with (first
              | (go_at_call 11; refine (awake35_any _).mono ?_; rintro e w8 ⟨rfl, hex8⟩)
              | fail)
            go_ret
            exact ⟨rfl, (((HE6.out.trans HE7.out (by have := HE6.out.size; omega) (by simp)).trans HEJ.out (by have := HE6.out.size; omega) (by simp)).trans hex8 (by have := HE6.out.size; omega) (by simp)).below⟩
  · have hmI : ¬ (L.length : Int) ≤ 400 := by omega
    have hmd : decide ((L.length : Int) ≤ 400) = false := decide_eq_false hmI
    clear hmI
    go_enter Tryz.func3, Tryz.ntmps3
    go_wp2_with (first
      | (go_at_call 10; refine (light_any _ _ _ _).mono ?_; rintro e w' ⟨rfl, rfl⟩)
      | (go_at_call 11; refine (awake35_any _).mono ?_; rintro e w1 ⟨rfl, hex⟩))
    go_ret
    exact ⟨rfl, hex.below⟩
end Go.Proofs.YtdgfankkapeclaaGreat
