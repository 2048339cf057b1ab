/- law35.grief: statements that name guardians, and losses. No statement of the seat. -/
import Derived.Test.YtaghfcnpnfhacaaGreatDraft34G
import Derived.Test.YtaghfcnpnfhacaaGreatMillGG
import Derived.Test.YtaghfcnpnfhacaaGreatMillAnyG
import Derived.Test.YtaghfcnpnfhacaaGreatMg03
import Derived.Test.YtaghfcnpnfhacaaGreatMg13
import Derived.Test.YtaghfcnpnfhacaaGreatDiceWG
import Derived.Test.YtaghfcnpnfhacaaGreatMg05
import Derived.Test.YtaghfcnpnfhacaaGreatMg04
namespace Go.Proofs.YtaghfcnpnfhacaaGreat
open Go.RowKit Go.Sort

theorem minusI_len (a b : List Int) : (minusI a b).length ≤ 64 := keysTo_le _ 64
theorem keys_w (N p : Nat) (n : Int) (w : World) (hd : DiceOK N w p) (hN : N ≤ w.heap.size) (h0 : 1 ≤ n) (hn : n ≤ 100000) :
    Calls Tryz.prog 65 #[.pointer (some ⟨p, 0, none⟩), .int .i64 n] w fun e w' => ∃ ro rc m xs, e = .returned (.slice ro m rc) ∧ xs.length = m ∧ OwnI w' w.heap.size ro rc xs ∧ (xs.length : Int) ≤ n ∧ (∀ x ∈ xs, 0 ≤ x ∧ x < n) ∧ xs ≠ [] ∧ DiceOK N w' p ∧ Ex w.heap.size (some p) w w' := by
  obtain ⟨d, hd⟩ := hd
  exact (keys_any N p d n w hd hN (by omega) hn).mono fun e w' ⟨ro, rc, h1, h2, h3, h4⟩ => ⟨ro, rc, _, _, h1, rfl, h2, keysD_len d h0, fun x hx => keysD_mem h0 hx, by unfold keysD; split <;> simp_all, ⟨_, h3⟩, h4⟩

set_option maxHeartbeats 16000000 in
set_option maxRecDepth 100000 in
theorem grief_w (N p : Nat) (w : World) (hd : DiceOK N w p) (hN : N ≤ w.heap.size) :
    Calls Tryz.prog 14 #[.pointer (some ⟨p, 0, none⟩)] w fun e w' => ∃ (ro : Option Addr) (rc n : Nat), e = .returned (.slice ro n rc) ∧ ∃ l : List St, l.length = n ∧ n ≤ 20 ∧ OwnS w' w.heap.size ro rc l ∧ LightL 100 l ∧ DiceOK N w' p ∧ Ex w.heap.size (some p) w w' := by
  have hpN := hd.lt
  have HD0 := Lib.hid hd
  clear hd
  go_enter Tryz.func14, Tryz.ntmps14
  go_upto_region 3 with (first
    | (go_at_call 38
       refine (next_w N p 4 _ HD0.out (by omega) (by omega)).mono ?_
       rintro e w1 ⟨c1, rfl, hc1, hd, hex⟩
       have HD1 : Hid (DiceOK N w1 p ∧ Ex w.heap.size (some p) w w1) := Lib.hid ⟨hd, hex⟩
       have hz1 : w.heap.size ≤ w1.heap.size := hex.size
       clear hd hex)
    | fail)
  go_loopw [3, 4, 5, 6, 7, 8] (fun v i _ _ _ _ wr => ∃ (k c : Nat) (ro : Option Addr) (rc : Nat) (l : List St), i = .int .i64 c ∧ c ≤ 3 ∧ k + c ≤ 3 ∧ v = .slice ro k rc ∧ Hid (l.length = k) ∧ Hid (OwnS wr w.heap.size ro rc l) ∧ Hid (LightL 100 l) ∧ Hid (DiceOK N wr p) ∧ Ex w.heap.size (some p) w wr) (fun _ i _ _ _ _ _ => (intOf i).toNat)
  case atStart => exact ⟨0, c1, none, 0, [], rfl, by omega, by omega, rfl, Lib.hid rfl, Lib.hid (OwnS.nil _ _), Lib.hid (fun _ h => by cases h), Lib.hid HD1.out.1, HD1.out.2⟩
  case round =>
    clear HD1 HD0
    obtain ⟨k, c, ro, rc, l, rfl, hc3, hkc, rfl, HN, HO, HLI, HD, hex⟩ := hrel
    have hsz := hex.size
    have HEX := Lib.hid hex
    clear hex
    by_cases hlt : 0 < c
    · have hltI : (0 : Int) < (c : Int) := by omega
      go_upto_region 7 with (first
        | (go_at_call 38
           refine (next_w N p 4 _ HD.out (by omega) (by omega)).mono ?_
           rintro e wa ⟨o, rfl, ho, hd, hex⟩
           have HDa : Hid (DiceOK N wa p ∧ Ex wr.heap.size (some p) wr wa) := Lib.hid ⟨hd, hex⟩
           have hza : wr.heap.size ≤ wa.heap.size := hex.size
           clear hd hex)
        | (go_at_call 65
           refine (keys_w N p 7 _ HDa.out.1 (by omega) (by omega) (by omega)).mono ?_
           rintro e wb ⟨ka, kc, km, kx, rfl, hkm, hown, hkx, _, _, hd, hex⟩
           have HDb : Hid (DiceOK N wb p ∧ Ex wr.heap.size (some p) wr wb) := Lib.hid ⟨hd, HDa.out.2.trans hex hza (fun q e _ => by cases e; rfl)⟩
           have HIB : Hid (Ints wb (.slice ka km kc) kx) := Lib.hid (by rw [← hkm]; exact sl_ints (own_ints_sl hown))
           have HKX := Lib.hid hkx
           have hzb : wr.heap.size ≤ wb.heap.size := HDb.out.2.size
           clear hd hex hown hkm hkx)
        | (go_at_call 64
           refine (minus_any (.slice ka km kc) (.slice (some ⟨wb.heap.size, 0, none⟩) 1 1) kx [(o : Int)] _ (HIB.out.keep (Ex.new wb _) (Nat.le_refl _)) ⟨_, 1, rfl, IntsAt.lit wb [(o : Int)]⟩ (by have := HKX.out; omega) (by simp)).mono ?_
           rintro e wc ⟨ga, gc, rfl, hown, hex⟩
           obtain ⟨gs, hgs⟩ : ∃ gs, gs = minusI kx [(o : Int)] := ⟨_, rfl⟩
           have hgl : gs.length ≤ 64 := by rw [hgs]; exact minusI_len _ _
           rw [← hgs] at hown ⊢
           obtain ⟨gl, hgln⟩ : ∃ gl, gl = gs.length := ⟨_, rfl⟩
           have HGLN := Lib.hid hgln
           have HSG : Hid (Sl intRep (fun b => wb.heap.size ≤ b) wc (.slice ga gl gc) gs) := Lib.hid (by rw [hgln]; exact (own_ints_sl hown).mono (by decide) fun b h _ => by simp at h; omega)
           rw [← hgln] at hgl ⊢
           have HEc : Hid (Ex wr.heap.size (some p) wr wc) := Lib.hid ((HDb.out.2.trans (Ex.new wb _) hzb (by simp)).trans hex (by simp; omega) (by simp))
           have HDc : Hid (DiceOK N wc p) := Lib.hid (HDb.out.1.keep ((Ex.new wb _).trans hex (by simp) (by simp)) (by omega))
           have hzc : wb.heap.size < wc.heap.size := by have := hex.size; simp at this; omega
           clear hown hex hgs hgln)
        | fail)
      obtain ⟨wg, hwg⟩ : ∃ wg : World, wg = wc.alloc (.cells #[.int .i64 o, .int .i64 0, .slice ga gl gc] 113) := ⟨_, rfl⟩
      have HEg : Hid (Ex wr.heap.size (some p) wr wg) := Lib.hid (by rw [hwg]; exact HEc.out.alloc (by omega) _)
      have HDg : Hid (DiceOK N wg p) := Lib.hid (by rw [hwg]; exact HDc.out.keep (Ex.new wc _) (by omega))
      have hzg : wg.heap.size = wc.heap.size + 1 := by rw [hwg]; simp
      have HBg : Hid (wg.heap[wc.heap.size]? = some (.cells #[.int .i64 o, .int .i64 0, .slice ga gl gc] 113 (0, 0))) := Lib.hid (by rw [hwg]; exact heap_alloc_new _ _)
      have HSg : Hid (Sl intRep (fun b => wb.heap.size ≤ b ∧ b < wc.heap.size) wg (.slice ga gl gc) gs) := Lib.hid (by rw [hwg]; exact (HSG.out.mono (P' := fun b => wb.heap.size ≤ b ∧ b < wc.heap.size) (by decide) fun b h hb => ⟨h, hb⟩).keep (by decide) fun b _ hb => at_old _ _ _ hb)
      obtain ⟨g0, g1, g2⟩ : wg.cell? ⟨wc.heap.size, 0, none⟩ = some (.int .i64 o) ∧ wg.cell? ⟨wc.heap.size, 1, none⟩ = some (.int .i64 0) ∧ wg.cell? ⟨wc.heap.size, 2, none⟩ = some (.slice ga gl gc) := by
        refine ⟨?_, ?_, ?_⟩ <;> (rw [cell_of_row _ _ _ _ _ _ HBg.out]; rfl)
      rw [← hwg]
      clear hwg
      go_upto_region 8 with (first
        | (go_at_call 38
           refine (next_w N p _ _ HDg.out (by omega) (by omega)).mono ?_
           rintro e wn ⟨k2, rfl, hk2, hd, hex⟩
           have HDn : Hid (DiceOK N wn p ∧ Ex wr.heap.size (some p) wr wn) := Lib.hid ⟨hd, HEg.out.trans hex (by omega) (fun q e _ => by cases e; rfl)⟩
           have hzn : wg.heap.size ≤ wn.heap.size := hex.size
           have HBn : Hid (wn.heap[wc.heap.size]? = some (.cells #[.int .i64 o, .int .i64 0, .slice ga gl gc] 113 (0, 0))) := Lib.hid ((hex.block _ (by omega) (fun e => by cases e; omega)).trans HBg.out)
           have HSn : Hid (Sl intRep (fun b => wb.heap.size ≤ b ∧ b < wc.heap.size) wn (.slice ga gl gc) gs) := Lib.hid (HSg.out.keep (by decide) fun b h hb => hex.block b hb (fun e => by cases e; omega))
           have hk64 : (k2 : Int) < 64 := by omega
           have hw2 : IntKind.i64.wrap (1 + (k2 : Int)) = 1 + (k2 : Int) := IntWalk.i64_in _ (by omega)
           obtain ⟨n0, n1, n2⟩ : wn.cell? ⟨wc.heap.size, 0, none⟩ = some (.int .i64 o) ∧ wn.cell? ⟨wc.heap.size, 1, none⟩ = some (.int .i64 0) ∧ wn.cell? ⟨wc.heap.size, 2, none⟩ = some (.slice ga gl gc) := by
             refine ⟨?_, ?_, ?_⟩ <;> (rw [cell_of_row _ _ _ _ _ _ HBn.out]; rfl)
           have f1 := row_frozen_g (i := 1) HBn.out
           clear hd hex g0 g1 g2 hk2)
        | fail)
      obtain ⟨wq, hwq⟩ : ∃ wq : World, wq = wn.setCell ⟨wc.heap.size, 1, none⟩ (.int .i64 (1 + (k2 : Int))) := ⟨_, rfl⟩
      have HXq : Hid (Ex wc.heap.size none wn wq) := Lib.hid (by rw [hwq]; exact (Ex.refl _ _ wn).setCell _ none _ (.inr (Nat.le_refl _)))
      have HEq : Hid (Ex wr.heap.size (some p) wr wq) := Lib.hid (HDn.out.2.trans (HXq.out.weaken (some p)) (by omega) (fun q e _ => e))
      have HDq : Hid (DiceOK N wq p) := Lib.hid (HDn.out.1.keep HXq.out (by omega))
      have HBq : Hid (wq.heap[wc.heap.size]? = some (.cells #[.int .i64 o, .int .i64 (1 + (k2 : Int)), .slice ga gl gc] 113 (0, 0))) := Lib.hid (by rw [hwq, heap_setCell_same _ _ _ _ _ _ HBn.out]; rfl)
      have HSq : Hid (Sl intRep (fun b => wb.heap.size ≤ b ∧ b < wc.heap.size) wq (.slice ga gl gc) gs) := Lib.hid (HSn.out.keep (by decide) fun b h hb => by rw [hwq]; exact set_far (by omega) rfl)
      have hzq : wn.heap.size ≤ wq.heap.size := HXq.out.size
      obtain ⟨g0, g1, g2⟩ : wq.cell? ⟨wc.heap.size, 0, none⟩ = some (.int .i64 o) ∧ wq.cell? ⟨wc.heap.size, 1, none⟩ = some (.int .i64 (1 + (k2 : Int))) ∧ wq.cell? ⟨wc.heap.size, 2, none⟩ = some (.slice ga gl gc) := by
        refine ⟨?_, ?_, ?_⟩ <;> (rw [cell_of_row _ _ _ _ _ _ HBq.out]; rfl)
      rw [← hwq]
      clear hwq n0 n1 n2 f1
      have hgl6 : gs.length ≤ 1000000 := by have := HGLN.out; omega
      cases hv : validG (o : Int) (1 + (k2 : Int)) gs with
      | false =>
        go_upto_region 9 with (first
          | (go_at_call 66
             refine (draft34_no (o : Int) (1 + (k2 : Int)) ga gl gc gs _ HSq.out hgl6 hv).mono ?_
             rintro e w4 ⟨rfl, hex⟩
             have HE4 := Lib.hid hex
             have hz4 : wq.heap.size ≤ w4.heap.size := hex.size
             clear hex g0 g1 g2)
          | fail)
        obtain ⟨w5, hw5⟩ : ∃ w5 : World, w5 = w4.alloc (.cells #[.int .i64 0, .int .i64 0, .int .i64 0, .int .i64 0, .slice none 0 0, .slice none 0 0] 34) := ⟨_, rfl⟩
        have HX5 : Hid (Ex wq.heap.size none wq w5) := Lib.hid (by rw [hw5]; exact HE4.out.alloc hz4 _)
        have HE5 : Hid (Ex wr.heap.size (some p) wr w5) := Lib.hid (HEq.out.trans (HX5.out.weaken (some p)) (by omega) (fun q e _ => e))
        rw [← hw5]
        clear hw5
        obtain ⟨c', rfl⟩ : ∃ c', c = c' + 1 := ⟨c - 1, by omega⟩
        go_wp2_with (fail)
        go_roundw
        case rel => exact ⟨k, c', ro, rc, l, by go_num, by omega, by omega, rfl, HN, Lib.hid (HO.out.keepP HE5.out (Nat.le_refl _) (fun q e => by cases e; omega)), HLI, Lib.hid (HDq.out.keep HX5.out (by omega)), HEX.out.trans HE5.out hsz (fun q e _ => e)⟩
        case measure => simp [intOf] <;> omega
      | true =>
        have hgl1 : 1 ≤ gs.length := by
          have h := hv
          simp only [validG, Bool.and_eq_true, decide_eq_true_eq] at h
          omega
        go_upto_region 9 with (first
          | (go_at_call 66
             refine (draft34_yes (o : Int) (1 + (k2 : Int)) ga gl gc gs _ HSq.out hgl6 hv).mono ?_
             rintro e w4 ⟨ya, yc, rfl, hsl, hex⟩
             have HSL4 := Lib.hid hsl
             have HE4 := Lib.hid hex
             have hz4 : wq.heap.size ≤ w4.heap.size := hex.size
             clear hsl hex g0 g1 g2)
          | fail)
        obtain ⟨w5, hw5⟩ : ∃ w5 : World, w5 = w4.alloc (.cells #[.int .i64 12, .int .i64 (1 + (k2 : Int)), .int .i64 0, .int .i64 0, .slice ya gl yc, .slice none 0 0] 34) := ⟨_, rfl⟩
        have hz5 : w5.heap.size = w4.heap.size + 1 := by rw [hw5]; simp
        have HX5 : Hid (Ex wq.heap.size none wq w5) := Lib.hid (by rw [hw5]; exact HE4.out.alloc hz4 _)
        have HE5 : Hid (Ex wr.heap.size (some p) wr w5) := Lib.hid (HEq.out.trans (HX5.out.weaken (some p)) (by omega) (fun q e _ => e))
        have HSL5 : Hid (Sl intRep (fun b => wq.heap.size ≤ b) w5 (.slice ya gl yc) gs) := Lib.hid (by rw [hw5]; exact HSL4.out.keep (by decide) fun b _ hb => at_old _ _ _ hb)
        obtain ⟨d0, d1, d2, d3, d4, d5⟩ : w5.cell? ⟨w4.heap.size, 0, none⟩ = some (.int .i64 12) ∧ w5.cell? ⟨w4.heap.size, 1, none⟩ = some (.int .i64 (1 + (k2 : Int))) ∧ w5.cell? ⟨w4.heap.size, 2, none⟩ = some (.int .i64 0) ∧ w5.cell? ⟨w4.heap.size, 3, none⟩ = some (.int .i64 0) ∧ w5.cell? ⟨w4.heap.size, 4, none⟩ = some (.slice ya gl yc) ∧ w5.cell? ⟨w4.heap.size, 5, none⟩ = some (.slice none 0 0) := by
          have q : w5.heap[w4.heap.size]? = some (.cells #[.int .i64 12, .int .i64 (1 + (k2 : Int)), .int .i64 0, .int .i64 0, .slice ya gl yc, .slice none 0 0] 34 (0, 0)) := by rw [hw5]; exact heap_alloc_new _ _
          refine ⟨?_, ?_, ?_, ?_, ?_, ?_⟩ <;> (rw [cell_of_row _ _ _ _ _ _ q]; rfl)
        rw [← hw5]
        clear hw5
        go_upto_region 4 with (first
          | (go_at_call 43
             refine (millList_any (o : Int) (k : Int) 0 (1 + (k2 : Int)) ya gl yc gs _ HSL5.out hgl1 (by have := HGLN.out; omega) (by omega)).mono ?_
             rintro e w6 ⟨s, la, na, ca, pa, np, cp, rfl, hs, hl, hex⟩
             have HS := Lib.hid hs
             have HLS := Lib.hid hl
             have hz6 : w5.heap.size ≤ w6.heap.size := hex.size
             have HE6 : Hid (Ex wr.heap.size (some p) wr w6) := Lib.hid (HE5.out.trans (hex.weaken (some p)) (by omega) (fun q e _ => e))
             have HD6 : Hid (DiceOK N w6 p) := Lib.hid (HDq.out.keep (HX5.out.trans hex (by omega) (by simp)) (by omega))
             have HO6 : Hid (OwnS w6 w.heap.size ro rc l) := Lib.hid (HO.out.keepP HE6.out (Nat.le_refl _) (fun q e => by cases e; omega))
             clear hs hl hex d0 d1 d2 d3 d4 d5)
          | (at_builtin
             refine wpList_appT rfl (.tmp 41) (.tmp 47) _ (by rfl) Tryz.underlying23 Tryz.infoSt w.heap.size w.heap.size ro rc k l HN.out (by rfl) (some ⟨w6.heap.size, 0, none⟩) 1 1 (by rfl) [(s, ⟨la, na, ca⟩, ⟨pa, np, cp⟩)] rfl (HO6.out.t.keep (Ex.new w6 _) (Nat.le_refl _)) (lit_cells rfl) (fun y hy => by rw [List.mem_singleton.1 hy]; exact (HLS.out.keep fun b _ hb => (Ex.new w6 _).block b hb (by simp)).mono fun b h _ => ⟨by omega, fun e => by have := HO.out.t.row b e; omega⟩) (by omega) (by simp; omega) (k + 1) (by omega) ?_
             intro ao3 cap3 wd hod hed hbd hrd
             have HDd : Hid (OwnS wd w.heap.size ao3 cap3 (l ++ [s]) ∧ Ex w.heap.size none w6 wd) := Lib.hid ⟨hod, ((Ex.new w6 _).mono (by omega)).trans hed (Nat.le_refl _) (by simp)⟩
             have hzd : w6.heap.size ≤ wd.heap.size := HDd.out.2.size
             clear hod hed hbd hrd)
          | fail)
        obtain ⟨c', rfl⟩ : ∃ c', c = c' + 1 := ⟨c - 1, by omega⟩
        go_wp2_with (fail)
        go_roundw
        case rel => exact ⟨k + 1, c', ao3, cap3, l ++ [s], by go_num, by omega, by omega, rfl, Lib.hid (by rw [List.length_append, HN.out]; rfl), Lib.hid HDd.out.1, Lib.hid (fun y hy => by
          rcases List.mem_append.1 hy with hy | hy
          · exact HLI.out y hy
          · rw [List.mem_singleton.1 hy]
            obtain ⟨_, _, _, _, _, _, _, q8, q9, _⟩ := HS.out; rw [q8, q9]; exact ⟨by have := HGLN.out; omega, by simp⟩), Lib.hid (HD6.out.keep HDd.out.2 (by omega)), (HEX.out.trans HE6.out hsz (fun q e _ => e)).trans (HDd.out.2.weaken (some p)) (by omega) (fun q e _ => e)⟩
        case measure => simp [intOf] <;> omega
    · have hc0 : ¬ (0 : Int) < (c : Int) := by omega
      have hk3 : k ≤ 3 := by omega
      clear hlt
      obtain ⟨w2, hw2⟩ : ∃ w2 : World, w2 = wr := ⟨_, rfl⟩
      subst hw2
      go_upto_region 12 with (first
        | (go_at_call 38
           refine (next_w N p 16 _ HD.out (by omega) (by omega)).mono ?_
           rintro e w3 ⟨c3, rfl, hc3', hd, hex⟩
           have HD3 : Hid (DiceOK N w3 p) := Lib.hid hd
           have HE3 : Hid (Ex w.heap.size (some p) w w3) := Lib.hid (HEX.out.trans hex hsz (fun q e _ => e))
           have HO3 : Hid (OwnS w3 w.heap.size ro rc l) := Lib.hid (HO.out.keepP hex (Nat.le_refl _) (fun q e => by cases e; omega))
           clear hd hex)
        | fail)
      go_loopw [3, 9, 10] (fun v i _ wr => ∃ (k c : Nat) (ro : Option Addr) (rc : Nat) (l : List St), i = .int .i64 c ∧ c ≤ 15 ∧ k + c ≤ 18 ∧ v = .slice ro k rc ∧ Hid (l.length = k) ∧ Hid (OwnS wr w.heap.size ro rc l) ∧ Hid (LightL 100 l) ∧ Hid (DiceOK N wr p) ∧ Ex w.heap.size (some p) w wr) (fun _ i _ _ => (intOf i).toNat)
      case atStart => exact ⟨k, c3, ro, rc, l, rfl, by omega, by omega, rfl, HN, HO3, HLI, HD3, HE3.out⟩
      case round =>
        clear HD3 HE3 HO3 HN HO HLI HD HEX
        obtain ⟨k, c, ro, rc, l, rfl, hc15, hkc, rfl, HN, HO, HLI, HD, hex⟩ := hrel
        have hsz := hex.size
        have HEX := Lib.hid hex
        clear hex
        by_cases hlt : 0 < c
        · have hltI : (0 : Int) < (c : Int) := by omega
          go_upto_region 15 with (first
            | (go_at_call 38
               (fail_if_success (first | have _x := HDa | fail))
               refine (next_w N p 7 _ HD.out (by omega) (by omega)).mono ?_
               rintro e wa ⟨k7, rfl, hk7, hd, hex⟩
               have HDa : Hid (DiceOK N wa p ∧ Ex wr.heap.size (some p) wr wa) := Lib.hid ⟨hd, hex⟩
               have hza : wr.heap.size ≤ wa.heap.size := hex.size
               clear hd hex)
            | (go_at_call 38
               refine (next_w N p 4 _ HDa.out.1 (by omega) (by omega)).mono ?_
               rintro e wb ⟨k4, rfl, hk4, hd, hex⟩
               have HDb : Hid (DiceOK N wb p ∧ Ex wr.heap.size (some p) wr wb) := Lib.hid ⟨hd, HDa.out.2.trans hex hza (fun q e _ => by cases e; rfl)⟩
               have hzb : wr.heap.size ≤ wb.heap.size := HDb.out.2.size
               clear hd hex)
            | (go_at_call 15
               refine (of_w N p (.slice (some ⟨wb.heap.size, 0, none⟩) 5 5) [5, 6, 5, 2, 1] _ (HDb.out.1.keep (Ex.new wb _) (by omega)) (IntsO.lit [5, 6, 5, 2, 1] rfl rfl (by omega)) (by simp) (by simp)).mono ?_
               rintro e wc ⟨y, rfl, hy, hd, hex⟩
               have HDc : Hid (DiceOK N wc p ∧ Ex wr.heap.size (some p) wr wc) := Lib.hid ⟨hd, (HDb.out.2.trans (Ex.new wb _) hzb (by simp)).trans hex (by simp; omega) (fun q e _ => e)⟩
               have hzc : wr.heap.size ≤ wc.heap.size := HDc.out.2.size
               clear hd hex hy)
            | (go_at_call 43
               refine (millLossG_any (k7 : Int) (k : Int) 0 (k4 : Int) y _ (by omega)).mono ?_
               rintro e wd ⟨s, la, na, ca, pa, np, cp, rfl, hs, hl, hex⟩
               have HS := Lib.hid hs.1
               have HLS := Lib.hid hl
               have hzd : wc.heap.size ≤ wd.heap.size := hex.size
               have HEd : Hid (Ex wr.heap.size (some p) wr wd) := Lib.hid (HDc.out.2.trans (hex.weaken (some p)) (by omega) (fun q e _ => e))
               have HDd : Hid (DiceOK N wd p) := Lib.hid (HDc.out.1.keep hex (by omega))
               clear hs hl hex)
            | fail)
          obtain ⟨we, hwe⟩ : ∃ we : World, we = wd.alloc (.cells #[.int .i64 s.author, .int .i64 s.number, .string s.prev, .int .i64 s.time, .int .i64 s.kind, .int .i64 s.a, .int .i64 s.b, .int .i64 s.c, .slice la na ca, .slice pa np cp, .string s.body, .int .i64 s.key, .string s.dig] 48) := ⟨_, rfl⟩
          have hze : we.heap.size = wd.heap.size + 1 := by rw [hwe]; simp
          have HEe : Hid (Ex wr.heap.size (some p) wr we) := Lib.hid (by rw [hwe]; exact HEd.out.alloc (by omega) _)
          have HDe : Hid (DiceOK N we p) := Lib.hid (by rw [hwe]; exact HDd.out.keep (Ex.new wd _) (by omega))
          have HBe : Hid (we.heap[wd.heap.size]? = some (.cells #[.int .i64 s.author, .int .i64 s.number, .string s.prev, .int .i64 s.time, .int .i64 s.kind, .int .i64 s.a, .int .i64 s.b, .int .i64 s.c, .slice la na ca, .slice pa np cp, .string s.body, .int .i64 s.key, .string s.dig] 48 (0, 0))) := Lib.hid (by rw [hwe]; exact heap_alloc_new _ _)
          have HLe : Hid (Lies (fun b => wc.heap.size ≤ b ∧ b < wd.heap.size) we (s, ⟨la, na, ca⟩, ⟨pa, np, cp⟩)) := Lib.hid (by rw [hwe]; exact (HLS.out.mono (P' := fun b => wc.heap.size ≤ b ∧ b < wd.heap.size) fun b h hb => ⟨h, hb⟩).keep fun b _ hb => at_old _ _ _ hb)
          rw [← hwe]
          clear hwe
          go_upto_region 16 with (first
            | (go_at_call 38
               refine (next_w N p 20 _ HDe.out (by omega) (by omega)).mono ?_
               rintro e wf ⟨kz, rfl, hkz, hd, hex⟩
               have HDf : Hid (DiceOK N wf p) := Lib.hid hd
               have HEf : Hid (Ex wr.heap.size (some p) wr wf) := Lib.hid (HEe.out.trans hex (by omega) (fun q e _ => e))
               have hzf : we.heap.size ≤ wf.heap.size := hex.size
               have HBf : Hid (wf.heap[wd.heap.size]? = some (.cells #[.int .i64 s.author, .int .i64 s.number, .string s.prev, .int .i64 s.time, .int .i64 s.kind, .int .i64 s.a, .int .i64 s.b, .int .i64 s.c, .slice la na ca, .slice pa np cp, .string s.body, .int .i64 s.key, .string s.dig] 48 (0, 0))) := Lib.hid ((hex.block _ (by omega) (fun e => by cases e; omega)).trans HBe.out)
               have HLf : Hid (Lies (fun b => wc.heap.size ≤ b ∧ b < wd.heap.size) wf (s, ⟨la, na, ca⟩, ⟨pa, np, cp⟩)) := Lib.hid (HLe.out.keep fun b h hb => hex.block b hb (fun e => by cases e; omega))
               clear hd hex)
            | fail)
          by_cases e0 : kz = 0
          · have kq0 : ((kz : Int) == 0) = true := by simp; omega
            obtain ⟨⟨d0, d1, d2, d3, d4, d5, d6, d7, d8, d9, d10, d11, d12⟩, fz⟩ := st_block (s := s) HBf.out
            go_upto_region 22 with (fail)
            obtain ⟨s2, hs2⟩ : ∃ s2 : St, s2 = { s with c := 1 } := ⟨_, rfl⟩
            obtain ⟨wh, hwh⟩ : ∃ wh : World, wh = wf.setCell ⟨wd.heap.size, 7, none⟩ (.int .i64 1) := ⟨_, rfl⟩
            have HBh : Hid (wh.heap[wd.heap.size]? = some (.cells #[.int .i64 s2.author, .int .i64 s2.number, .string s2.prev, .int .i64 s2.time, .int .i64 s2.kind, .int .i64 s2.a, .int .i64 s2.b, .int .i64 s2.c, .slice la na ca, .slice pa np cp, .string s2.body, .int .i64 s2.key, .string s2.dig] 48 (0, 0))) := Lib.hid (by rw [hs2]; rw [hwh, heap_setCell_same _ _ _ _ _ _ HBf.out]; rfl)
            have HXh : Hid (Ex wd.heap.size none wf wh) := Lib.hid (by rw [hwh]; exact (Ex.refl _ _ wf).setCell _ none _ (.inr (Nat.le_refl _)))
            have HEh : Hid (Ex wr.heap.size (some p) wr wh) := Lib.hid (HEf.out.trans (HXh.out.weaken (some p)) (by omega) (fun q e _ => e))
            have HDh : Hid (DiceOK N wh p) := Lib.hid (HDf.out.keep HXh.out (by omega))
            have HLh : Hid (Lies (fun b => wc.heap.size ≤ b ∧ b < wd.heap.size) wh (s2, ⟨la, na, ca⟩, ⟨pa, np, cp⟩)) := Lib.hid (by rw [hs2]; exact HLf.out.keep fun b h _ => HXh.out.block b h.2 (by simp))
            have hzh : wf.heap.size ≤ wh.heap.size := HXh.out.size
            have HLT : Hid (s2.list.length ≤ 100 ∧ s2.pins.length ≤ 100) := Lib.hid (by
              obtain ⟨_, _, _, _, _, _, _, q8, q9, _⟩ := HS.out
              rw [hs2]; show s.list.length ≤ 100 ∧ s.pins.length ≤ 100; rw [q8, q9]; simp)
            have HOh : Hid (OwnS wh w.heap.size ro rc l) := Lib.hid (HO.out.keepP HEh.out (Nat.le_refl _) (fun q e => by cases e; omega))
            rw [← hwh]

            clear hwh hs2 d0 d1 d2 d3 d4 d5 d6 d7 d8 d9 d10 d11 d12 fz
            obtain ⟨⟨d0, d1, d2, d3, d4, d5, d6, d7, d8, d9, d10, d11, d12⟩, fz⟩ := st_block (s := s2) HBh.out
            go_upto_region 13 with (first
              | (at_builtin
                 refine wpList_appT rfl (.tmp 78) (.tmp 80) _ (by rfl) Tryz.underlying23 Tryz.infoSt w.heap.size w.heap.size ro rc k l HN.out (by rfl) (some ⟨wh.heap.size, 0, none⟩) 1 1 (by rfl) [(s2, ⟨la, na, ca⟩, ⟨pa, np, cp⟩)] rfl (HOh.out.t.keep (Ex.new wh _) (Nat.le_refl _)) (lit_cells rfl) (fun y hy => by rw [List.mem_singleton.1 hy]; exact (HLh.out.keep fun b _ hb => (Ex.new wh _).block b hb (by simp)).mono fun b h _ => ⟨by omega, fun e => by have := HO.out.t.row b e; omega⟩) (by omega) (by simp; omega) (k + 1) (by omega) ?_
                 intro ao3 cap3 wd hod hed hbd hrd
                 have HDd : Hid (OwnS wd w.heap.size ao3 cap3 (l ++ [s2]) ∧ Ex w.heap.size none wh wd) := Lib.hid ⟨hod, ((Ex.new wh _).mono (by omega)).trans hed (Nat.le_refl _) (by simp)⟩
                 have hzd : wh.heap.size ≤ wd.heap.size := HDd.out.2.size
                 clear hod hed hbd hrd)
              | fail)
            obtain ⟨c', rfl⟩ : ∃ c', c = c' + 1 := ⟨c - 1, by omega⟩
            go_wp2_with (fail)
            go_roundw
            case rel => exact ⟨k + 1, c', ao3, cap3, l ++ [s2], by go_num, by omega, by omega, rfl, Lib.hid (by rw [List.length_append, HN.out]; rfl), Lib.hid HDd.out.1, Lib.hid (fun y hy => by
              rcases List.mem_append.1 hy with hy | hy
              · exact HLI.out y hy
              · rw [List.mem_singleton.1 hy]
                exact HLT.out), Lib.hid (HDh.out.keep HDd.out.2 (by omega)), (HEX.out.trans HEh.out hsz (fun q e _ => e)).trans (HDd.out.2.weaken (some p)) (by omega) (fun q e _ => e)⟩
            case measure => simp [intOf] <;> omega
          · by_cases e1 : kz = 1
            · have kq0 : ((kz : Int) == 0) = false := by simp; omega
              have kq1 : ((kz : Int) == 1) = true := by simp; omega
              obtain ⟨⟨d0, d1, d2, d3, d4, d5, d6, d7, d8, d9, d10, d11, d12⟩, fz⟩ := st_block (s := s) HBf.out
              go_upto_region 22 with (fail)
              obtain ⟨s2, hs2⟩ : ∃ s2 : St, s2 = { s with key := 60 } := ⟨_, rfl⟩
              obtain ⟨wh, hwh⟩ : ∃ wh : World, wh = wf.setCell ⟨wd.heap.size, 11, none⟩ (.int .i64 60) := ⟨_, rfl⟩
              have HBh : Hid (wh.heap[wd.heap.size]? = some (.cells #[.int .i64 s2.author, .int .i64 s2.number, .string s2.prev, .int .i64 s2.time, .int .i64 s2.kind, .int .i64 s2.a, .int .i64 s2.b, .int .i64 s2.c, .slice la na ca, .slice pa np cp, .string s2.body, .int .i64 s2.key, .string s2.dig] 48 (0, 0))) := Lib.hid (by rw [hs2]; rw [hwh, heap_setCell_same _ _ _ _ _ _ HBf.out]; rfl)
              have HXh : Hid (Ex wd.heap.size none wf wh) := Lib.hid (by rw [hwh]; exact (Ex.refl _ _ wf).setCell _ none _ (.inr (Nat.le_refl _)))
              have HEh : Hid (Ex wr.heap.size (some p) wr wh) := Lib.hid (HEf.out.trans (HXh.out.weaken (some p)) (by omega) (fun q e _ => e))
              have HDh : Hid (DiceOK N wh p) := Lib.hid (HDf.out.keep HXh.out (by omega))
              have HLh : Hid (Lies (fun b => wc.heap.size ≤ b ∧ b < wd.heap.size) wh (s2, ⟨la, na, ca⟩, ⟨pa, np, cp⟩)) := Lib.hid (by rw [hs2]; exact HLf.out.keep fun b h _ => HXh.out.block b h.2 (by simp))
              have hzh : wf.heap.size ≤ wh.heap.size := HXh.out.size
              have HLT : Hid (s2.list.length ≤ 100 ∧ s2.pins.length ≤ 100) := Lib.hid (by
                obtain ⟨_, _, _, _, _, _, _, q8, q9, _⟩ := HS.out
                rw [hs2]; show s.list.length ≤ 100 ∧ s.pins.length ≤ 100; rw [q8, q9]; simp)
              have HOh : Hid (OwnS wh w.heap.size ro rc l) := Lib.hid (HO.out.keepP HEh.out (Nat.le_refl _) (fun q e => by cases e; omega))
              rw [← hwh]

              clear hwh hs2 d0 d1 d2 d3 d4 d5 d6 d7 d8 d9 d10 d11 d12 fz
              obtain ⟨⟨d0, d1, d2, d3, d4, d5, d6, d7, d8, d9, d10, d11, d12⟩, fz⟩ := st_block (s := s2) HBh.out
              go_upto_region 13 with (first
                | (at_builtin
                   refine wpList_appT rfl (.tmp 78) (.tmp 80) _ (by rfl) Tryz.underlying23 Tryz.infoSt w.heap.size w.heap.size ro rc k l HN.out (by rfl) (some ⟨wh.heap.size, 0, none⟩) 1 1 (by rfl) [(s2, ⟨la, na, ca⟩, ⟨pa, np, cp⟩)] rfl (HOh.out.t.keep (Ex.new wh _) (Nat.le_refl _)) (lit_cells rfl) (fun y hy => by rw [List.mem_singleton.1 hy]; exact (HLh.out.keep fun b _ hb => (Ex.new wh _).block b hb (by simp)).mono fun b h _ => ⟨by omega, fun e => by have := HO.out.t.row b e; omega⟩) (by omega) (by simp; omega) (k + 1) (by omega) ?_
                   intro ao3 cap3 wd hod hed hbd hrd
                   have HDd : Hid (OwnS wd w.heap.size ao3 cap3 (l ++ [s2]) ∧ Ex w.heap.size none wh wd) := Lib.hid ⟨hod, ((Ex.new wh _).mono (by omega)).trans hed (Nat.le_refl _) (by simp)⟩
                   have hzd : wh.heap.size ≤ wd.heap.size := HDd.out.2.size
                   clear hod hed hbd hrd)
                | fail)
              obtain ⟨c', rfl⟩ : ∃ c', c = c' + 1 := ⟨c - 1, by omega⟩
              go_wp2_with (fail)
              go_roundw
              case rel => exact ⟨k + 1, c', ao3, cap3, l ++ [s2], by go_num, by omega, by omega, rfl, Lib.hid (by rw [List.length_append, HN.out]; rfl), Lib.hid HDd.out.1, Lib.hid (fun y hy => by
                rcases List.mem_append.1 hy with hy | hy
                · exact HLI.out y hy
                · rw [List.mem_singleton.1 hy]
                  exact HLT.out), Lib.hid (HDh.out.keep HDd.out.2 (by omega)), (HEX.out.trans HEh.out hsz (fun q e _ => e)).trans (HDd.out.2.weaken (some p)) (by omega) (fun q e _ => e)⟩
              case measure => simp [intOf] <;> omega
            · by_cases e2 : kz = 2
              · have kq0 : ((kz : Int) == 0) = false := by simp; omega
                have kq1 : ((kz : Int) == 1) = false := by simp; omega
                have kq2 : ((kz : Int) == 2) = true := by simp; omega
                obtain ⟨⟨d0, d1, d2, d3, d4, d5, d6, d7, d8, d9, d10, d11, d12⟩, fz⟩ := st_block (s := s) HBf.out
                go_upto_region 22 with (fail)
                obtain ⟨s2, hs2⟩ : ∃ s2 : St, s2 = { s with a := 99 } := ⟨_, rfl⟩
                obtain ⟨wh, hwh⟩ : ∃ wh : World, wh = wf.setCell ⟨wd.heap.size, 5, none⟩ (.int .i64 99) := ⟨_, rfl⟩
                have HBh : Hid (wh.heap[wd.heap.size]? = some (.cells #[.int .i64 s2.author, .int .i64 s2.number, .string s2.prev, .int .i64 s2.time, .int .i64 s2.kind, .int .i64 s2.a, .int .i64 s2.b, .int .i64 s2.c, .slice la na ca, .slice pa np cp, .string s2.body, .int .i64 s2.key, .string s2.dig] 48 (0, 0))) := Lib.hid (by rw [hs2]; rw [hwh, heap_setCell_same _ _ _ _ _ _ HBf.out]; rfl)
                have HXh : Hid (Ex wd.heap.size none wf wh) := Lib.hid (by rw [hwh]; exact (Ex.refl _ _ wf).setCell _ none _ (.inr (Nat.le_refl _)))
                have HEh : Hid (Ex wr.heap.size (some p) wr wh) := Lib.hid (HEf.out.trans (HXh.out.weaken (some p)) (by omega) (fun q e _ => e))
                have HDh : Hid (DiceOK N wh p) := Lib.hid (HDf.out.keep HXh.out (by omega))
                have HLh : Hid (Lies (fun b => wc.heap.size ≤ b ∧ b < wd.heap.size) wh (s2, ⟨la, na, ca⟩, ⟨pa, np, cp⟩)) := Lib.hid (by rw [hs2]; exact HLf.out.keep fun b h _ => HXh.out.block b h.2 (by simp))
                have hzh : wf.heap.size ≤ wh.heap.size := HXh.out.size
                have HLT : Hid (s2.list.length ≤ 100 ∧ s2.pins.length ≤ 100) := Lib.hid (by
                  obtain ⟨_, _, _, _, _, _, _, q8, q9, _⟩ := HS.out
                  rw [hs2]; show s.list.length ≤ 100 ∧ s.pins.length ≤ 100; rw [q8, q9]; simp)
                have HOh : Hid (OwnS wh w.heap.size ro rc l) := Lib.hid (HO.out.keepP HEh.out (Nat.le_refl _) (fun q e => by cases e; omega))
                rw [← hwh]

                clear hwh hs2 d0 d1 d2 d3 d4 d5 d6 d7 d8 d9 d10 d11 d12 fz
                obtain ⟨⟨d0, d1, d2, d3, d4, d5, d6, d7, d8, d9, d10, d11, d12⟩, fz⟩ := st_block (s := s2) HBh.out
                go_upto_region 13 with (first
                  | (at_builtin
                     refine wpList_appT rfl (.tmp 78) (.tmp 80) _ (by rfl) Tryz.underlying23 Tryz.infoSt w.heap.size w.heap.size ro rc k l HN.out (by rfl) (some ⟨wh.heap.size, 0, none⟩) 1 1 (by rfl) [(s2, ⟨la, na, ca⟩, ⟨pa, np, cp⟩)] rfl (HOh.out.t.keep (Ex.new wh _) (Nat.le_refl _)) (lit_cells rfl) (fun y hy => by rw [List.mem_singleton.1 hy]; exact (HLh.out.keep fun b _ hb => (Ex.new wh _).block b hb (by simp)).mono fun b h _ => ⟨by omega, fun e => by have := HO.out.t.row b e; omega⟩) (by omega) (by simp; omega) (k + 1) (by omega) ?_
                     intro ao3 cap3 wd hod hed hbd hrd
                     have HDd : Hid (OwnS wd w.heap.size ao3 cap3 (l ++ [s2]) ∧ Ex w.heap.size none wh wd) := Lib.hid ⟨hod, ((Ex.new wh _).mono (by omega)).trans hed (Nat.le_refl _) (by simp)⟩
                     have hzd : wh.heap.size ≤ wd.heap.size := HDd.out.2.size
                     clear hod hed hbd hrd)
                  | fail)
                obtain ⟨c', rfl⟩ : ∃ c', c = c' + 1 := ⟨c - 1, by omega⟩
                go_wp2_with (fail)
                go_roundw
                case rel => exact ⟨k + 1, c', ao3, cap3, l ++ [s2], by go_num, by omega, by omega, rfl, Lib.hid (by rw [List.length_append, HN.out]; rfl), Lib.hid HDd.out.1, Lib.hid (fun y hy => by
                  rcases List.mem_append.1 hy with hy | hy
                  · exact HLI.out y hy
                  · rw [List.mem_singleton.1 hy]
                    exact HLT.out), Lib.hid (HDh.out.keep HDd.out.2 (by omega)), (HEX.out.trans HEh.out hsz (fun q e _ => e)).trans (HDd.out.2.weaken (some p)) (by omega) (fun q e _ => e)⟩
                case measure => simp [intOf] <;> omega
              · have kq0 : ((kz : Int) == 0) = false := by simp; omega
                have kq1 : ((kz : Int) == 1) = false := by simp; omega
                have kq2 : ((kz : Int) == 2) = false := by simp; omega
                go_upto_region 22 with (fail)
                obtain ⟨s2, hs2⟩ : ∃ s2 : St, s2 = s := ⟨_, rfl⟩
                obtain ⟨wh, hwh⟩ : ∃ wh : World, wh = wf := ⟨_, rfl⟩
                have HBh : Hid (wh.heap[wd.heap.size]? = some (.cells #[.int .i64 s2.author, .int .i64 s2.number, .string s2.prev, .int .i64 s2.time, .int .i64 s2.kind, .int .i64 s2.a, .int .i64 s2.b, .int .i64 s2.c, .slice la na ca, .slice pa np cp, .string s2.body, .int .i64 s2.key, .string s2.dig] 48 (0, 0))) := Lib.hid (by rw [hs2]; rw [hwh]; exact HBf.out)
                have HXh : Hid (Ex wd.heap.size none wf wh) := Lib.hid (by rw [hwh]; exact Ex.refl _ _ _)
                have HEh : Hid (Ex wr.heap.size (some p) wr wh) := Lib.hid (HEf.out.trans (HXh.out.weaken (some p)) (by omega) (fun q e _ => e))
                have HDh : Hid (DiceOK N wh p) := Lib.hid (HDf.out.keep HXh.out (by omega))
                have HLh : Hid (Lies (fun b => wc.heap.size ≤ b ∧ b < wd.heap.size) wh (s2, ⟨la, na, ca⟩, ⟨pa, np, cp⟩)) := Lib.hid (by rw [hs2]; exact HLf.out.keep fun b h _ => HXh.out.block b h.2 (by simp))
                have hzh : wf.heap.size ≤ wh.heap.size := HXh.out.size
                have HLT : Hid (s2.list.length ≤ 100 ∧ s2.pins.length ≤ 100) := Lib.hid (by
                  obtain ⟨_, _, _, _, _, _, _, q8, q9, _⟩ := HS.out
                  rw [hs2]; show s.list.length ≤ 100 ∧ s.pins.length ≤ 100; rw [q8, q9]; simp)
                have HOh : Hid (OwnS wh w.heap.size ro rc l) := Lib.hid (HO.out.keepP HEh.out (Nat.le_refl _) (fun q e => by cases e; omega))

                rw [← hwh]
                clear hwh hs2
                obtain ⟨⟨d0, d1, d2, d3, d4, d5, d6, d7, d8, d9, d10, d11, d12⟩, fz⟩ := st_block (s := s2) HBh.out
                go_upto_region 13 with (first
                  | (at_builtin
                     refine wpList_appT rfl (.tmp 78) (.tmp 80) _ (by rfl) Tryz.underlying23 Tryz.infoSt w.heap.size w.heap.size ro rc k l HN.out (by rfl) (some ⟨wh.heap.size, 0, none⟩) 1 1 (by rfl) [(s2, ⟨la, na, ca⟩, ⟨pa, np, cp⟩)] rfl (HOh.out.t.keep (Ex.new wh _) (Nat.le_refl _)) (lit_cells rfl) (fun y hy => by rw [List.mem_singleton.1 hy]; exact (HLh.out.keep fun b _ hb => (Ex.new wh _).block b hb (by simp)).mono fun b h _ => ⟨by omega, fun e => by have := HO.out.t.row b e; omega⟩) (by omega) (by simp; omega) (k + 1) (by omega) ?_
                     intro ao3 cap3 wd hod hed hbd hrd
                     have HDd : Hid (OwnS wd w.heap.size ao3 cap3 (l ++ [s2]) ∧ Ex w.heap.size none wh wd) := Lib.hid ⟨hod, ((Ex.new wh _).mono (by omega)).trans hed (Nat.le_refl _) (by simp)⟩
                     have hzd : wh.heap.size ≤ wd.heap.size := HDd.out.2.size
                     clear hod hed hbd hrd)
                  | fail)
                obtain ⟨c', rfl⟩ : ∃ c', c = c' + 1 := ⟨c - 1, by omega⟩
                go_wp2_with (fail)
                go_roundw
                case rel => exact ⟨k + 1, c', ao3, cap3, l ++ [s2], by go_num, by omega, by omega, rfl, Lib.hid (by rw [List.length_append, HN.out]; rfl), Lib.hid HDd.out.1, Lib.hid (fun y hy => by
                  rcases List.mem_append.1 hy with hy | hy
                  · exact HLI.out y hy
                  · rw [List.mem_singleton.1 hy]
                    exact HLT.out), Lib.hid (HDh.out.keep HDd.out.2 (by omega)), (HEX.out.trans HEh.out hsz (fun q e _ => e)).trans (HDd.out.2.weaken (some p)) (by omega) (fun q e _ => e)⟩
                case measure => simp [intOf] <;> omega
        · have hc0 : ¬ (0 : Int) < (c : Int) := by omega
          have hk18 : k ≤ 18 := by omega
          go_wp2
          go_ret
          exact ⟨ro, rc, k, rfl, l, HN.out, by omega, HO.out, HLI.out, HD.out, HEX.out⟩
end Go.Proofs.YtaghfcnpnfhacaaGreat
