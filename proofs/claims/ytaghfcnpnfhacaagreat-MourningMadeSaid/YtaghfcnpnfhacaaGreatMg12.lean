/- mourning.losses at whatever statements. No statement of the seat. | mourning.Voices at whatever statements. No statement of the seat. -/
import Derived.Test.YtaghfcnpnfhacaaGreatMg08
import Derived.Test.YtaghfcnpnfhacaaGreatCheckPG
import Derived.Test.YtaghfcnpnfhacaaGreatChk03G
import Derived.Test.YtaghfcnpnfhacaaGreatMg09
import Derived.Test.YtaghfcnpnfhacaaGreatMg06
import Derived.Test.YtaghfcnpnfhacaaGreatDraftPG
import Derived.Test.YtaghfcnpnfhacaaGreatMg00
import Derived.Maps.OwnOps
import Derived.Test.YtaghfcnpnfhacaaGreatMg05
namespace Go.Proofs.YtaghfcnpnfhacaaGreat
open Go.RowKit Go.Maps Go.Sort

set_option maxHeartbeats 16000000 in
set_option maxRecDepth 100000 in
theorem lossesG_any {P : Nat → Prop} (v : Value) (l : List St) (w : World) (hv : Sl stRep P w v l) (hm : l.length ≤ 100000) (hL : LightL 9223372036854775807 l) :
    Calls Tryz.prog 71 #[v] w fun e w' => ∃ g, e = .returned (.map (some g)) ∧ ∃ m, m ≤ l.length ∧ w'.ownsMap Tryz.prog 180 (plainElem Tryz.prog 3) g m (mapG (votesG l)) ∧ Ex w.heap.size none w w' := by
  obtain ⟨ao, cap, rfl, hx⟩ := hv
  have HX := Lib.hid hx
  have HLL := Lib.hid hL
  clear hx hL
  have hmm := @run_makeMap Tryz.prog
  go_enter Tryz.func71, Tryz.ntmps71
  go_upto_region 2 with (fail)
  obtain ⟨w1, hw1⟩ : ∃ w1 : World, w1 = w.alloc (.map #[] 0) := ⟨_, rfl⟩
  have HM0 : Hid (w1.ownsMap Tryz.prog 180 (plainElem Tryz.prog 3) w.heap.size 0 (mapG (votesG (l.take 0)))) := Lib.hid (by rw [hw1]; exact World.ownsMap_made _ _ _ _)
  have HE1 : Hid (Ex w.heap.size none w w1) := Lib.hid (by rw [hw1]; exact Ex.new _ _)
  rw [← hw1]
  clear hw1 hmm
  go_wp2_with fail
  go_loopw [5, 6, 10] (fun _ _ i wr => ∃ k m : Nat, i = .int .i64 k ∧ k ≤ l.length ∧ m ≤ k ∧ Hid (wr.ownsMap Tryz.prog 180 (plainElem Tryz.prog 3) w.heap.size m (mapG (votesG (l.take k)))) ∧ Ex w.heap.size none w wr) (fun _ _ i _ => l.length - (intOf i).toNat)
  case atStart => exact ⟨0, 0, rfl, by omega, by omega, HM0, HE1.out⟩
  case round =>
    obtain ⟨k, m, rfl, hk, hmk, HM, hex⟩ := hrel
    have hsz := hex.size
    have HEX := Lib.hid hex
    by_cases hlt : k < l.length
    · have hltI : (k : Int) < (l.length : Int) := by omega
      obtain ⟨b, off, s, ⟨lo, ln, lc⟩, ⟨po, pn, pc⟩, rfl, _, hls, hr, HXs⟩ := st_get (HX.out.keep (by decide) (fun b _ hb => hex.block b hb (by simp))) k hlt
      have HLG : Hid (s.list.length ≤ 9223372036854775807 ∧ s.pins.length ≤ 9223372036854775807) := Lib.hid (HLL.out s (List.mem_of_getElem? HXs.out))
      have HLN : Hid (ln = s.list.length) := by obtain ⟨⟨_, _, e, _⟩, _⟩ := hls; simp only [Sv.v] at e; cases e; exact rfl
      have HPN : Hid (pn = s.pins.length) := by obtain ⟨_, ⟨_, _, e, _⟩⟩ := hls; simp only [Sv.v] at e; cases e; exact rfl
      have hc := st_at hr
      simp only [Sv.v] at hc
      obtain ⟨c0, c1, c2, c3, c4, c5, c6, c7, c8, c9, c10, c11, c12⟩ := hc
      have HLS := Lib.hid hls
      have HKM : Hid (∀ w', Ex wr.heap.size none wr w' → w'.ownsMap Tryz.prog 180 (plainElem Tryz.prog 3) w.heap.size m (mapG (votesG (l.take k)))) := Lib.hid (fun w' h => by
        obtain ⟨es, clock, q1, q2⟩ := HM.out
        exact ⟨es, clock, (h.block _ (HM.out.lt) (by simp)).trans q1, q2⟩)
      clear hls hr hex HM
      go_upto_region 6 with (fail)
      obtain ⟨ws, hws⟩ : ∃ ws : World, ws = (wr.alloc (.cells #[.int .i64 s.author, .int .i64 s.number, .string s.prev, .int .i64 s.time, .int .i64 s.kind, .int .i64 s.a, .int .i64 s.b, .int .i64 s.c, .slice lo ln lc, .slice po pn pc, .string s.body, .int .i64 s.key, .string s.dig] 48)).alloc (.cells #[.int .i64 s.a, .int .i64 s.b] 25) := ⟨_, rfl⟩
      have HEs : Hid (Ex wr.heap.size none wr ws) := Lib.hid (by rw [hws]; exact ex_two0 _ _)
      have hzs : ws.heap.size = wr.heap.size + 2 := by rw [hws]; simp
      have HQ : Hid (∀ w', Ex ws.heap.size none ws w' → (w'.cell? ⟨wr.heap.size, 0, none⟩ = some (.int .i64 s.author) ∧ w'.cell? ⟨wr.heap.size, 1, none⟩ = some (.int .i64 s.number) ∧ w'.cell? ⟨wr.heap.size, 2, none⟩ = some (.string s.prev) ∧ w'.cell? ⟨wr.heap.size, 3, none⟩ = some (.int .i64 s.time) ∧ w'.cell? ⟨wr.heap.size, 4, none⟩ = some (.int .i64 s.kind) ∧ w'.cell? ⟨wr.heap.size, 5, none⟩ = some (.int .i64 s.a) ∧ w'.cell? ⟨wr.heap.size, 6, none⟩ = some (.int .i64 s.b) ∧ w'.cell? ⟨wr.heap.size, 7, none⟩ = some (.int .i64 s.c) ∧ w'.cell? ⟨wr.heap.size, 8, none⟩ = some (.slice lo ln lc) ∧ w'.cell? ⟨wr.heap.size, 9, none⟩ = some (.slice po pn pc) ∧ w'.cell? ⟨wr.heap.size, 10, none⟩ = some (.string s.body) ∧ w'.cell? ⟨wr.heap.size, 11, none⟩ = some (.int .i64 s.key) ∧ w'.cell? ⟨wr.heap.size, 12, none⟩ = some (.string s.dig)) ∧ w'.cell? ⟨wr.heap.size + 1, 0, none⟩ = some (.int .i64 s.a) ∧ w'.cell? ⟨wr.heap.size + 1, 1, none⟩ = some (.int .i64 s.b)) := Lib.hid (fun w' h => by
        have q1 : w'.heap[wr.heap.size]? = some (.cells #[.int .i64 s.author, .int .i64 s.number, .string s.prev, .int .i64 s.time, .int .i64 s.kind, .int .i64 s.a, .int .i64 s.b, .int .i64 s.c, .slice lo ln lc, .slice po pn pc, .string s.body, .int .i64 s.key, .string s.dig] 48 (0, 0)) := (h.block _ (by omega) (by simp)).trans (by rw [hws]; exact heap_alloc2_old _ _ _)
        have q2 : w'.heap[wr.heap.size + 1]? = some (.cells #[.int .i64 s.a, .int .i64 s.b] 25 (0, 0)) := (h.block _ (by omega) (by simp)).trans (by rw [hws]; exact heap_alloc2_new _ _ _)
        exact ⟨(st_block q1).1, by rw [cell_of_row _ _ _ _ _ _ q2]; rfl, by rw [cell_of_row _ _ _ _ _ _ q2]; rfl⟩)
      rw [← hws]
      clear hws c0 c1 c2 c3 c4 c5 c6 c7 c8 c9 c10 c11 c12
      obtain ⟨⟨d0, d1, d2, d3, d4, d5, d6, d7, d8, d9, d10, d11, d12⟩, e0, e1⟩ := HQ.out _ (Ex.refl _ _ ws)
      by_cases t1 : s.kind = 13
      case neg =>
        have k1 : (s.kind != 13) = true := by simp [t1]
        have HVN : Hid (votesG (l.take (k + 1)) = votesG (l.take k)) := Lib.hid (votesG_no HXs.out (by simp [lossB, t1]))
        clear t1
        go_wp2_with fail
        go_roundw
        case rel => exact ⟨k + 1, m, by go_num, by omega, by omega, Lib.hid (by rw [HVN.out]; exact HKM.out _ HEs.out), HEX.out.trans HEs.out hsz (by simp)⟩
        case measure => simp [intOf] <;> omega
      have k1 : (s.kind != 13) = false := by rw [t1]; rfl
      have HT1 := Lib.hid t1
      clear t1
      cases t2 : rightB s.a s.b with
      | false =>
        have HVN : Hid (votesG (l.take (k + 1)) = votesG (l.take k)) := Lib.hid (votesG_no HXs.out (by simp [lossB, t2]))
        go_wp2_with fail
        refine (rightP_any s.a s.b _).mono ?_
        rw [t2]
        rintro e w2 ⟨rfl, hex2⟩
        have HE2 := Lib.hid hex2
        have HR2 : Hid (Ex wr.heap.size none wr w2) := Lib.hid (HEs.out.trans hex2 (by omega) (by simp))
        clear hex2 d0 d1 d2 d3 d4 d5 d6 d7 d8 d9 d10 d11 d12 e0 e1
        obtain ⟨⟨d0, d1, d2, d3, d4, d5, d6, d7, d8, d9, d10, d11, d12⟩, e0, e1⟩ := HQ.out _ HE2.out
        go_wp2_with fail
        go_roundw
        case rel => exact ⟨k + 1, m, by go_num, by omega, by omega, Lib.hid (by rw [HVN.out]; exact HKM.out _ HR2.out), HEX.out.trans HR2.out hsz (by simp)⟩
        case measure => simp [intOf] <;> omega
      | true =>
        have HT2 := Lib.hid t2
        go_wp2_with fail
        refine (rightP_any s.a s.b _).mono ?_
        rw [t2]
        rintro e w2 ⟨rfl, hex2⟩
        have HE2 := Lib.hid hex2
        have HR2 : Hid (Ex wr.heap.size none wr w2) := Lib.hid (HEs.out.trans hex2 (by omega) (by simp))
        clear hex2 d0 d1 d2 d3 d4 d5 d6 d7 d8 d9 d10 d11 d12 e0 e1
        obtain ⟨⟨d0, d1, d2, d3, d4, d5, d6, d7, d8, d9, d10, d11, d12⟩, e0, e1⟩ := HQ.out _ HE2.out
        clear t2
        by_cases t3 : s.c = 0
        case neg =>
          have k3 : (s.c != 0) = true := by simp [t3]
          have HVN : Hid (votesG (l.take (k + 1)) = votesG (l.take k)) := Lib.hid (votesG_no HXs.out (by simp [lossB, t3]))
          clear t3
          go_wp2_with fail
          go_roundw
          case rel => exact ⟨k + 1, m, by go_num, by omega, by omega, Lib.hid (by rw [HVN.out]; exact HKM.out _ HR2.out), HEX.out.trans HR2.out hsz (by simp)⟩
          case measure => simp [intOf] <;> omega
        have k3 : (s.c != 0) = false := by rw [t3]; rfl
        have HT3 := Lib.hid t3
        clear t3
        by_cases t4 : ln = 0
        case neg =>
          have kt4 : 0 < ln := by omega
          have kt4d : decide (0 < ln) = true := decide_eq_true kt4
          have HVN : Hid (votesG (l.take (k + 1)) = votesG (l.take k)) := Lib.hid (votesG_no HXs.out (by simp only [lossB]; rw [show decide (s.list.length = 0) = false from decide_eq_false (by rw [← HLN.out]; exact t4)]; simp))
          clear t4
          go_wp2_with fail
          go_roundw
          case rel => exact ⟨k + 1, m, by go_num, by omega, by omega, Lib.hid (by rw [HVN.out]; exact HKM.out _ HR2.out), HEX.out.trans HR2.out hsz (by simp)⟩
          case measure => simp [intOf] <;> omega
        subst t4
        by_cases t5 : pn = 0
        case neg =>
          have kt5 : 0 < pn := by omega
          have kt5d : decide (0 < pn) = true := decide_eq_true kt5
          have HVN : Hid (votesG (l.take (k + 1)) = votesG (l.take k)) := Lib.hid (votesG_no HXs.out (by simp only [lossB]; rw [show decide (s.pins.length = 0) = false from decide_eq_false (by rw [← HPN.out]; exact t5)]; simp))
          clear t5
          go_wp2_with fail
          go_roundw
          case rel => exact ⟨k + 1, m, by go_num, by omega, by omega, Lib.hid (by rw [HVN.out]; exact HKM.out _ HR2.out), HEX.out.trans HR2.out hsz (by simp)⟩
          case measure => simp [intOf] <;> omega
        subst t5
        by_cases t6 : s.body = ⟨#[]⟩
        case neg =>
          obtain ⟨k6a, k6b, k6c⟩ := nonempty_facts t6
          have HVN : Hid (votesG (l.take (k + 1)) = votesG (l.take k)) := Lib.hid (votesG_no HXs.out (by simp [lossB, t6]))
          clear t6
          go_wp2_with fail
          go_roundw
          case rel => exact ⟨k + 1, m, by go_num, by omega, by omega, Lib.hid (by rw [HVN.out]; exact HKM.out _ HR2.out), HEX.out.trans HR2.out hsz (by simp)⟩
          case measure => simp [intOf] <;> omega
        have k6 : s.body.toList = [] := by rw [t6]; exact ByteArray.toList_eq _
        have HT6 := Lib.hid t6
        clear t6
        obtain ⟨q, hq⟩ : ∃ q, q = checkI s := ⟨_, rfl⟩
        have HCQ : Hid (checkI s = q) := Lib.hid hq.symm
        clear hq
        by_cases t7 : q = 0
        case neg =>
          have k7 : (q == 0) = false := by simp [t7]
          have HVN : Hid (votesG (l.take (k + 1)) = votesG (l.take k)) := Lib.hid (votesG_no HXs.out (by simp only [lossB]; rw [show decide (checkI s = 0) = false from decide_eq_false (by rw [HCQ.out]; exact t7)]; simp))
          clear t7
          go_wp2_with fail
          refine (checkP_any s lo po 0 lc 0 pc _ (HLS.out.keep fun b _ hb => HR2.out.block b hb (by simp)) ⟨by omega, by omega⟩).mono ?_
          rw [HCQ.out]
          rintro e w3 ⟨rfl, hex3⟩
          have HE3 : Hid (Ex ws.heap.size none ws w3) := Lib.hid (HE2.out.trans hex3 HE2.out.size (by simp))
          have HR3 : Hid (Ex wr.heap.size none wr w3) := Lib.hid (HEs.out.trans HE3.out (by omega) (by simp))
          clear hex3 d0 d1 d2 d3 d4 d5 d6 d7 d8 d9 d10 d11 d12 e0 e1
          obtain ⟨⟨d0, d1, d2, d3, d4, d5, d6, d7, d8, d9, d10, d11, d12⟩, e0, e1⟩ := HQ.out _ HE3.out
          go_wp2_with fail
          go_roundw
          case rel => exact ⟨k + 1, m, by go_num, by omega, by omega, Lib.hid (by rw [HVN.out]; exact HKM.out _ HR3.out), HEX.out.trans HR3.out hsz (by simp)⟩
          case measure => simp [intOf] <;> omega
        subst t7
        go_wp2_with fail
        refine (checkP_any s lo po 0 lc 0 pc _ (HLS.out.keep fun b _ hb => HR2.out.block b hb (by simp)) ⟨by omega, by omega⟩).mono ?_
        rw [HCQ.out]
        rintro e w3 ⟨rfl, hex3⟩
        have HE3 : Hid (Ex ws.heap.size none ws w3) := Lib.hid (HE2.out.trans hex3 HE2.out.size (by simp))
        have HR3 : Hid (Ex wr.heap.size none wr w3) := Lib.hid (HEs.out.trans HE3.out (by omega) (by simp))
        clear hex3 d0 d1 d2 d3 d4 d5 d6 d7 d8 d9 d10 d11 d12 e0 e1
        obtain ⟨⟨d0, d1, d2, d3, d4, d5, d6, d7, d8, d9, d10, d11, d12⟩, e0, e1⟩ := HQ.out _ HE3.out
        cases t8 : sealedB s with
        | false =>
          have HVN : Hid (votesG (l.take (k + 1)) = votesG (l.take k)) := Lib.hid (votesG_no HXs.out (by simp [lossB, t8]))
          go_wp2_with fail
          refine (asB (sealedP_any s lo po 0 lc 0 pc _ (HLS.out.keep fun b _ hb => HR3.out.block b hb (by simp)) (checkI_tame HCQ.out)) t8).mono ?_
          rintro e w4 ⟨rfl, hex4⟩
          have HE4 : Hid (Ex ws.heap.size none ws w4) := Lib.hid (HE3.out.trans hex4 HE3.out.size (by simp))
          have HR4 : Hid (Ex wr.heap.size none wr w4) := Lib.hid (HEs.out.trans HE4.out (by omega) (by simp))
          clear hex4 d0 d1 d2 d3 d4 d5 d6 d7 d8 d9 d10 d11 d12 e0 e1
          obtain ⟨⟨d0, d1, d2, d3, d4, d5, d6, d7, d8, d9, d10, d11, d12⟩, e0, e1⟩ := HQ.out _ HE4.out
          go_wp2_with fail
          go_roundw
          case rel => exact ⟨k + 1, m, by go_num, by omega, by omega, Lib.hid (by rw [HVN.out]; exact HKM.out _ HR4.out), HEX.out.trans HR4.out hsz (by simp)⟩
          case measure => simp [intOf] <;> omega
        | true =>
          have HYES : Hid (votesG (l.take (k + 1)) = votesG (l.take k) ++ [(s.author, s.a, s.b)]) := Lib.hid (votesG_yes HXs.out (by simp only [lossB, HT1.out, HT2.out, HT3.out, ← HLN.out, ← HPN.out, HT6.out, HCQ.out, t8]; rfl))
          have HMS : Hid (mapG (votesG (l.take (k + 1))) = (mapG (votesG (l.take k))).put (keyL s.author s.a) (.lit (.int .i64 s.b))) := Lib.hid (by rw [HYES.out, mapG_snoc])
          have HKA : Hid (0 ≤ s.author ∧ s.author < 64) := Lib.hid (checkI_right HCQ.out).author
          have HKB : Hid ((0 ≤ s.a ∧ s.a < 64) ∧ 0 ≤ s.b ∧ s.b < 64) := Lib.hid ⟨(rightB_parts HT2.out).1, (rightB_parts HT2.out).2.1⟩
          go_wp2_with fail
          refine (asB (sealedP_any s lo po 0 lc 0 pc _ (HLS.out.keep fun b _ hb => HR3.out.block b hb (by simp)) (checkI_tame HCQ.out)) t8).mono ?_
          rintro e w4 ⟨rfl, hex4⟩
          have HE4 : Hid (Ex ws.heap.size none ws w4) := Lib.hid (HE3.out.trans hex4 HE3.out.size (by simp))
          have HR4 : Hid (Ex wr.heap.size none wr w4) := Lib.hid (HEs.out.trans HE4.out (by omega) (by simp))
          clear hex4 d0 d1 d2 d3 d4 d5 d6 d7 d8 d9 d10 d11 d12 e0 e1
          obtain ⟨⟨d0, d1, d2, d3, d4, d5, d6, d7, d8, d9, d10, d11, d12⟩, e0, e1⟩ := HQ.out _ HE4.out
          go_wp2_with (at_mapUpdate; refine wpList_mapUpdate_own _ rfl _ _ _ _ rfl 180 3 Tryz.keyedLoss Tryz.underlying118 _ w.heap.size m _ (by rfl) (HKM.out _ HR4.out) (by unfold maxLen; omega) _ _ (keyL s.author s.a) (by rfl) (by rfl) (keyOf_loss s.author s.a HKA.out HKB.out.1) _ [] (plainElem_int Tryz.underlying3 (WalkArith.wf_i64 (by have := HKB.out.2; omega))) ?_; intro w5 hown5 hgrow5)
          go_roundw
          case rel => exact ⟨k + 1, m + 1, by go_num, by omega, by omega, Lib.hid (by rw [HMS.out]; exact hown5), (HEX.out.trans HR4.out hsz (by simp)).grown hgrow5 (by have := HR4.out.size; omega) (by simp)⟩
          case measure => simp [intOf] <;> omega
    · have hkl : k = l.length := by omega
      have hltI : ¬ (k : Int) < (l.length : Int) := by omega
      have HF : Hid (wr.ownsMap Tryz.prog 180 (plainElem Tryz.prog 3) w.heap.size m (mapG (votesG l))) := Lib.hid (by have h := HM.out; rw [hkl, List.take_length] at h; exact h)
      clear hkl hex
      go_wp2
      go_ret
      exact ⟨w.heap.size, rfl, m, by omega, HF.out, HEX.out⟩
end Go.Proofs.YtaghfcnpnfhacaaGreat

namespace Go.Proofs.YtaghfcnpnfhacaaGreat
open Go.RowKit Go.Maps Go.Sort

set_option maxHeartbeats 2000000 in
theorem voicesX_any {P : Nat → Prop} (v : Value) (l : List St) (lost next : Int) (w : World) (hv : Sl stRep P w v l) (hm : l.length ≤ 100000) (hL : LightL 9223372036854775807 l) (hlost : -9223372036854775808 ≤ lost ∧ lost ≤ 9223372036854775807) :
    Calls Tryz.prog 20 #[v, .int .i64 lost, .int .i64 next] w fun e w' => ∃ (ro : Option Addr) (rc n : Nat), e = .returned (.slice ro n rc) ∧ (voicesL (onLost (votesG l) lost) next 64).length = n ∧ OwnE iE 1 3 w' w.heap.size ro rc (voicesL (onLost (votesG l) lost) next 64) ∧ Ex w.heap.size none w w' := by
  have HV := Lib.hid hv
  have HL := Lib.hid hL
  have HKO := Lib.hid (votesG_ok l)
  clear hv hL
  go_enter Tryz.func20, Tryz.ntmps20
  go_wp2_with fail
  refine (lossesG_any v l w HV.out hm HL.out).mono ?_
  rintro e w1 ⟨g, rfl, m, hml, hmp, hex⟩
  have HM := Lib.hid hmp
  have HE := Lib.hid hex
  have hz := hex.size
  clear hmp hex
  go_wp2_with fail
  refine (voicesGW_any g m (votesG l) _ lost next w1 HM.out HKO.out rfl hlost).mono ?_
  rintro e w2 ⟨ro, rc, n, rfl, hn, hown, hex2⟩
  go_wp2
  go_ret
  exact ⟨ro, rc, n, rfl, hn, hown.lowerE hz, HE.out.trans hex2 hz (by simp)⟩
end Go.Proofs.YtaghfcnpnfhacaaGreat
