/- ref35.loss at whatever statement: a contract, no statement of the seat. | ref35.Voices at whatever statements: a contract, no statement of the seat. -/
import Derived.Test.YtaghfcnpnfhacaaGreatLoss35bG
import Derived.Test.YtaghfcnpnfhacaaGreatLoss35cG
import Derived.Test.YtaghfcnpnfhacaaGreatLoss35dG
import Derived.Test.YtaghfcnpnfhacaaGreatLoss35eG
import Derived.Test.YtaghfcnpnfhacaaGreatMg05
import Derived.Test.YtaghfcnpnfhacaaGreatMg01
namespace Go.Proofs.YtaghfcnpnfhacaaGreat
open Go.RowKit Go.Sort

theorem loss35_any {P : Nat → Prop} (s : St) (lo po : Option Addr) (ln lc pn pc : Nat) (w : World) (hs : Lies P w (s, ⟨lo, ln, lc⟩, ⟨po, pn, pc⟩)) (hm : s.list.length ≤ 9223372036854775807 ∧ s.pins.length ≤ 9223372036854775807) :
    Calls Tryz.prog 72 #[.agg #[.int .i64 s.author, .int .i64 s.number, .string s.prev, .int .i64 s.time, .int .i64 s.kind, .int .i64 s.a, .int .i64 s.b, .int .i64 s.c, .slice lo ln lc, .slice po pn pc, .string s.body, .int .i64 s.key, .string s.dig]] w fun e w' => e = .returned (.tuple #[.agg #[.int .i64 s.a, .int .i64 s.b], .bool (lossB s)]) ∧ Ex w.heap.size none w w' := by
  by_cases t1 : s.kind = 13
  case neg => exact loss35_1 s lo po ln lc pn pc w hs hm t1
  by_cases t2 : s.c = 0
  case neg => exact loss35_2 s lo po ln lc pn pc w hs hm t1 t2
  by_cases t3 : ln = 0
  case neg => exact loss35_3 s lo po ln lc pn pc w hs hm t1 t2 t3
  by_cases t4 : pn = 0
  case neg => exact loss35_4 s lo po ln lc pn pc w hs hm t1 t2 t3 t4
  by_cases t5 : s.body = ⟨#[]⟩
  case neg => exact loss35_5 s lo po ln lc pn pc w hs hm t1 t2 t3 t4 t5
  by_cases t6 : rightB s.a s.b = true
  case neg => exact loss35_6 s lo po ln lc pn pc w hs hm t1 t2 t3 t4 t5 (by simpa using t6)
  by_cases t7 : checkI s = 0
  case neg => exact loss35_7 s lo po ln lc pn pc w hs hm t1 t2 t3 t4 t5 t6 t7
  by_cases t8 : sealedB s = true
  case neg => exact loss35_8 s lo po ln lc pn pc w hs hm t1 t2 t3 t4 t5 t6 t7 (by simpa using t8)
  exact loss35_9 s lo po ln lc pn pc w hs hm t1 t2 t3 t4 t5 t6 t7 t8
end Go.Proofs.YtaghfcnpnfhacaaGreat

namespace Go.Proofs.YtaghfcnpnfhacaaGreat
open Go.RowKit Go.Maps Go.Sort

theorem says_yes {l : List St} {i : Nat} {s : St} {lost k : Int} (h : l[i]? = some s) (hs : lossB s = true) (hk : s.author = k) (ha : s.a = lost) : lastOf (onLost (votesG (l.take (i + 1))) lost) k = some s.b := by
  rw [votesG_yes h hs, onLost_snoc, if_pos ha, lastOf_snoc, if_pos hk]
theorem says_no {l : List St} {i : Nat} {s : St} {lost k : Int} (h : l[i]? = some s) (hs : lossB s = false ∨ s.author ≠ k ∨ s.a ≠ lost) : lastOf (onLost (votesG (l.take (i + 1))) lost) k = lastOf (onLost (votesG (l.take i)) lost) k := by
  cases hb : lossB s with
  | false => rw [votesG_no h hb]
  | true =>
    rw [votesG_yes h hb, onLost_snoc]
    by_cases ha : s.a = lost
    · rw [if_pos ha, lastOf_snoc, if_neg]
      rcases hs with hs | hs | hs
      · rw [hb] at hs; cases hs
      · exact hs
      · exact absurd ha hs
    · rw [if_neg ha, List.append_nil]
theorem says_key {l : List St} {lost k v : Int} (h : lastOf (onLost (votesG l) lost) k = some v) : 0 ≤ v := by
  obtain ⟨s, _, hb, e⟩ := votesG_mem (onLost_mem (lastOf_mem h))
  cases e
  exact (rightB_parts (lossB_parts hb).2.1).2.1.1

set_option maxHeartbeats 16000000 in
set_option maxRecDepth 100000 in
theorem voices35_any {P : Nat → Prop} (v : Value) (l : List St) (lost next : Int) (w : World) (hv : Sl stRep P w v l) (hm : l.length ≤ 100000) (hL : LightL 9223372036854775807 l) :
    Calls Tryz.prog 21 #[v, .int .i64 lost, .int .i64 next] w fun e w' => ∃ (ro : Option Addr) (rc n : Nat), e = .returned (.slice ro n rc) ∧ (voicesL (onLost (votesG l) lost) next 64).length = n ∧ OwnE iE 1 3 w' w.heap.size ro rc (voicesL (onLost (votesG l) lost) next 64) ∧ Ex w.heap.size none w w' := by
  obtain ⟨ao, cap, rfl, hx⟩ := hv
  have HX := Lib.hid hx
  have HLL := Lib.hid hL
  clear hx hL
  go_enter Tryz.func21, Tryz.ntmps21
  go_wp2_with fail
  go_loopw [7, 8, 9, 10, 11, 12] (fun u kv _ _ _ _ wr => ∃ (k n : Nat) (ro : Option Addr) (rc : Nat), kv = .int .i64 k ∧ k ≤ 64 ∧ n ≤ k ∧ u = .slice ro n rc ∧ Hid ((voicesL (onLost (votesG l) lost) next k).length = n) ∧ OwnE iE 1 3 wr w.heap.size ro rc (voicesL (onLost (votesG l) lost) next k) ∧ Ex w.heap.size none w wr) (fun _ kv _ _ _ _ _ => 64 - (intOf kv).toNat)
  case atStart => exact ⟨0, 0, none, 0, rfl, by omega, by omega, rfl, Lib.hid rfl, OwnE.nil _ _ _ _ _, Ex.refl _ _ _⟩
  case round =>
    obtain ⟨k, n, ro, rc, rfl, hk, hn, rfl, HN, hown, hex⟩ := hrel
    obtain ⟨wk, hwk⟩ : ∃ wk : World, wk = wr := ⟨_, rfl⟩
    subst hwk
    have hsz := hex.size
    have HO := Lib.hid hown
    have HEX := Lib.hid hex
    clear hown hex
    by_cases h64 : k < 64
    · have hkI : (k : Int) < 64 := by omega
      go_wp2_with fail
      go_loopw [9, 10, 11, 12] (fun sv iv _ _ wr => ∃ i : Nat, iv = .int .i64 i ∧ i ≤ l.length ∧ sv = .int .i64 ((lastOf (onLost (votesG (l.take i)) lost) (k : Int)).getD (-1)) ∧ Ex wk.heap.size none wk wr) (fun _ iv _ _ _ => l.length - (intOf iv).toNat)
      case atStart => exact ⟨0, rfl, Nat.zero_le _, rfl, Ex.refl _ _ _⟩
      case round =>
        obtain ⟨i, rfl, hi, rfl, hexi⟩ := hrel
        have hszi := hexi.size
        have HEI := Lib.hid hexi
        clear hexi
        obtain ⟨sv, hsv⟩ : ∃ sv, sv = (lastOf (onLost (votesG (l.take i)) lost) (k : Int)).getD (-1) := ⟨_, rfl⟩
        have HSV : Hid ((lastOf (onLost (votesG (l.take i)) lost) (k : Int)).getD (-1) = sv) := Lib.hid hsv.symm
        rw [← hsv]
        clear hsv
        by_cases hlt : i < l.length
        · have hltI : (i : Int) < (l.length : Int) := by omega
          obtain ⟨b, off, s, ⟨lo, ln, lc⟩, ⟨po, pn, pc⟩, rfl, _, hls, hr, HXs⟩ := st_get (HX.out.keep (by decide) (fun b _ hb => (HEI.out.block b (by omega) (by simp)).trans (HEX.out.block b hb (by simp)))) i hlt
          have HLG : Hid (s.list.length ≤ 9223372036854775807 ∧ s.pins.length ≤ 9223372036854775807) := Lib.hid (HLL.out s (List.mem_of_getElem? HXs.out))
          have hc := st_at hr
          simp only [Sv.v] at hc
          obtain ⟨c0, c1, c2, c3, c4, c5, c6, c7, c8, c9, c10, c11, c12⟩ := hc
          have HLS := Lib.hid hls
          clear hls hr
          by_cases hka : s.author = (k : Int)
          case neg =>
            have HNO : Hid (lastOf (onLost (votesG (l.take (i + 1))) lost) (k : Int) = lastOf (onLost (votesG (l.take i)) lost) (k : Int)) := Lib.hid (says_no HXs.out (.inr (.inl hka)))
            have ka : (s.author != (k : Int)) = true := by simp [hka]
            clear hka
            go_wp2_with fail
            go_roundw
            case rel => exact ⟨i + 1, by go_num, by omega, by rw [HNO.out, HSV.out], HEI.out⟩
            case measure => simp [intOf] <;> omega
          have ka : (s.author != (k : Int)) = false := by simp [hka]
          have HKA := Lib.hid hka
          clear hka
          cases hlb : lossB s with
          | false =>
            have HNO : Hid (lastOf (onLost (votesG (l.take (i + 1))) lost) (k : Int) = lastOf (onLost (votesG (l.take i)) lost) (k : Int)) := Lib.hid (says_no HXs.out (.inl hlb))
            go_upto_region 11 with (first | (go_at_call 72; refine (loss35_any s lo po ln lc pn pc _ HLS.out HLG.out).mono ?_; rw [hlb]; rintro e w2 ⟨rfl, hex2⟩; have HE2 := Lib.hid hex2; have hz2 : wr.heap.size ≤ w2.heap.size := hex2.size; clear hex2 c0 c1 c2 c3 c4 c5 c6 c7 c8 c9 c10 c11 c12) | fail)
            obtain ⟨w3, hw3⟩ : ∃ w3 : World, w3 = w2.alloc (.cells #[.int .i64 s.a, .int .i64 s.b] 25) := ⟨_, rfl⟩
            have HE3 : Hid (Ex wr.heap.size none wr w3) := Lib.hid (by rw [hw3]; exact HE2.out.alloc (by omega) _)
            obtain ⟨g0, g1⟩ : w3.cell? ⟨w2.heap.size, 0, none⟩ = some (.int .i64 s.a) ∧ w3.cell? ⟨w2.heap.size, 1, none⟩ = some (.int .i64 s.b) := by
              have q : w3.heap[w2.heap.size]? = some (.cells #[.int .i64 s.a, .int .i64 s.b] 25 (0, 0)) := by rw [hw3]; exact heap_alloc_new _ _
              refine ⟨?_, ?_⟩ <;> (rw [cell_of_row _ _ _ _ _ _ q]; rfl)
            rw [← hw3]
            clear hw3
            go_wp2_with fail
            go_roundw
            case rel => exact ⟨i + 1, by go_num, by omega, by rw [HNO.out, HSV.out], HEI.out.trans HE3.out hszi (by simp)⟩
            case measure => simp [intOf] <;> omega
          | true =>
            by_cases hla : s.a = lost
            case neg =>
              have HNO : Hid (lastOf (onLost (votesG (l.take (i + 1))) lost) (k : Int) = lastOf (onLost (votesG (l.take i)) lost) (k : Int)) := Lib.hid (says_no HXs.out (.inr (.inr hla)))
              have kl : (s.a == lost) = false := by simpa using hla
              clear hla
              go_upto_region 11 with (first | (go_at_call 72; refine (loss35_any s lo po ln lc pn pc _ HLS.out HLG.out).mono ?_; rw [hlb]; rintro e w2 ⟨rfl, hex2⟩; have HE2 := Lib.hid hex2; have hz2 : wr.heap.size ≤ w2.heap.size := hex2.size; clear hex2 c0 c1 c2 c3 c4 c5 c6 c7 c8 c9 c10 c11 c12) | fail)
              obtain ⟨w3, hw3⟩ : ∃ w3 : World, w3 = w2.alloc (.cells #[.int .i64 s.a, .int .i64 s.b] 25) := ⟨_, rfl⟩
              have HE3 : Hid (Ex wr.heap.size none wr w3) := Lib.hid (by rw [hw3]; exact HE2.out.alloc (by omega) _)
              obtain ⟨g0, g1⟩ : w3.cell? ⟨w2.heap.size, 0, none⟩ = some (.int .i64 s.a) ∧ w3.cell? ⟨w2.heap.size, 1, none⟩ = some (.int .i64 s.b) := by
                have q : w3.heap[w2.heap.size]? = some (.cells #[.int .i64 s.a, .int .i64 s.b] 25 (0, 0)) := by rw [hw3]; exact heap_alloc_new _ _
                refine ⟨?_, ?_⟩ <;> (rw [cell_of_row _ _ _ _ _ _ q]; rfl)
              rw [← hw3]
              clear hw3
              go_wp2_with fail
              go_roundw
              case rel => exact ⟨i + 1, by go_num, by omega, by rw [HNO.out, HSV.out], HEI.out.trans HE3.out hszi (by simp)⟩
              case measure => simp [intOf] <;> omega
            have HYES : Hid (lastOf (onLost (votesG (l.take (i + 1))) lost) (k : Int) = some s.b) := Lib.hid (says_yes HXs.out hlb HKA.out hla)
            have kl : (s.a == lost) = true := by simp [hla]
            clear hla
            go_upto_region 11 with (first | (go_at_call 72; refine (loss35_any s lo po ln lc pn pc _ HLS.out HLG.out).mono ?_; rw [hlb]; rintro e w2 ⟨rfl, hex2⟩; have HE2 := Lib.hid hex2; have hz2 : wr.heap.size ≤ w2.heap.size := hex2.size; clear hex2 c0 c1 c2 c3 c4 c5 c6 c7 c8 c9 c10 c11 c12) | fail)
            obtain ⟨w3, hw3⟩ : ∃ w3 : World, w3 = w2.alloc (.cells #[.int .i64 s.a, .int .i64 s.b] 25) := ⟨_, rfl⟩
            have HE3 : Hid (Ex wr.heap.size none wr w3) := Lib.hid (by rw [hw3]; exact HE2.out.alloc (by omega) _)
            obtain ⟨g0, g1⟩ : w3.cell? ⟨w2.heap.size, 0, none⟩ = some (.int .i64 s.a) ∧ w3.cell? ⟨w2.heap.size, 1, none⟩ = some (.int .i64 s.b) := by
              have q : w3.heap[w2.heap.size]? = some (.cells #[.int .i64 s.a, .int .i64 s.b] 25 (0, 0)) := by rw [hw3]; exact heap_alloc_new _ _
              refine ⟨?_, ?_⟩ <;> (rw [cell_of_row _ _ _ _ _ _ q]; rfl)
            rw [← hw3]
            clear hw3
            go_wp2_with fail
            go_roundw
            case rel => exact ⟨i + 1, by go_num, by omega, by rw [HYES.out]; rfl, HEI.out.trans HE3.out hszi (by simp)⟩
            case measure => simp [intOf] <;> omega
        · have hltI : ¬ (i : Int) < (l.length : Int) := by omega
          have HTK : Hid (l.take i = l) := Lib.hid (List.take_of_length_le (by omega))
          have HSU := voicesL_succ (onLost (votesG l) lost) next k
          clear hlt
          obtain ⟨lv, hlv⟩ : ∃ lv, lv = lastOf (onLost (votesG l) lost) (k : Int) := ⟨_, rfl⟩
          rw [← hlv] at HSU
          have hsv : lv.getD (-1) = sv := by rw [hlv, ← HTK.out]; have h := HSV.out; rw [HTK.out] at h ⊢; exact h
          have hx2 : lv = some next ∧ sv = next ∧ 0 ≤ sv ∨ lv ≠ some next ∧ (sv = -1 ∨ (0 ≤ sv ∧ sv ≠ next)) := by
            cases lv with
            | none => exact .inr ⟨by simp, .inl (by rw [← hsv]; rfl)⟩
            | some y =>
              have h0 := says_key hlv.symm
              have e : y = sv := hsv
              subst e
              by_cases hy : y = next
              · exact .inl ⟨by rw [hy], hy, h0⟩
              · exact .inr ⟨by simpa using hy, .inr ⟨h0, hy⟩⟩
          rcases hx2 with ⟨h1, h2, h3⟩ | ⟨h1, h2⟩
          · have HVS : Hid (voicesL (onLost (votesG l) lost) next (k + 1) = voicesL (onLost (votesG l) lost) next k ++ [(k : Int)]) := Lib.hid (by rw [HSU, if_pos h1])
            have kz : decide (0 ≤ sv) = true := decide_eq_true h3
            have kn : (sv == next) = true := by simp [h2]
            clear hlv hsv HSU h1 h2
            go_wp2_with (first
              | (at_builtin; refine wpList_appE2 rfl (.tmp 54) (.tmp 56) _ 3 (by rfl) Tryz.underlying22 _ 1 8 Tryz.infoInt rfl (by decide) (by decide) iE iE_len one_iE w.heap.size ro rc n (voicesL (onLost (votesG l) lost) next k) HN.out (by rfl) (some ⟨wr.heap.size, 0, none⟩) 1 1 (by rfl) [(k : Int)] rfl ((HO.out.keep HEI.out (Nat.le_refl _) (by simp)).keep (Ex.new wr _) (Nat.le_refl _) (by simp)) (lit_cells (by rfl)) (by omega) (by simp; omega) (n + 1) (by omega) ?_; intro ro2 rc2 w2 hown2 hex2 _ _; have H2 : Hid (OwnE iE 1 3 w2 w.heap.size ro2 rc2 (voicesL (onLost (votesG l) lost) next (k + 1)) ∧ Ex w.heap.size none w w2) := Lib.hid ⟨by rw [HVS.out]; exact hown2, ((HEX.out.trans HEI.out hsz (by simp)).trans (Ex.new wr _) (by omega) (by simp)).trans hex2 (Nat.le_refl _) (by simp)⟩; clear hown2 hex2)
              | fail)
            go_roundw
            case rel => exact ⟨k + 1, n + 1, ro2, rc2, by go_num, by omega, by omega, rfl, Lib.hid (by rw [HVS.out, List.length_append, HN.out]; rfl), H2.out.1, H2.out.2⟩
            case measure => simp [intOf] <;> omega
          · have HVS : Hid (voicesL (onLost (votesG l) lost) next (k + 1) = voicesL (onLost (votesG l) lost) next k) := Lib.hid (by rw [HSU, if_neg h1, List.append_nil])
            clear hlv hsv HSU h1
            by_cases hz : 0 ≤ sv
            · have kz : decide (0 ≤ sv) = true := decide_eq_true hz
              have kn : (sv == next) = false := by
                rcases h2 with h | h
                · omega
                · simpa using h.2
              clear h2
              go_wp2_with fail
              go_roundw
              case rel => exact ⟨k + 1, n, ro, rc, by go_num, by omega, by omega, rfl, Lib.hid (by rw [HVS.out]; exact HN.out), by rw [HVS.out]; exact HO.out.keep HEI.out (Nat.le_refl _) (by simp), HEX.out.trans HEI.out hsz (by simp)⟩
              case measure => simp [intOf] <;> omega
            · have kz : decide (0 ≤ sv) = false := decide_eq_false hz
              clear h2
              go_wp2_with fail
              go_roundw
              case rel => exact ⟨k + 1, n, ro, rc, by go_num, by omega, by omega, rfl, Lib.hid (by rw [HVS.out]; exact HN.out), by rw [HVS.out]; exact HO.out.keep HEI.out (Nat.le_refl _) (by simp), HEX.out.trans HEI.out hsz (by simp)⟩
              case measure => simp [intOf] <;> omega
    · have hkI : ¬ (k : Int) < 64 := by omega
      have h64e : k = 64 := by omega
      have HV : Hid (voicesL (onLost (votesG l) lost) next k = voicesL (onLost (votesG l) lost) next 64) := Lib.hid (by rw [h64e])
      clear h64e
      go_wp2
      go_ret
      exact ⟨ro, rc, n, rfl, by rw [← HV.out]; exact HN.out, by rw [← HV.out]; exact HO.out, HEX.out⟩
end Go.Proofs.YtaghfcnpnfhacaaGreat
