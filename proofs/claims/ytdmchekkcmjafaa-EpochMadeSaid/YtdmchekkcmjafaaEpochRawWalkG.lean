/- EpochRaw: the walk. No statement of the seat. -/
import Derived.Test.YtdmchekkcmjafaaMg20
import Derived.Deep.RegionHeld3
namespace Go.Proofs.Ytdmchekkcmjafaa
open Go.RowKit Go.Sort

theorem sameList_eq {P Q : Nat → Prop} (v1 v2 : Value) (xs : List St) (w : World) (hv1 : Sl stRep P w v1 xs) (hv2 : Sl stRep Q w v2 xs) (hl : xs.length ≤ 1000000 ∧ LightL 1000000 xs) :
    Calls Try.prog 10 #[v1, v2] w fun e w' => e = .returned (.bool true) ∧ Ex w.heap.size none w w' :=
  (sameList_any v1 v2 xs xs w hv1 hv2 hl.1 hl.2).mono fun _ _ ⟨b, he, hb, hx⟩ => by
    obtain rfl : b = true := hb.out.2 rfl
    exact ⟨he, hx⟩
theorem refOrder_len {P : Nat → Prop} (v : Value) (l : List St) (w : World) (hv : Sl stRep P w v l) (hm : l.length ≤ 100000) (hl : LightL 1000000 l) :
    Calls Try.prog 16 #[v] w fun e w' => ∃ ro rc, e = .returned (.slice ro l.length rc) ∧ Sl stRep (fun b => w.heap.size ≤ b) w' (.slice ro l.length rc) (orderI beforeB l) ∧ Ex w.heap.size none w w' :=
  (refOrder_any v l w hv hm hl).mono fun _ _ ⟨ro, rc, he, ho, hx⟩ => ⟨ro, rc, he, by have := ho.sl; rwa [orderI_len] at this, hx⟩
theorem light_filter {m n : Nat} {l : List St} (h : LightL m l) (hl : l.length ≤ n) (p : St → Bool) : (l.filter p).length ≤ n ∧ LightL m (l.filter p) :=
  ⟨Nat.le_trans (List.length_filter_le _ _) hl, fun s hs => h s (List.mem_filter.1 hs).1⟩

set_option maxHeartbeats 8000000 in
set_option maxRecDepth 100000 in
theorem epochRaw_walk (v : Value) (l : List St) (n0 n1 n2 : Int) (w : World) (hv : Sl stRep (fun _ => True) w v l) (hm0 : l.length ≤ 9223372036854775807) (hn0 : n0 ≤ 9223372036854775807) :
    Calls Try.prog 3 #[v, .agg #[.int .i64 n0, .int .i64 n1, .int .i64 n2]] w fun e w' => e = .returned (.bool true) ∧ Below w.heap.size w w' := by
  obtain ⟨ao, cap, rfl, hx⟩ := hv
  have HX := Lib.hid hx
  have HN : Hid (Ex w.heap.size none w (w.alloc (.cells #[.int .i64 n0, .int .i64 n1, .int .i64 n2] 23))) := Ex.new _ _
  clear hx
  by_cases hm : l.length ≤ 20
  · have hmI : (l.length : Int) ≤ 20 := by omega
    go_enter Try.func3, Try.ntmps3
    go_wp2
    go_loop [5] (fun i => ∃ k : Nat, k ≤ l.length ∧ i = .int .i64 k ∧ Hid (∀ j s, j < k → l[j]? = some s → s.list.length ≤ 100 ∧ s.pins.length ≤ 100)) (fun i => l.length - (intOf i).toNat)
    case atStart => exact ⟨0, Nat.zero_le _, rfl, fun j s h => by omega⟩
    case round =>
      obtain ⟨k, hk, rfl, HK⟩ := hrel
      by_cases hlt : k < l.length
      · obtain ⟨b, off, s, ⟨lo, ln, lc⟩, ⟨po, pn, pc⟩, rfl, _, hls, hr, HXk⟩ := st_get HX.out k hlt
        have hr' := rangeAt_keep hr (HN.out.block b (rangeAt_lt hr (by rw [stE_len]; omega)) (by simp))
        have hc := st_at hr'
        simp only [Sv.v] at hc
        obtain ⟨c0, c1, c2, c3, c4, c5, c6, c7, c8, c9, c10, c11, c12⟩ := hc
        have e1 : ln = s.list.length := by obtain ⟨_, _, e, _⟩ := hls.1; simp only [Sv.v] at e; cases e; rfl
        have e2 : pn = s.pins.length := by obtain ⟨_, _, e, _⟩ := hls.2; simp only [Sv.v] at e; cases e; rfl
        have HE1 := Lib.hid e1
        have HE2 := Lib.hid e2
        clear hr hr' hls e1 e2 c0 c1 c2 c3 c4 c5 c6 c7 c10 c11 c12
        by_cases h1 : ln ≤ 100
        · have h1I : (ln : Int) ≤ 100 := by omega
          by_cases h2 : pn ≤ 100
          · have h2I : (pn : Int) ≤ 100 := by omega
            go_wp2
            go_round
            case rel =>
              refine ⟨k + 1, by omega, by go_num, fun j t hj hjt => ?_⟩
              by_cases e : j = k
              · subst e; rw [HXk.out] at hjt; cases hjt; rw [← HE1.out, ← HE2.out]; omega
              · exact HK.out j t (by omega) hjt
            case measure => simp [intOf]; omega
          · have h2I : ¬ (pn : Int) ≤ 100 := by omega
            go_wp2_with (go_at_call 7; refine (awake09_any _).mono ?_; rintro e w1 ⟨rfl, hex⟩)
            go_ret
            exact ⟨rfl, (HN.out.trans hex (by simp) (by simp)).below⟩
        · have h1I : ¬ (ln : Int) ≤ 100 := by omega
          go_wp2_with (go_at_call 7; refine (awake09_any _).mono ?_; rintro e w1 ⟨rfl, hex⟩)
          go_ret
          exact ⟨rfl, (HN.out.trans hex (by simp) (by simp)).below⟩
      · have HLL : Hid (LightL 1000000 l) := fun s hs => by
          obtain ⟨j, hj⟩ := List.mem_iff_getElem?.1 hs
          have hjl := (List.getElem?_eq_some_iff.1 hj).1
          have := HK.out j s (by omega) hj
          omega
        have HLF : Hid (∀ p, (l.filter p).length ≤ 1000000 ∧ LightL 1000000 (l.filter p)) := fun p => light_filter HLL.out (by omega) p
        have HLO : Hid ((orderI beforeB l).length ≤ 1000000 ∧ LightL 1000000 (orderI beforeB l)) := ⟨by rw [orderI_len]; omega, HLL.out.order⟩
        obtain ⟨wB, hwB⟩ : ∃ wB : World, wB = w.alloc (.cells #[.int .i64 n0, .int .i64 n1, .int .i64 n2] 23) := ⟨_, rfl⟩
        have HB : Hid (wB.heap[w.heap.size]? = some (.cells #[.int .i64 n0, .int .i64 n1, .int .i64 n2] 23 (0, 0))) := by rw [hwB]; exact heap_alloc_new w _
        have hsB : w.heap.size < wB.heap.size := by rw [hwB]; simp
        rw [← hwB] at HN ⊢
        clear hwB
        have HL : Hid (∀ p : ExW wB, SlAt stRep (fun _ => True) p.w' ao l) := fun p => (HX.out.keep (by decide) (fun b _ hb => HN.out.block b hb (by simp))).keep (by decide) (fun b _ hb => p.ex.block b hb (by simp))
        have HQ : Hid (∀ p : ExW wB, p.w'.cell? ⟨w.heap.size, 0, none⟩ = some (.int .i64 n0) ∧ p.w'.cell? ⟨w.heap.size, 1, none⟩ = some (.int .i64 n1) ∧ p.w'.cell? ⟨w.heap.size, 2, none⟩ = some (.int .i64 n2)) := fun p => by
          have h := (p.ex.block w.heap.size hsB (by simp)).trans HB.out
          exact ⟨by rw [cell_of_row _ _ _ _ _ _ h]; rfl, by rw [cell_of_row _ _ _ _ _ _ h]; rfl, by rw [cell_of_row _ _ _ _ _ _ h]; rfl⟩
        have HE : Hid (Ex wB.heap.size none wB wB.drew) := (Ex.refl _ _ wB).drew
        have hz : wB.heap.size ≤ wB.drew.heap.size := Nat.le_refl _
        replace hm : l.length ≤ 100000 := by omega
        have HM := Lib.hid hmI
        go_wp2_with fail
        go_region_held3 (fun w' => w'.cell? ⟨w.heap.size, 0, none⟩ = some (.int .i64 n0) ∧ w'.cell? ⟨w.heap.size, 1, none⟩ = some (.int .i64 n1) ∧ w'.cell? ⟨w.heap.size, 2, none⟩ = some (.int .i64 n2)) (first | exact HQ.out ⟨_, HE.out⟩)
          (first
      | (go_at_call 7; refine (awake09_any _).mono ?_
         rintro e w1 ⟨rfl, hex⟩
         replace HE : Hid (Ex wB.heap.size none wB w1) := HE.out.trans hex hz (by simp)
         replace hz : wB.heap.size ≤ w1.heap.size := HE.out.size
         clear hex)
      | (go_at_call 8; refine (of_any n0 n1 _ hn0).mono ?_; rintro e w1 ⟨rfl, rfl⟩)
      | (go_at_call 9; refine (refOf_any n0 n1 _ hn0).mono ?_; rintro e w1 ⟨rfl, rfl⟩)
      | (go_at_call 11; refine (until_any _ l n0 _ ⟨_, _, rfl, HL.out ⟨_, HE.out⟩⟩ hm HLL.out).mono ?_
         rintro e w1 ⟨ro, rc, rfl, hown, hex⟩
         have HU1 := Lib.hid hown.sl
         replace HE : Hid (Ex wB.heap.size none wB w1) := HE.out.trans hex hz (by simp)
         replace hz : wB.heap.size ≤ w1.heap.size := HE.out.size
         clear hown hex)
      | (go_at_call 12; refine (refUntil_any _ l n0 _ ⟨_, _, rfl, HL.out ⟨_, HE.out⟩⟩ hm HLL.out).mono ?_
         rintro e w1 ⟨ro, rc, rfl, hown, hex⟩
         replace HU1 := Lib.hid (HU1.out.keep (by decide) (fun b _ hb => hex.block b hb (by simp)))
         have HU2 := Lib.hid hown.sl
         replace HE : Hid (Ex wB.heap.size none wB w1) := HE.out.trans hex hz (by simp)
         replace hz : wB.heap.size ≤ w1.heap.size := HE.out.size
         clear hown hex)
      | (go_at_call 13; refine (window_any _ l n1 n2 _ ⟨_, _, rfl, HL.out ⟨_, HE.out⟩⟩ hm HLL.out).mono ?_
         rintro e w1 ⟨ro, rc, rfl, hown, hex⟩
         have HU1 := Lib.hid hown.sl
         replace HE : Hid (Ex wB.heap.size none wB w1) := HE.out.trans hex hz (by simp)
         replace hz : wB.heap.size ≤ w1.heap.size := HE.out.size
         clear hown hex)
      | (go_at_call 14; refine (refWindow_any _ l n1 n2 _ ⟨_, _, rfl, HL.out ⟨_, HE.out⟩⟩ hm HLL.out).mono ?_
         rintro e w1 ⟨ro, rc, rfl, hown, hex⟩
         replace HU1 := Lib.hid (HU1.out.keep (by decide) (fun b _ hb => hex.block b hb (by simp)))
         have HU2 := Lib.hid hown.sl
         replace HE : Hid (Ex wB.heap.size none wB w1) := HE.out.trans hex hz (by simp)
         replace hz : wB.heap.size ≤ w1.heap.size := HE.out.size
         clear hown hex)
      | (go_at_call 15; refine (order_any _ l _ ⟨_, _, rfl, HL.out ⟨_, HE.out⟩⟩ hm HLL.out).mono ?_
         rintro e w1 ⟨ro, rc, rfl, hown, hex⟩
         have HU1 := Lib.hid hown
         replace HE : Hid (Ex wB.heap.size none wB w1) := HE.out.trans hex hz (by simp)
         replace hz : wB.heap.size ≤ w1.heap.size := HE.out.size
         clear hown hex)
      | (go_at_call 16; refine (refOrder_len _ l _ ⟨_, _, rfl, HL.out ⟨_, HE.out⟩⟩ hm HLL.out).mono ?_
         rintro e w1 ⟨ro, rc, rfl, hown, hex⟩
         replace HU1 := Lib.hid (HU1.out.keep (by decide) (fun b _ hb => hex.block b hb (by simp)))
         have HU2 := Lib.hid hown
         replace HE : Hid (Ex wB.heap.size none wB w1) := HE.out.trans hex hz (by simp)
         replace hz : wB.heap.size ≤ w1.heap.size := HE.out.size
         clear hown hex)
      | (go_at_call 10; refine (sameList_eq _ _ _ _ HU1.out HU2.out (by first | exact HLF.out _ | exact HLO.out)).mono ?_
         rintro e w1 ⟨rfl, hex⟩
         replace HE : Hid (Ex wB.heap.size none wB w1) := HE.out.trans hex hz (by simp)
         replace hz : wB.heap.size ≤ w1.heap.size := HE.out.size
         clear hex HU1 HU2)
      | (go_at_call 17; refine (latest_any _ l _ ⟨_, _, rfl, HL.out ⟨_, HE.out⟩⟩ hm).mono ?_
         rintro e w1 ⟨rfl, hex⟩
         replace HE : Hid (Ex wB.heap.size none wB w1) := HE.out.trans hex hz (by simp)
         replace hz : wB.heap.size ≤ w1.heap.size := HE.out.size
         clear hex)
      | (go_at_call 18; refine (refLatest_any _ l _ ⟨_, _, rfl, HL.out ⟨_, HE.out⟩⟩ hm).mono ?_; rintro e w1 ⟨rfl, rfl⟩) | fail)
        go_wp2
        go_ret
        exact ⟨rfl, (HN.out.trans HE.out (by omega) (by simp)).below⟩
  · have hmI : ¬ (l.length : Int) ≤ 20 := by omega
    go_enter Try.func3, Try.ntmps3
    go_wp2_with (go_at_call 7; refine (awake09_any _).mono ?_; rintro e w1 ⟨rfl, hex⟩)
    go_ret
    exact ⟨rfl, (HN.out.trans hex (by simp) (by simp)).below⟩
end Go.Proofs.Ytdmchekkcmjafaa
