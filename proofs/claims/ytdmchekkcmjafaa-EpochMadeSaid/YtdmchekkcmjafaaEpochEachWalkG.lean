/- EpochEach: the walk. No statement of the seat. -/
import Derived.Test.YtdmchekkcmjafaaListsDG
import Derived.Test.YtdmchekkcmjafaaMg21
import Derived.Test.YtdmchekkcmjafaaMg01
namespace Go.Proofs.Ytdmchekkcmjafaa
open Go.RowKit Go.Sort

theorem made_start (v1 : Value) (L : List Int) (w : World) (hv1 : Ints w v1 L) (hL : L.length ≤ 1000000) :
    Calls Try.prog 20 #[v1] w fun e w' => ∃ p, e = .returned (.pointer (some ⟨p, 0, none⟩)) ∧ (DiceOK (p + 1) w' p ∧ w.heap.size ≤ p ∧ p + 1 ≤ w'.heap.size) ∧ Ex w.heap.size none w w' :=
  (madeRoll_any v1 L w hv1 hL).mono fun _e _w' ⟨p, h1, h2, h3, h4, h5⟩ => ⟨p, h1, ⟨⟨_, h2⟩, h3, h4⟩, h5⟩

theorem lists_34 (N p : Nat) (w : World) (hd : DiceOK N w p) (hN : N ≤ w.heap.size) :
    Calls Try.prog 24 #[.pointer (some ⟨p, 0, none⟩), .int .i64 3, .int .i64 4] w fun e w' => ∃ (ro : Option Addr) (rc k : Nat) (l : List St), e = .returned (.slice ro k rc) ∧ (k = l.length ∧ k ≤ 200) ∧ OwnS w' w.heap.size ro rc l ∧ ElL (fun x => 0 ≤ x ∧ x < 3) 91 l ∧ DiceOK N w' p ∧ Ex w.heap.size (some p) w w' :=
  listsD_w N p 3 4 w hd hN (by omega) (by omega)

set_option maxHeartbeats 16000000 in
set_option maxRecDepth 100000 in
theorem epochEach_walk (v : Value) (L : List Int) (n0 : Int) (w : World) (hv : Ints w v L) (hm0 : L.length ≤ 9223372036854775807) :
    Calls Try.prog 6 #[v, .int .i64 n0] w fun e w' => e = .returned (.bool true) ∧ Below w.heap.size w w' := by
  obtain ⟨ao, cap, rfl, hx⟩ := hv
  have HX := Lib.hid hx
  clear hx
  by_cases hm : L.length ≤ 400
  · have hmI : (L.length : Int) ≤ 400 := by omega
    obtain ⟨z, hz⟩ : ∃ z, z = modI n0 30 := ⟨_, rfl⟩
    have hzb : 0 ≤ z ∧ z < 30 := by rw [hz]; exact modI_bd (by omega)
    have HZ := Lib.hid hz
    clear hz
    go_enter Try.func6, Try.ntmps6
    go_wp2_with (first
      | (go_at_call 19; refine (madeLight_any _ _ _ _).mono ?_; rintro e w' ⟨rfl, rfl⟩)
      | (go_at_call 20
         refine (made_start (.slice ao L.length cap) L w ⟨ao, cap, rfl, HX.out⟩ (by omega)).mono ?_
         rintro e w1 ⟨p, rfl, ⟨hd, hp1, hp2⟩, hex⟩
         have HD1 : Hid (DiceOK (p + 1) w1 p ∧ Ex w.heap.size none w w1) := Lib.hid ⟨hd, hex⟩
         have hz1 : w.heap.size ≤ w1.heap.size := hex.size
         clear hd hex)
      | (go_at_call 24
         refine (lists_34 (p + 1) p w1 HD1.out.1 hp2).mono ?_
         rintro e w2 ⟨ro, rc, k, l, rfl, ⟨hk, hk2⟩, hown, hel, hd2, hex2⟩
         have H2 : Hid (OwnS w2 w1.heap.size ro rc l ∧ ElL (fun x => 0 ≤ x ∧ x < 3) 91 l ∧ k = l.length ∧ Ex w.heap.size none w w2) := Lib.hid ⟨hown, hel, hk, HD1.out.2.trans hex2 hz1 (fun q e h => by cases e; omega)⟩
         have hz2 : w.heap.size ≤ w2.heap.size := H2.out.2.2.2.size
         clear hown hel hd2 hex2 hk)
      | (go_at_call 23; refine (mod_any _ _ _ (by omega)).mono ?_; rw [← HZ.out]; rintro e w' ⟨rfl, rfl⟩)
      | fail)
    obtain ⟨nn, hnn⟩ : ∃ nn : Int, nn = 1 + z := ⟨_, rfl⟩
    rw [← hnn]
    have hn1 : 1 ≤ nn ∧ nn ≤ 30 := by omega
    clear hnn hzb HZ
    have HSL : Hid (∀ w', Ex w2.heap.size none w2 w' → Sl stRep (fun b => w1.heap.size ≤ b) w' (.slice ro k rc) l) := Lib.hid (fun w' h' => by
      have h := (H2.out.1.keep h' (Nat.le_refl _)).sl
      rw [← H2.out.2.2.1] at h
      exact h)
    have HT : Hid (∀ s ∈ l, 0 ≤ s.time ∧ s.time ≤ 91) := Lib.hid (fun s hs => (H2.out.2.1 s hs).2.time)
    have HLI : Hid (LightL 1000000 l) := Lib.hid H2.out.2.1.tame.light
    have HKL : Hid (k = l.length) := Lib.hid H2.out.2.2.1
    obtain ⟨q, hq⟩ : ∃ q, q = ofI (latestI l) nn := ⟨_, rfl⟩
    have hq91 : q ≤ 91 := by rw [hq]; exact of_bound hn1.1 (by omega) HT.out
    have HQ := Lib.hid hq
    have hlate : latestI l ≤ 91 := latest_bound (by omega) HT.out
    clear hq
    go_loopw [8, 9, 10, 11] (fun s i u1 u2 wr => ∃ (d c : Nat), i = .int .i64 d ∧ s = .int .i64 c ∧ Hid (c = (upTo l ((d : Int) * nn)).length) ∧ c ≤ 200 ∧ (d : Int) ≤ 100 ∧ Ex w2.heap.size none w2 wr) (fun _ i _ _ _ => 200 - (intOf i).toNat)
    case atStart => exact ⟨0, 0, rfl, rfl, Lib.hid (by rw [show ((0 : Nat) : Int) * nn = 0 by simp, upTo_none (fun s hs => (HT.out s hs).1)]; rfl), by omega, by omega, Ex.refl _ _ _⟩
    case round =>
      obtain ⟨d, c, rfl, rfl, HC, hc2, hd, hex⟩ := hrel
      have hsz := hex.size
      obtain ⟨x, hx⟩ : ∃ x : Int, x = (d : Int) * nn := ⟨_, rfl⟩
      have hx0 : 0 ≤ x := by rw [hx]; exact Int.mul_nonneg (by omega) (by omega)
      have hx1 : x ≤ 3000 := by
        have h := Int.mul_le_mul hd hn1.2 (by omega) (by omega)
        rw [hx]; omega
      have hw : IntKind.i64.wrap ((d : Int) * nn) = x := by rw [← hx]; exact IntWalk.i64_in _ (by omega)
      have HXD := Lib.hid hx
      clear hx
      by_cases hce : (d : Int) ≤ q
      · have hcd : decide ((d : Int) ≤ q) = true := decide_eq_true hce
        have h400 : (d : Int) < 400 := by omega
        have h400n : d < 400 := by omega
        obtain ⟨wl, hwl⟩ : ∃ wl, wl = l.filter (fun s => decide (x ≤ s.time) && decide (s.time ≤ x + nn - 1)) := ⟨_, rfl⟩
        obtain ⟨kw, hkw⟩ : ∃ kw, kw = wl.length := ⟨_, rfl⟩
        have HWL := Lib.hid hwl
        have HKW := Lib.hid hkw
        have hkw2 : kw ≤ 200 := by
          have h := List.length_filter_le (fun s => decide (x ≤ s.time) && decide (s.time ≤ x + nn - 1)) l
          rw [hkw, hwl]; have := HKL.out; omega
        have HWC : Hid (∀ w3, Ex w2.heap.size none w2 w3 → Calls Try.prog 13 #[.slice ro k rc, .int .i64 x, .int .i64 (x + nn - 1)] w3 fun e w' => ∃ r2 c2, e = .returned (.slice r2 kw c2) ∧ OwnS w' w3.heap.size r2 c2 wl ∧ Ex w3.heap.size none w3 w') := Lib.hid (fun w3 h3 => by
          rw [hkw, hwl]; exact window_any (.slice ro k rc) l x (x + nn - 1) w3 (HSL.out w3 h3) (by have := HKL.out; omega) HLI.out)
        clear hwl hkw
        go_wp2_with (first
          | (go_at_call 17
             refine (latest_any (.slice ro k rc) l _ (HSL.out _ hex) (by have := HKL.out; omega)).mono ?_
             rintro e w3 ⟨rfl, hex3⟩
             have HE3 : Hid (Ex w2.heap.size none w2 w3) := Lib.hid (hex.trans hex3 hsz (by simp))
             have hz3 : w2.heap.size ≤ w3.heap.size := HE3.out.size
             clear hex3)
          | (go_at_call 8; refine (of_any (latestI l) nn w3 (by omega)).mono ?_; rw [← HQ.out]; rintro e w' ⟨rfl, rfl⟩)
          | (go_at_call 13
             refine (HWC.out w3 HE3.out).mono ?_
             rintro e w4 ⟨r2, c2, rfl, hown, hex4⟩
             have H4 : Hid (OwnS w4 w3.heap.size r2 c2 wl ∧ Ex w2.heap.size none w2 w4) := Lib.hid ⟨hown, HE3.out.trans hex4 hz3 (by simp)⟩
             have hz4 : w2.heap.size ≤ w4.heap.size := H4.out.2.size
             clear hown hex4)
          | fail)
        clear hw
        go_loopw [11] (fun i wi => ∃ j : Nat, j ≤ kw ∧ i = .int .i64 j ∧ Ex w4.heap.size none w4 wi) (fun i _ => kw - (intOf i).toNat)
        case atStart => exact ⟨0, by omega, rfl, Ex.refl _ _ _⟩
        case round =>
          obtain ⟨j, hj, rfl, hexi⟩ := hrel
          have hszi := hexi.size
          by_cases hjk : j < kw
          · have hjI : (j : Int) < (kw : Int) := by omega
            obtain ⟨b, off, t, ⟨lo, ln, lc⟩, ⟨po, pn, pc⟩, hro, _, _, hr, HX2⟩ := st_get (H4.out.1.keep hexi (Nat.le_refl _)).at' j (by rw [← HKW.out]; exact hjk)
            have hcs := st_at hr
            have k3 := hcs.2.2.2.1
            have hmem : t ∈ l.filter (fun s => decide (x ≤ s.time) && decide (s.time ≤ x + nn - 1)) := by rw [← HWL.out]; exact List.mem_of_getElem? HX2.out
            have htt := (List.mem_filter.1 hmem).2
            simp only [Bool.and_eq_true, decide_eq_true_eq] at htt
            have HOE : Hid (ofI t.time nn = (d : Int)) := Lib.hid (ofI_in hn1.1 (by omega) (by rw [← HXD.out]; exact htt.1) (by rw [← HXD.out]; exact htt.2))
            have htb : t.time ≤ 100000 := by omega
            have hall := hcs
            clear hmem htt hcs hr
            simp only [Sv.v] at hall
            obtain ⟨a0, a1, a2, a3, a4, a5, a6, a7, a8, a9, a10, a11, a12⟩ := hall
            clear k3
            subst hro
            go_wp2_with (go_at_call 8; refine (of_any t.time nn _ (by omega)).mono ?_; rw [HOE.out]; rintro e w' ⟨rfl, rfl⟩)
            go_roundw
            case rel => exact ⟨j + 1, by omega, by go_num, hexi⟩
            case measure => simp [intOf] <;> omega
          · have hjI : ¬ (j : Int) < (kw : Int) := by omega
            go_wp2
            go_roundw
            case rel => exact ⟨d + 1, c + kw, by go_num, by go_num, Lib.hid (by
              have h := upTo_step l x nn hn1.1
              rw [← HWL.out, ← HKW.out, HXD.out, ← HC.out] at h
              rw [← h]
              congr 2
              rw [show ((d + 1 : Nat) : Int) = (d : Int) + 1 by omega, Int.add_mul, Int.one_mul]), by
                have h := upTo_step l x nn hn1.1
                rw [← HWL.out, ← HKW.out, HXD.out, ← HC.out] at h
                have := upTo_le l ((d : Int) * nn + nn)
                have := HKL.out
                omega, by omega, H4.out.2.trans hexi hz4 (by simp)⟩
            case measure => simp [intOf] <;> omega
      · have hcd : decide ((d : Int) ≤ q) = false := decide_eq_false hce
        have HCK : Hid (c = k) := Lib.hid (by rw [HC.out, HKL.out, upTo_end hn1.1 (by omega) (by rw [← HQ.out]; exact hce) (fun s hs => (HT.out s hs).1)])
        have hck : ((c : Int) == (k : Int)) = true := by rw [HCK.out]; simp
        have hck2 : (c == k) = true := by rw [HCK.out]; simp
        go_wp2_with (first
          | (go_at_call 17
             refine (latest_any (.slice ro k rc) l _ (HSL.out _ hex) (by have := HKL.out; omega)).mono ?_
             rintro e w3 ⟨rfl, hex3⟩
             have HE3 : Hid (Ex w2.heap.size none w2 w3) := Lib.hid (hex.trans hex3 hsz (by simp))
             have hz3 : w2.heap.size ≤ w3.heap.size := HE3.out.size
             clear hex3)
          | (go_at_call 8; refine (of_any (latestI l) nn w3 (by omega)).mono ?_; rw [← HQ.out]; rintro e w' ⟨rfl, rfl⟩)
          | (go_at_call 7; refine (awake09_any _).mono ?_; rintro e w5 ⟨rfl, hex5⟩)
          | fail)
        go_ret
        exact ⟨rfl, ((H2.out.2.2.2.trans HE3.out hz2 (by simp)).trans hex5 (by omega) (by simp)).below⟩
  · have hmI : ¬ (L.length : Int) ≤ 400 := by omega
    have hmd : decide ((L.length : Int) ≤ 400) = false := decide_eq_false hmI
    clear hmI
    go_enter Try.func6, Try.ntmps6
    go_wp2_with (first
      | (go_at_call 19; refine (madeLight_any _ _ _ _).mono ?_; rintro e w' ⟨rfl, rfl⟩)
      | (go_at_call 7; refine (awake09_any _).mono ?_; rintro e w1 ⟨rfl, hex⟩))
    go_ret
    exact ⟨rfl, hex.below⟩
end Go.Proofs.Ytdmchekkcmjafaa
