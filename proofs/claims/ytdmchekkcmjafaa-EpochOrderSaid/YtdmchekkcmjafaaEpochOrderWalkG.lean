/- EpochOrder: the walk. No statement of the seat. -/
import Derived.Test.YtdmchekkcmjafaaEpochEachWalkG
import Derived.Test.YtdmchekkcmjafaaMg21
import Derived.Test.YtdmchekkcmjafaaRefOrderG
namespace Go.Proofs.Ytdmchekkcmjafaa
open Go.RowKit Go.Sort

theorem order_k {P : Nat → Prop} (ro : Option Addr) (rc k : Nat) (l : List St) (w : World) (hv : SlAt stRep P w ro l) (hk : k = l.length) (hm : k ≤ 100000) (hl : LightL 1000000 l) :
    Calls Try.prog 15 #[.slice ro k rc] w fun e w' => ∃ ro rc, e = .returned (.slice ro k rc) ∧ SlAt stRep (fun b => w.heap.size ≤ b) w' ro (orderI beforeB l) ∧ Ex w.heap.size none w w' := by
  subst hk
  refine (order_any _ l w ⟨ro, rc, rfl, hv⟩ hm hl).mono ?_
  rintro e w' ⟨ro, rc, rfl, h, hex⟩
  exact ⟨ro, rc, rfl, h.at', hex⟩

set_option maxHeartbeats 16000000 in
set_option maxRecDepth 100000 in
theorem epochOrder_walk (v : Value) (L : List Int) (w : World) (hv : Ints w v L) (hm0 : L.length ≤ 9223372036854775807) :
    Calls Try.prog 5 #[v] w fun e w' => e = .returned (.bool true) ∧ Below w.heap.size w w' := by
  obtain ⟨ao, cap, rfl, hx⟩ := hv
  have HX := Lib.hid hx
  clear hx
  by_cases hm : L.length ≤ 400
  · have hmI : (L.length : Int) ≤ 400 := by omega
    go_enter Try.func5, Try.ntmps5
    go_upto_region 5 with (first
      | (go_at_call 19; refine (madeLight_any _ _ _ _).mono ?_; rintro e w' ⟨rfl, rfl⟩)
      | (go_at_call 20
         refine (made_start (.slice ao L.length cap) L w ⟨ao, cap, rfl, HX.out⟩ (by omega)).mono ?_
         rintro e w1 ⟨p, rfl, ⟨hd, hp1, hp2⟩, hex⟩
         have HD1 : Hid (DiceOK (p + 1) w1 p ∧ Ex w.heap.size none w w1) := Lib.hid ⟨hd, hex⟩
         have hz1 : w.heap.size ≤ w1.heap.size := hex.size
         clear hd hex)
      | (go_at_call 24
         refine (lists_34 (p + 1) p w1 HD1.out.1 hp2).mono ?_
         rintro e w2 ⟨ro, rc, k, l, rfl, ⟨hk, hk2⟩, hown, hel, hd2, hex2⟩
         have H2 : Hid (OwnS w2 w1.heap.size ro rc l ∧ ElL (fun x => 0 ≤ x ∧ x < 3) 91 l ∧ k = l.length ∧ Ex w.heap.size none w w2) := Lib.hid ⟨hown, hel, hk, HD1.out.2.trans hex2 hz1 (fun q e h => by cases e; omega)⟩
         have hz2 : w.heap.size ≤ w2.heap.size := H2.out.2.2.2.size
         clear hown hel hd2 hex2 hk)
      | fail)
    have HSL : Hid (∀ w', Ex w2.heap.size none w2 w' → SlAt stRep (fun b => w1.heap.size ≤ b) w' ro l) := Lib.hid (fun w' h' => (H2.out.1.keep h' (Nat.le_refl _)).sl.at')
    have HLI : Hid (LightL 1000000 l) := Lib.hid H2.out.2.1.tame.light
    have HKL : Hid (k = l.length) := Lib.hid H2.out.2.2.1
    obtain ⟨o, ho⟩ : ∃ o, o = orderI beforeB l := ⟨_, rfl⟩
    have HO := Lib.hid ho
    have HKO : Hid (k = o.length) := Lib.hid (by rw [HO.out, orderI_len]; exact HKL.out)
    have HLO : Hid (LightL 1000000 o) := Lib.hid (by rw [HO.out]; exact HLI.out.order)
    clear ho
    go_upto_region 6 with (first
      | (go_at_call 15
         refine (order_k ro rc k l w2 (HSL.out w2 (Ex.refl _ _ _)) HKL.out (by omega) HLI.out).mono ?_
         rw [← HO.out]
         rintro e w3 ⟨ro3, rc3, rfl, hsl, hex3⟩
         have H3 : Hid (SlAt stRep (fun b => w2.heap.size ≤ b) w3 ro3 o ∧ Ex w2.heap.size none w2 w3) := Lib.hid ⟨hsl, hex3⟩
         have hz3 : w2.heap.size ≤ w3.heap.size := hex3.size
         clear hsl hex3)
      | fail)
    have HSO : Hid (∀ w', Ex w3.heap.size none w3 w' → SlAt stRep (fun b => w2.heap.size ≤ b) w' ro3 o) := Lib.hid (fun w' h' => H3.out.1.keep (by decide) (fun b _ hb => h'.block b hb (by simp)))
    go_upto_region 8 with (first
      | (go_at_call 15
         refine (order_k ro3 rc3 k o w3 (HSO.out w3 (Ex.refl _ _ _)) HKO.out (by omega) HLO.out).mono ?_
         rw [show orderI beforeB o = o by rw [HO.out]; exact order_again l]
         rintro e w4 ⟨ro4, rc4, rfl, hsl, hex4⟩
         have H4 : Hid (SlAt stRep (fun b => w3.heap.size ≤ b) w4 ro4 o ∧ Ex w3.heap.size none w3 w4) := Lib.hid ⟨hsl, hex4⟩
         have hz4 : w3.heap.size ≤ w4.heap.size := hex4.size
         clear hsl hex4)
      | (go_at_call 10
         refine (sameList_any (.slice ro4 k rc4) (.slice ro3 k rc3) o o w4 ⟨ro4, rc4, by rw [HKO.out], H4.out.1⟩ ⟨ro3, rc3, by rw [HKO.out], HSO.out w4 H4.out.2⟩ (by have := HKO.out; omega) HLO.out).mono ?_
         rintro e w5 ⟨b, rfl, hb, hex5⟩
         obtain rfl : b = true := hb.out.2 rfl
         have HE5 : Hid (Ex w3.heap.size none w3 w5) := Lib.hid (H4.out.2.trans hex5 hz4 (by simp))
         have hz5 : w3.heap.size ≤ w5.heap.size := HE5.out.size
         clear hb hex5)
      | fail)
    go_upto_region 9 with (fail)
    go_loopw [6, 7, 8] (fun i u1 u2 wr => ∃ j : Nat, i = .int .i64 j ∧ j ≤ k ∧ Ex w3.heap.size none w3 wr) (fun i _ _ _ => k - (intOf i).toNat)
    case atStart => exact ⟨0, rfl, by omega, HE5.out⟩
    case round =>
      rename World => wo
      obtain ⟨j, rfl, hj, hex⟩ := hrel
      have hsz := hex.size
      by_cases hjk : j < k
      · have hjI : (j : Int) < (k : Int) := by omega
        obtain ⟨b, off, t, lt, pt, hro, _, hlt, hrt, HT⟩ := st_get (HSO.out wo hex) j (by rw [← HKO.out]; exact hjk)
        have HLT := Lib.hid hlt
        have HRT := Lib.hid hrt
        have hbl := rangeAt_lt hrt (by rw [stE_len]; omega)
        have HOE : Hid (Ex w3.heap.size none w3 wo) := Lib.hid hex
        have hrox : (ro3 = some ⟨b, off, none⟩) ∨ True := .inr trivial
        have HRO := Lib.hid hro
        clear hlt hrt hro hrox hex
        have HTL : Hid (t ∈ l) := Lib.hid (by have h := List.mem_of_getElem? HT.out; rw [HO.out] at h; exact orderI_mem.1 h)
        go_upto_region 13 with (fail)
        go_loopw [7, 8] (fun th m wr => ∃ (c m' : Nat), th = .int .i64 c ∧ m = .int .i64 m' ∧ c ≤ m' ∧ m' ≤ k ∧ Hid (0 < c ↔ t ∈ l.take m') ∧ Ex wo.heap.size none wo wr) (fun _ m _ => k - (intOf m).toNat)
        case atStart => exact ⟨0, 0, rfl, rfl, by omega, by omega, Lib.hid (by simp), Ex.refl _ _ _⟩
        case round =>
          obtain ⟨c, m, rfl, rfl, hcm, hmk, HC, hexi⟩ := hrel
          have hszi := hexi.size
          by_cases hlm : m < k
          · have hlI : (m : Int) < (k : Int) := by omega
            obtain ⟨bl, ol, s, ls, ps, hrl, _, hls, hrs, HS⟩ := st_get (HSL.out wr ((H3.out.2.trans HOE.out hz3 (by simp)).trans hexi (by omega) (by simp))) m (by rw [← HKL.out]; exact hlm)
            have hq1 := ExW.st_at hrs
            have hq2 := ExW.st_at (rangeAt_keep HRT.out (hexi.block b hbl (by simp)))
            have hlt2 : Lies (fun b => w2.heap.size ≤ b) wr (t, lt, pt) := HLT.out.keep fun b _ hb => hexi.block b hb (by simp)
            have h2s := HLI.out.get HS.out
            have hsame := fun p0 : ExW wr => same_any (s, ls, ps) (t, lt, pt) p0.w' (p0.lies hls) (p0.lies hlt2) (by simp only; omega) (by simp only; omega)
            have hroz := HRO.out
            clear hls hrs hlt2 h2s
            subst hrl
            subst hroz
            by_cases he : s = t
            · have hss : sameS s t = true := sameS_iff.2 he
              have HC2 : Hid (0 < c + 1 ↔ t ∈ l.take (m + 1)) := Lib.hid (by rw [List.take_add_one, HS.out, he]; simp)
              simp only [hss] at hsame
              clear he hss
              have HSM := Lib.hid hsame
              clear hsame
              go_wp2_with fail
              refine wp_region_quiet_ex (by kernel_rfl) (by kernel_rfl) ?_
              repeat (quiet_step ((go_at_call 25; refine calls_ex_of (HSM.out _))))
              refine wpQuiet_nil ?_
              intro _ hw'
              obtain ⟨p9, hw''⟩ := hw'
              subst hw''
              clear hq1 hq2
              generalize hwz : p9.w' = wz
              have hexz : Ex wr.heap.size none wr wz := by rw [← hwz]; exact p9.ex
              clear hwz
              go_wp2
              go_roundw
              case rel => exact ⟨c + 1, m + 1, by go_num, by go_num, by omega, by omega, HC2, hexi.trans hexz hszi (by simp)⟩
              case measure => simp [intOf] <;> omega
            · have hss : sameS s t = false := by rw [Bool.eq_false_iff]; intro h; exact he (sameS_iff.1 h)
              have HC2 : Hid (0 < c ↔ t ∈ l.take (m + 1)) := Lib.hid (by rw [List.take_add_one, HS.out, HC.out]; simp; exact fun h => absurd h.symm he)
              simp only [hss] at hsame
              clear he hss
              have HSM := Lib.hid hsame
              clear hsame
              go_wp2_with fail
              refine wp_region_quiet_ex (by kernel_rfl) (by kernel_rfl) ?_
              repeat (quiet_step ((go_at_call 25; refine calls_ex_of (HSM.out _))))
              refine wpQuiet_nil ?_
              intro _ hw'
              obtain ⟨p9, hw''⟩ := hw'
              subst hw''
              clear hq1 hq2
              generalize hwz : p9.w' = wz
              have hexz : Ex wr.heap.size none wr wz := by rw [← hwz]; exact p9.ex
              clear hwz
              go_wp2
              go_roundw
              case rel => exact ⟨c, m + 1, by go_num, by go_num, by omega, by omega, HC2, hexi.trans hexz hszi (by simp)⟩
              case measure => simp [intOf] <;> omega
          · have hlI : ¬ (m : Int) < (k : Int) := by omega
            have hmk2 : m = k := by omega
            have HC1 : Hid (0 < c) := Lib.hid (HC.out.2 (by rw [hmk2, HKL.out, List.take_length]; exact HTL.out))
            have hc1 : 0 < c := HC1.out
            have hc0 : ((c : Int) == 0) = false := by simp; omega
            have hc0n : (c == 0) = false := by simp; omega
            have HEI : Hid (Ex w3.heap.size none w3 wr) := Lib.hid (HOE.out.trans hexi (by omega) (by simp))
            clear hlm hmk2 hc1
            by_cases hj0 : 0 < j
            · have hj0I : (0 : Int) < (j : Int) := by omega
              obtain ⟨i, hij⟩ : ∃ i, i + 1 = j := ⟨j - 1, by omega⟩
              have hw1 : IntKind.i64.wrap ((j : Int) - 1) = (i : Int) := by rw [show (j : Int) - 1 = i by omega]; exact IntWalk.i64_in _ (by omega)
              have hik : (i : Int) < (k : Int) := by omega
              obtain ⟨b', off', s, ls, ps, hro', _, _, hrs, HS⟩ := st_get (HSO.out wr HEI.out) i (by rw [← HKO.out]; omega)
              have hroz := HRO.out
              rw [hroz] at hro'
              obtain ⟨rfl, rfl⟩ : b = b' ∧ off = off' := by cases hro'; exact ⟨rfl, rfl⟩
              have HB := Lib.hid (beforeB_no (rises_get (by rw [HO.out]; exact order_rises l) (show i < j by omega) HS.out HT.out))
              have hq1 := fun p0 : ExW wr => ExW.st_at hrs p0
              have hq2 := fun p0 : ExW wr => ExW.st_at (rangeAt_keep HRT.out (hexi.block b hbl (by simp))) p0
              simp only [Sv.v] at hq1 hq2
              have hd1 : decide (t.time < s.time) = false := decide_eq_false (by have := HB.out.1; omega)
              clear hro' hrs
              subst hroz
              by_cases he : s.time = t.time
              · have hed : (s.time == t.time) = true := by simp [he]
                have hd2 : decide (t.author < s.author) = false := decide_eq_false (by have := HB.out.2 he; omega)
                clear he
                go_wp2_with fail
                refine wp_region_quiet_ex (by kernel_rfl) (by kernel_rfl) ?_
                repeat (go_big_quiet_step ((fail)))
                refine wpQuiet_nil ?_
                intro _ hw'
                obtain ⟨p9, hw''⟩ := hw'
                subst hw''
                clear hq1 hq2
                generalize hwz : p9.w' = wz
                have hexz : Ex wr.heap.size none wr wz := by rw [← hwz]; exact p9.ex
                clear hwz
                go_wp2
                go_roundw
                case rel => exact ⟨j + 1, by go_num, by omega, HEI.out.trans hexz (by omega) (by simp)⟩
                case measure => simp [intOf] <;> omega
              · have hed : (s.time == t.time) = false := by simp [he]
                clear he
                go_wp2_with fail
                refine wp_region_quiet_ex (by kernel_rfl) (by kernel_rfl) ?_
                repeat (go_big_quiet_step ((fail)))
                refine wpQuiet_nil ?_
                intro _ hw'
                obtain ⟨p9, hw''⟩ := hw'
                subst hw''
                clear hq1 hq2
                generalize hwz : p9.w' = wz
                have hexz : Ex wr.heap.size none wr wz := by rw [← hwz]; exact p9.ex
                clear hwz
                go_wp2
                go_roundw
                case rel => exact ⟨j + 1, by go_num, by omega, HEI.out.trans hexz (by omega) (by simp)⟩
                case measure => simp [intOf] <;> omega
            · have hj0d : decide ((0 : Int) < (j : Int)) = false := decide_eq_false (by omega)
              have hj0e : decide (0 < j) = false := decide_eq_false hj0
              clear hj0
              go_wp2_with fail
              refine wp_region_quiet_ex (by kernel_rfl) (by kernel_rfl) ?_
              repeat (go_big_quiet_step ((fail)))
              refine wpQuiet_nil ?_
              intro _ hw'
              obtain ⟨p9, hw''⟩ := hw'
              subst hw''
              generalize hwz : p9.w' = wz
              have hexz : Ex wr.heap.size none wr wz := by rw [← hwz]; exact p9.ex
              clear hwz
              go_wp2
              go_roundw
              case rel => exact ⟨j + 1, by go_num, by omega, HEI.out.trans hexz (by omega) (by simp)⟩
              case measure => simp [intOf] <;> omega
      · have hjI : ¬ (j : Int) < (k : Int) := by omega
        have HEI : Hid (Ex w3.heap.size none w3 wo) := Lib.hid hex
        have HW : ∀ p0 : ExW wo, Ex w2.heap.size none w2 p0.w' := fun p0 => (H3.out.2.trans HEI.out hz3 (by simp)).trans p0.ex (by omega) (by simp)
        have HLC : Hid (∀ p0 : ExW wo, Calls Try.prog 17 #[.slice ro k rc] p0.w' fun e w' => e = .returned (.int .i64 (latestI l)) ∧ Ex p0.w'.heap.size none p0.w' w') := Lib.hid (fun p0 => latest_any (.slice ro k rc) l _ ⟨ro, rc, by rw [HKL.out], HSL.out _ (HW p0)⟩ (by have := HKL.out; omega))
        clear hex
        by_cases hk0 : k = 0
        · have hk0d : ((k : Int) == 0) = true := by simp [hk0]
          have hk0e : (k == 0) = true := by simp [hk0]
          clear hk0
          go_wp2_with fail
          refine wp_region_quiet_ex (by kernel_rfl) (by kernel_rfl) ?_
          repeat (go_big_quiet_step ((first
            | (go_at_call 7; refine calls_ex_of (awake09_any _))
            | (go_at_call 17; refine calls_ex_of (HLC.out _))
            | fail)))
          refine wpQuiet_nil ?_
          intro _ hw'
          obtain ⟨p9, hw''⟩ := hw'
          subst hw''
          go_wp2
          go_ret
          exact ⟨rfl, ((H2.out.2.2.2.trans H3.out.2 hz2 (by simp)).trans (HEI.out.trans p9.ex (by omega) (by simp)) (by omega) (by simp)).below⟩
        · have hk0d : ((k : Int) == 0) = false := by simp [hk0]
          have hk0e : (k == 0) = false := by simp [hk0]
          obtain ⟨i, hik⟩ : ∃ i, i + 1 = k := ⟨k - 1, by omega⟩
          have hw1 : IntKind.i64.wrap ((k : Int) - 1) = (i : Int) := by rw [show (k : Int) - 1 = i by omega]; exact IntWalk.i64_in _ (by omega)
          have hikI : (i : Int) < (k : Int) := by omega
          obtain ⟨b', off', s, ls, ps, hro', _, _, hrs, HS⟩ := st_get (HSO.out wo HEI.out) i (by rw [← HKO.out]; omega)
          have hq1 := fun p0 : ExW wo => ExW.st_at hrs p0
          simp only [Sv.v] at hq1
          have hlast : latestI l = s.time := order_last (by rw [hik]; exact HKL.out) (by rw [← HO.out]; exact HS.out)
          rw [hlast] at HLC
          clear hk0 hrs hlast
          subst hro'
          go_wp2_with fail
          refine wp_region_quiet_ex (by kernel_rfl) (by kernel_rfl) ?_
          repeat (go_big_quiet_step ((first
            | (go_at_call 7; refine calls_ex_of (awake09_any _))
            | (go_at_call 17; refine calls_ex_of (HLC.out _))
            | fail)))
          refine wpQuiet_nil ?_
          intro _ hw'
          obtain ⟨p9, hw''⟩ := hw'
          subst hw''
          go_wp2
          go_ret
          exact ⟨rfl, ((H2.out.2.2.2.trans H3.out.2 hz2 (by simp)).trans (HEI.out.trans p9.ex (by omega) (by simp)) (by omega) (by simp)).below⟩
  · have hmI : ¬ (L.length : Int) ≤ 400 := by omega
    have hmd : decide ((L.length : Int) ≤ 400) = false := decide_eq_false hmI
    clear hmI
    go_enter Try.func5, Try.ntmps5
    go_wp2_with (first
      | (go_at_call 19; refine (madeLight_any _ _ _ _).mono ?_; rintro e w' ⟨rfl, rfl⟩)
      | (go_at_call 7; refine (awake09_any _).mono ?_; rintro e w1 ⟨rfl, hex⟩))
    go_ret
    exact ⟨rfl, hex.below⟩
end Go.Proofs.Ytdmchekkcmjafaa
