/- QuotaGrows: the walk of the law. -/
import Derived.Test.YtgimodjkoincgaaQuotaGrowsLoop
namespace Go.Proofs.Ytgimodjkoincgaa
open Go.RowKit

set_option maxHeartbeats 8000000 in
set_option maxRecDepth 100000 in
theorem quotaGrows_walk (v : Value) (b : Int) (l : List Int) (w : World) (fl : Ints w v l) (ml : l.length ≤ 9223372036854775807) (hb : 0 ≤ b ∧ b ≤ 255) :
    Calls Try.prog 6 #[v, .int .u8 b] w fun e w' => e = .returned (.bool true) ∧ Below w.heap.size w w' := by
  have fl0 := fl
  obtain ⟨ao, cap, rfl, hx⟩ := fl
  clear hx
  obtain ⟨b1, b2⟩ := hb
  by_cases h1 : (l.length : Int) ≤ 400
  · have hA := Ex.refl w.heap.size none w
    obtain ⟨g, hG⟩ : ∃ g, g = keysD l 6 := ⟨_, rfl⟩
    obtain ⟨ks, hK⟩ : ∃ ks, ks = someTo g.2 30 := ⟨_, rfl⟩
    have lg : (g.1.length : Int) ≤ 6 := by rw [hG]; exact keysD_le (by omega)
    have lk : ks.1.length ≤ 30 := by rw [hK]; exact someTo_le _ _
    have HKn : Hid (ks.1.Nodup) := by rw [hK]; exact someTo_nodup _ _
    have HG0 : Hid (Held g.1 ks.1 g.1 0 (b % 5)) := Held.start (by omega) (fun x hx => by rw [hG] at hx; have := keysD_mem (by omega) hx; omega)
    have HG := Lib.hid hG
    have HK := Lib.hid hK
    clear hG hK
    go_enter Try.func6, Try.ntmps6
    go_wp2_with fail
    refine (light_any _ _ _ _).mono ?_
    rintro e w' ⟨rfl, rfl⟩
    go_wp2_with fail
    refine (roll_any _ _ _ fl0 (by omega)).mono ?_
    rintro e w1 ⟨p, rfl, hd, hp1, hp2, hex1⟩
    have hE1 : Ex w.heap.size none w w1 := (Ex.weaken (by repeat (first | exact Ex.refl _ _ _ | refine Ex.alloc ?_ (by simp <;> omega) _ | refine Ex.drewN ?_ | refine Ex.drew ?_)) _).trans hex1 (by simp <;> omega) (by simp)
    have hS1 := hE1.size
    clear fl0
    replace hA := hA.trans hE1 (by omega) (by simp)
    clear hex1 hE1
    go_wp2_with fail
    refine (keys_any _ _ _ 6 _ hd (by omega) (by omega) (by omega)).mono ?_
    rintro e w2 ⟨ro1, rc1, rfl, hown, hd2, hex2⟩
    have hE2 : Ex w1.heap.size (some p) w1 w2 := (Ex.weaken (by repeat (first | exact Ex.refl _ _ _ | refine Ex.alloc ?_ (by simp <;> omega) _ | refine Ex.drewN ?_ | refine Ex.drew ?_)) _).trans hex2 (by simp <;> omega) (by simp)
    have hS2 := hE2.size
    clear hd
    replace hA := hA.trans hE2 (by omega) (fun q e _ => by cases e; omega)
    rw [← HG.out] at hown hd2
    have fg := hown.o (p := p) (by omega)
    clear hown
    have hd := hd2
    clear hd2
    clear hex2 hE2
    rw [← HG.out]
    go_wp2_with fail
    refine (some_any _ _ _ 30 _ hd (by omega) (by omega) (by omega)).mono ?_
    rintro e w3 ⟨ro2, rc2, rfl, hown, hd2, hex3⟩
    have hE3 : Ex w2.heap.size (some p) w2 w3 := (Ex.weaken (by repeat (first | exact Ex.refl _ _ _ | refine Ex.alloc ?_ (by simp <;> omega) _ | refine Ex.drewN ?_ | refine Ex.drew ?_)) _).trans hex3 (by simp <;> omega) (by simp)
    have hS3 := hE3.size
    replace fg := fg.keep hE3 (Nat.le_refl _) (by simp)
    clear hd
    replace hA := hA.trans hE3 (by omega) (fun q e _ => by cases e; omega)
    simp only [show (30 : Int).toNat = 30 from rfl] at hown hd2 ⊢
    rw [← HK.out] at hown hd2
    have fk := hown.o (p := p) (by omega)
    clear hown
    have hd := hd2
    clear hd2
    clear hex3 hE3
    rw [← HK.out]
    go_wp2_with fail
    have hn0 : (0 : Int) ≤ b % 5 := by omega
    have hn1 : b % 5 ≤ 4 := by omega
    obtain ⟨n, HN⟩ : ∃ n, n = b % 5 := ⟨_, rfl⟩
    rw [← HN] at hn0 hn1 HG0 ⊢
    clear HN
    obtain ⟨wi, rfl⟩ : ∃ wi : World, wi = w3 := ⟨_, rfl⟩
    go_loopw [9, 10] (fun v i wr => ∃ (k : Nat) (ro : Option Addr) (rc : Nat) (ros d : List Int), k ≤ 8 ∧ i = .int .i64 k ∧ v = .slice ro ros.length rc ∧ IntsO p wr (.slice ro ros.length rc) ros ∧ Held g.1 ks.1 ros k n ∧ DiceAt (p + 1) wr p d ∧ Ex wi.heap.size (some p) wi wr) (fun _ i _ => 8 - (intOf i).toNat)
    case atStart => exact ⟨0, ro1, rc1, g.1, ks.2, by omega, rfl, rfl, fg, HG0.out, hd, Ex.refl _ _ _⟩
    case round =>
      clear hd
      obtain ⟨k, ro, rc, ros, d, hk, rfl, rfl, fr, hheld, hd, hex⟩ := hrel
      obtain ⟨wo, rfl⟩ : ∃ wo : World, wo = wr := ⟨_, rfl⟩
      replace fg := fg.keep hex (Nat.le_refl _) (by simp)
      replace fk := fk.keep hex (Nat.le_refl _) (by simp)
      replace hA := hA.trans hex (by omega) (fun q e _ => by cases e; omega)
      have hsz := hex.size
      have HE := Lib.hid hex
      clear hex
      have HH := Lib.hid hheld
      clear hheld
      have lr := HH.out.1
      have tk := fun j => thereTo_le ros ks.1 j
      by_cases hlt : (k : Int) < 8
      · go_wp2
        go_loop [11, 12] (fun v i => ∃ (j : Nat), j ≤ ks.1.length ∧ i = .int .i64 j ∧ v = .int .i64 (thereTo ros ks.1 j)) (fun _ i => ks.1.length - (intOf i).toNat)
        case atStart => exact ⟨0, by omega, rfl, rfl⟩
        case round =>
          obtain ⟨j, hj, rfl, rfl⟩ := hrel
          have hle := tk j
          clear tk
          by_cases hjt : j < ks.1.length
          · obtain ⟨ko, kc, ke, hki, _⟩ := fk
            cases ke
            obtain ⟨b', off, y, rfl, hck, HY⟩ := hki.get j hjt
            by_cases h2 : hasI ros y = true
            · have HK2 := Lib.hid (thereTo_yes (g := ros) (ks := ks.1) (k := j) (by rw [HY.out]; exact h2))
              go_wp2_with (go_at_call 22; refine (refHas_any _ _ _ _ fr.v (by omega)).mono ?_; rintro e w' ⟨rfl, rfl⟩)
              go_round
              case rel => exact ⟨j + 1, by omega, by go_num, by rw [HK2.out]; go_num⟩
              case measure => simp [intOf]; omega
            · replace h2 : hasI ros y = false := by simpa using h2
              have HK2 := Lib.hid (thereTo_no (g := ros) (ks := ks.1) (k := j) (by rw [HY.out]; exact h2))
              go_wp2_with (go_at_call 22; refine (refHas_any _ _ _ _ fr.v (by omega)).mono ?_; rintro e w' ⟨rfl, rfl⟩)
              go_round
              case rel => exact ⟨j + 1, by omega, by go_num, by rw [HK2.out]⟩
              case measure => simp [intOf]; omega
          · obtain rfl : j = ks.1.length := by omega
            have hm := HH.out.most
            go_wp2_with (go_at_call 19; refine (most_any _ _ _ _ _ _ _ fg.v fk.v (by omega) (by omega) ⟨by omega, by omega⟩ ⟨by omega, by omega⟩).mono ?_; rintro e w' ⟨rfl, rfl⟩)
            clear hle hm hj hjt

            have hpo : p + 1 ≤ wo.heap.size := by omega
            obtain ⟨c1, c2⟩ := dVal_bd (d := d) (show (1 : Int) ≤ 9 by omega)
            refine (next_any _ p _ _ _ hd (by omega)).mono ?_
            rintro e w21 ⟨rfl, hd2, hex21⟩
            have hE21 : Ex wo.heap.size (some p) wo w21 := (Ex.weaken (by repeat (first | exact Ex.refl _ _ _ | refine Ex.alloc ?_ (by simp <;> omega) _ | refine Ex.drewN ?_ | refine Ex.drew ?_)) _).trans hex21 (by simp <;> omega) (by simp)
            have hS21 := hE21.size
            replace fr := fr.keep hE21 (Nat.le_refl _) (by simp)
            replace fg := fg.keep hE21 (Nat.le_refl _) (by simp)
            replace fk := fk.keep hE21 (Nat.le_refl _) (by simp)
            replace hA := hA.trans hE21 (by omega) (fun q e _ => by cases e; omega)
            have hEo := hE21
            clear hex21 hE21
            go_wp2_with fail
            obtain ⟨wn, rfl⟩ : ∃ wn : World, wn = w21 := ⟨_, rfl⟩
            go_loopw [13, 14] (fun v i wr => ∃ (m : Nat) (so : Option Addr) (sc : Nat) (od e : List Int), i = .int .i64 m ∧ od.length + m ≤ 8 ∧ v = .slice so od.length sc ∧ OwnI wr wn.heap.size so sc od ∧ DiceAt (p + 1) wr p e ∧ Ex wn.heap.size (some p) wn wr) (fun _ i _ => (intOf i).toNat)
            case atStart => exact ⟨(dVal d 9).toNat, none, 0, [], d.tail, by rw [Int.toNat_of_nonneg c1], by simp; omega, rfl, OwnI.nil _ _, hd2, Ex.refl _ _ _⟩
            case round =>
              clear hd hd2 c1 c2
              obtain ⟨m, so, sc, od, e, rfl, hom, rfl, hown, hd, hex⟩ := hrel
              have hszn := hex.size
              by_cases hm : (0 : Int) < m
              · obtain ⟨q, rfl⟩ : ∃ q, m = q + 1 := ⟨m - 1, by omega⟩
                go_wp2_with (first
                  | (go_at_call 23; refine (next_any _ p _ _ _ hd (by omega)).mono ?_; rintro e w2 ⟨rfl, hd2, hex2⟩; have hsz2 := hex2.size; have hown2 := hown.keep hex2 (Nat.le_refl _) (fun q e => by cases e; omega))
                  | (at_builtin; refine wpList_appI (w0 := w2) rfl _ _ _ rfl Try.underlying22 Try.infoInt wn.heap.size so sc _ w2.heap.size (dVal e 30) rfl rfl hown2 (Ex.new _ _) (by go_simp) (by omega) (by omega) ?_; intro so' sc' w3 hown3 hex3))
                go_roundw
                case rel => exact ⟨q, so', sc', od ++ [dVal e 30], e.tail, by go_num, by rw [List.length_append]; simp; omega, by rw [List.length_append]; rfl, hown3, hd2.keep hex3 (by omega), (hex.trans hex2 (by omega) (fun q e _ => by cases e; rfl)).trans hex3 (Nat.le_refl _) (by simp)⟩
                case measure => simp [intOf] <;> omega
              · obtain rfl : m = 0 := by omega
                replace fr := fr.keep hex (Nat.le_refl _) (by simp)
                replace fg := fg.keep hex (Nat.le_refl _) (by simp)
                replace fk := fk.keep hex (Nat.le_refl _) (by simp)
                replace hA := hA.trans hex (by omega) (fun q e _ => by cases e; omega)
                replace HE : Hid (Ex wi.heap.size (some p) wi wr) := (HE.out.trans (hEo.trans hex (by omega) (fun q e _ => by cases e; rfl)) (by omega) (fun q e _ => by cases e; rfl))
                have fo := hown.o (p := p) (by omega)
                clear hex hown

                have hpr : p + 1 ≤ wr.heap.size := by omega
                have lo : od.length ≤ 8 := by omega
                have ln := newc_le od ros n
                obtain ⟨s, HS⟩ : ∃ s, Hid (s = someTo e 3) := ⟨_, rfl⟩
                have ls : s.1.length ≤ 3 := by rw [HS.out]; exact someTo_le _ _
                have lm := minusI_le ros s.1
                have lj := joinI_le (minusI ros s.1) (newc od ros n)
                have hqn : ¬ n < ((newc od ros n).length : Int) := Int.not_lt.2 (newcTo_q od ros hn0 _)
                have HFn : Hid (fitsI ros (joinI (minusI ros s.1) (newc od ros n)) n = true) := fits_next hn0
                have HNx := Lib.hid (HH.out.next (od := od) (s := s.1) HKn.out hn0)
                go_wp2_with fail
                refine (newcomers_any _ _ _ _ _ _ fo.v fr.v (by omega) (by omega)).mono ?_
                rintro e w31 ⟨ro2', rc2', rfl, hown, hex31⟩
                have hE31 : Ex wr.heap.size none wr w31 := (Ex.weaken (by repeat (first | exact Ex.refl _ _ _ | refine Ex.alloc ?_ (by simp <;> omega) _ | refine Ex.drewN ?_ | refine Ex.drew ?_)) _).trans hex31 (by simp <;> omega) (by simp)
                have hS31 := hE31.size
                replace fr := fr.keep hE31 (Nat.le_refl _) (by simp)
                replace fg := fg.keep hE31 (Nat.le_refl _) (by simp)
                replace fk := fk.keep hE31 (Nat.le_refl _) (by simp)
                replace fo := fo.keep hE31 (Nat.le_refl _) (by simp)
                replace hd := hd.keep hE31 (by omega)
                replace hA := hA.trans hE31 (by omega) (by simp)
                replace HE : Hid (Ex wi.heap.size (some p) wi w31) := HE.out.trans hE31 (by omega) (by simp)
                have fm := hown.o (p := p) (by omega)
                have hcap := hown.cap
                clear hown
                clear hex31 hE31
                go_wp2_with fail
                refine (some_any _ _ _ 3 _ hd (by omega) (by omega) (by omega)).mono ?_
                rintro e w32 ⟨ro3, rc3, rfl, hown, hd2, hex32⟩
                have hE32 : Ex w31.heap.size (some p) w31 w32 := (Ex.weaken (by repeat (first | exact Ex.refl _ _ _ | refine Ex.alloc ?_ (by simp <;> omega) _ | refine Ex.drewN ?_ | refine Ex.drew ?_)) _).trans hex32 (by simp <;> omega) (by simp)
                have hS32 := hE32.size
                replace fr := fr.keep hE32 (Nat.le_refl _) (by simp)
                replace fg := fg.keep hE32 (Nat.le_refl _) (by simp)
                replace fk := fk.keep hE32 (Nat.le_refl _) (by simp)
                replace fo := fo.keep hE32 (Nat.le_refl _) (by simp)
                clear hd
                replace fm := fm.keep hE32 (Nat.le_refl _) (by simp)
                replace hA := hA.trans hE32 (by omega) (fun q e _ => by cases e; omega)
                replace HE : Hid (Ex wi.heap.size (some p) wi w32) := HE.out.trans hE32 (by omega) (fun q e _ => by cases e; rfl)
                simp only [show (3 : Int).toNat = 3 from rfl] at hown hd2 ⊢
                rw [← HS.out] at hown hd2
                have fs := hown.o (p := p) (by omega)
                clear hown
                have hd := hd2
                clear hd2
                clear hex32 hE32
                rw [← HS.out]
                go_wp2_with fail
                refine (minus_any _ _ _ _ _ fr.v fs.v (by omega) (by omega)).mono ?_
                rintro e w33 ⟨ro4, rc4, rfl, hown, hex33⟩
                have hE33 : Ex w32.heap.size none w32 w33 := (Ex.weaken (by repeat (first | exact Ex.refl _ _ _ | refine Ex.alloc ?_ (by simp <;> omega) _ | refine Ex.drewN ?_ | refine Ex.drew ?_)) _).trans hex33 (by simp <;> omega) (by simp)
                have hS33 := hE33.size
                replace fr := fr.keep hE33 (Nat.le_refl _) (by simp)
                replace fg := fg.keep hE33 (Nat.le_refl _) (by simp)
                replace fk := fk.keep hE33 (Nat.le_refl _) (by simp)
                replace fo := fo.keep hE33 (Nat.le_refl _) (by simp)
                replace fm := fm.keep hE33 (Nat.le_refl _) (by simp)
                replace fs := fs.keep hE33 (Nat.le_refl _) (by simp)
                replace hd := hd.keep hE33 (by omega)
                replace hA := hA.trans hE33 (by omega) (by simp)
                replace HE : Hid (Ex wi.heap.size (some p) wi w33) := HE.out.trans hE33 (by omega) (by simp)
                have fd := hown.o (p := p) (by omega)
                clear hown
                clear hex33 hE33
                go_wp2_with fail
                refine (join_any _ _ _ _ _ fd.v fm.v (by omega) (by omega)).mono ?_
                rintro e w34 ⟨ro5, rc5, rfl, hown, hex34⟩
                have hE34 : Ex w33.heap.size none w33 w34 := (Ex.weaken (by repeat (first | exact Ex.refl _ _ _ | refine Ex.alloc ?_ (by simp <;> omega) _ | refine Ex.drewN ?_ | refine Ex.drew ?_)) _).trans hex34 (by simp <;> omega) (by simp)
                have hS34 := hE34.size
                replace fr := fr.keep hE34 (Nat.le_refl _) (by simp)
                replace fg := fg.keep hE34 (Nat.le_refl _) (by simp)
                replace fk := fk.keep hE34 (Nat.le_refl _) (by simp)
                replace fo := fo.keep hE34 (Nat.le_refl _) (by simp)
                replace fm := fm.keep hE34 (Nat.le_refl _) (by simp)
                replace fs := fs.keep hE34 (Nat.le_refl _) (by simp)
                replace hd := hd.keep hE34 (by omega)
                replace fd := fd.keep hE34 (Nat.le_refl _) (by simp)
                replace hA := hA.trans hE34 (by omega) (by simp)
                replace HE : Hid (Ex wi.heap.size (some p) wi w34) := HE.out.trans hE34 (by omega) (by simp)
                have fn := hown.o (p := p) (by omega)
                clear hown
                clear hex34 hE34
                go_wp2_with fail
                refine (asB (fits_any _ _ _ _ _ _ fr.v fn.v (by omega) (by omega)) (b := true) HFn.out).mono ?_
                rintro e w35 ⟨rfl, hex35⟩
                have hE35 : Ex w34.heap.size none w34 w35 := (Ex.weaken (by repeat (first | exact Ex.refl _ _ _ | refine Ex.alloc ?_ (by simp <;> omega) _ | refine Ex.drewN ?_ | refine Ex.drew ?_)) _).trans hex35 (by simp <;> omega) (by simp)
                have hS35 := hE35.size
                replace fr := fr.keep hE35 (Nat.le_refl _) (by simp)
                replace fg := fg.keep hE35 (Nat.le_refl _) (by simp)
                replace fk := fk.keep hE35 (Nat.le_refl _) (by simp)
                replace fo := fo.keep hE35 (Nat.le_refl _) (by simp)
                replace fm := fm.keep hE35 (Nat.le_refl _) (by simp)
                replace fs := fs.keep hE35 (Nat.le_refl _) (by simp)
                replace hd := hd.keep hE35 (by omega)
                replace fd := fd.keep hE35 (Nat.le_refl _) (by simp)
                replace fn := fn.keep hE35 (Nat.le_refl _) (by simp)
                replace hA := hA.trans hE35 (by omega) (by simp)
                replace HE : Hid (Ex wi.heap.size (some p) wi w35) := HE.out.trans hE35 (by omega) (by simp)
                clear hex35 hE35
                have hqn2 : decide (n < ((newc od ros n).length : Int)) = false := decide_eq_false (Int.not_lt.2 hqn)
                go_wp2_with fail
                refine growsLoop_any _ _ _ _ _ _ _ _ _ _ _ _ _ _ _ _ _ _ _ _ _ _ _ _ _ _ _ _ _ _ _ _ _ _ _ _ _ _ _ _ _ _ _ _ _ _ _ _ _ _ _ _ _ _ _ _ _ _ _ _ _ _ _ _ _ _ _ _ _ _ _ _ _ _ _ _ _ _ _ _ _ _ _ _ _ _ _ _ _ _ _ _ _ _ _ _ _ _ _ _ _ _ _ _ _ _ _ _ _ _ _ _ _ _ _ _ _ _ _ _ _ _ _ _ _ _ _ _ _ _ _ _ _ _ _ _ _ _ _ _ _ _ _ _ _ _ _ _ _ od ros n _ _ _ _ _ _ _ fo.v.at' fm.v.at' fr.v.at' (by omega) (by omega) (by omega) hcap _ ?_
                intro _ _ _ _ _ _ _ _ _ _ _ _ _ _ _ _ _ _ _ _ _ _ _ _ _ _ _ _ _ _ _ _ _ _ _ _ _ _ _ _ _ _ _ _ _ _ _ _ wr2 hex2
                have fn1 := fn.keep hex2 (Nat.le_refl _) (by simp)
                have hd1 := hd.keep hex2 (by omega)
                have hA1 := hA.trans hex2 (by omega) (by simp)
                have HE1 : Hid (Ex wi.heap.size (some p) wi wr2) := HE.out.trans hex2 (by omega) (by simp)
                have hs2 := hex2.size
                clear hd hA HE hex2 fn fr fg fk fo fm fs fd
                by_cases hz : (((joinI (minusI ros s.1) (newc od ros n)).length : Int) == 0) = true
                · go_wp2_with (go_at_call 8; refine (awake_any _).mono ?_; rintro e wz ⟨rfl, hexz⟩)
                  go_ret
                  exact ⟨rfl, (hA1.trans hexz (by omega) (by simp)).below⟩
                · replace hz : (((joinI (minusI ros s.1) (newc od ros n)).length : Int) == 0) = false := Bool.eq_false_iff.2 hz
                  go_wp2_with fail
                  go_roundw
                  case rel => exact ⟨k + 1, ro5, rc5, _, s.2, by omega, by go_num, rfl, fn1, HNx.out, hd1, HE1.out⟩
                  case measure => simp [intOf] <;> omega

      · obtain rfl : k = 8 := by omega
        go_wp2_with (go_at_call 8; refine (awake_any _).mono ?_; rintro e wz ⟨rfl, hexz⟩)
        go_ret
        exact ⟨rfl, (hA.trans hexz (by omega) (by simp)).below⟩
  · go_enter Try.func6, Try.ntmps6
    go_wp2_with fail
    refine (asB (light_any _ _ _ _) (b := false) (by simp; omega)).mono ?_
    rintro e w' ⟨rfl, rfl⟩
    go_wp2_with fail
    refine (awake_any _).mono ?_
    rintro e w1 ⟨rfl, hex⟩
    go_wp2_with fail
    go_ret
    exact ⟨rfl, hex.below⟩
end Go.Proofs.Ytgimodjkoincgaa
