/- QuotaParts: the walk of the law. -/
import Derived.Test.YtgimodjkoincgaaQuotaFitsWalk
namespace Go.Proofs.Ytgimodjkoincgaa
open Go.RowKit

def modTo (xs : List Int) (k : Nat) : List Int := (xs.take k).map (modI · 30)
theorem modTo_len (xs : List Int) (k : Nat) : (modTo xs k).length ≤ k := by simp [modTo]; omega
theorem modTo_mem (xs : List Int) (k : Nat) : ∀ x ∈ modTo xs k, 0 ≤ x ∧ x < 64 := by
  intro x hx
  obtain ⟨y, _, rfl⟩ := List.mem_map.1 hx
  have := modI_bd (n := y) (show (1 : Int) ≤ 30 by omega); omega
theorem mod_take (xs : List Int) (k : Nat) (h : k < xs.length) {y : Int} (hy : xs.getD k 0 = y) : modTo xs (k + 1) = modTo xs k ++ [modI y 30] := by
  unfold modTo
  rw [take_snoc xs k h, List.map_append, hy]; rfl

set_option maxHeartbeats 2000000 in
theorem quotaParts_walk (u v : Value) (a b : Int) (od l : List Int) (w : World) (fo : Ints w u od) (fl : Ints w v l) (mo : od.length ≤ 9223372036854775807) (ml : l.length ≤ 9223372036854775807) (ha : 0 ≤ a ∧ a ≤ 255) (hb : 0 ≤ b ∧ b ≤ 255) :
    Calls Try.prog 3 #[u, v, .int .u8 a, .int .u8 b] w fun e w' => e = .returned (.bool true) ∧ Below w.heap.size w w' := by
  have fl0 := fl
  obtain ⟨ao, cap, rfl, hx⟩ := fl
  obtain ⟨bo, cbp, rfl, hod⟩ := fo
  clear hx
  obtain ⟨a1, a2⟩ := ha
  obtain ⟨b1, b2⟩ := hb
  by_cases h1 : (l.length : Int) ≤ 400
  · by_cases h2 : 100 < (od.length : Int)
    · go_enter Try.func3, Try.ntmps3
      go_wp2_with fail
      refine (light_any _ _ _ _).mono ?_
      rintro e w' ⟨rfl, rfl⟩
      go_wp2_with fail
      refine (awake_any _).mono ?_
      rintro e w1 ⟨rfl, hex⟩
      go_wp2_with fail
      go_ret
      exact ⟨rfl, hex.below⟩
    have hA := Ex.refl w.heap.size none w
    go_enter Try.func3, Try.ntmps3
    go_wp2_with fail
    refine (light_any _ _ _ _).mono ?_
    rintro e w' ⟨rfl, rfl⟩
    go_wp2_with fail
    refine (roll_any _ _ _ fl0 (by omega)).mono ?_
    rintro e w1 ⟨p, rfl, hd, hp1, hp2, hex1⟩
    have hE1 : Ex w.heap.size none w w1 := (Ex.weaken (by repeat (first | exact Ex.refl _ _ _ | refine Ex.alloc ?_ (by simp <;> omega) _ | refine Ex.drewN ?_ | refine Ex.drew ?_)) _).trans hex1 (by simp <;> omega) (by simp)
    have hS1 := hE1.size
    clear fl0
    replace hA := hA.trans hE1 (by omega) (by simp)
    clear hex1 hE1
    go_wp2_with fail
    obtain ⟨wi, rfl⟩ : ∃ wi : World, wi = w1 := ⟨_, rfl⟩
    go_loopw [10, 11] (fun v i wr => ∃ (k : Nat) (ro : Option Addr) (rc : Nat), k ≤ od.length ∧ i = .int .i64 k ∧ v = .slice ro (modTo od k).length rc ∧ OwnI wr wi.heap.size ro rc (modTo od k) ∧ Ex wi.heap.size none wi wr) (fun _ i _ => od.length - (intOf i).toNat)
    case atStart => exact ⟨0, none, 0, by omega, rfl, rfl, OwnI.nil _ _, Ex.refl _ _ _⟩
    case round =>
      obtain ⟨k, ro, rc, hk, rfl, rfl, hown, hex⟩ := hrel
      have hsz := hex.size
      have hle := modTo_len od k
      by_cases hlt : k < od.length
      · obtain ⟨b', off, y, rfl, hck0, HY⟩ := hod.get k hlt
        have hbl : b' < w.heap.size := World.block_lt_of_cell? w _ hck0
        have hck : wr.cell? ⟨b', off + k, none⟩ = some (.int .i64 y) := by
          rw [← hck0]
          exact ((hA.trans hex hS1 (by simp)).below).cell (p := ⟨b', off + k, none⟩) hbl
        clear hck0
        have HK := Lib.hid (mod_take od k hlt HY.out)
        go_wp2_with (first
          | (go_at_call 10; refine (millMod_any _ _ _ (by omega)).mono ?_; rintro e w' ⟨rfl, rfl⟩)
          | (at_builtin; refine wpList_appI rfl _ _ _ rfl Try.underlying22 Try.infoInt wi.heap.size ro rc _ wr.heap.size (modI y 30) rfl rfl hown (Ex.new _ _) (by go_simp) (by omega) hsz ?_; intro ro' rc' w1 hown1 hex1))
        go_roundw
        case rel => exact ⟨k + 1, ro', rc', by omega, by go_num, by rw [HK.out, List.length_append]; rfl, by rw [HK.out]; exact hown1, hex.trans hex1 (Nat.le_refl _) (by simp)⟩
        case measure => simp [intOf]; omega
      · obtain rfl : k = od.length := by omega
        have hl := modTo_len od od.length
        clear hle
        have hy' : Hid (∀ e ∈ modTo od od.length, 0 ≤ e ∧ e < 64) := modTo_mem od od.length
        have fo : IntsO p wr (.slice ro (modTo od od.length).length rc) (modTo od od.length) := hown.o (by omega)
        replace hA := hA.trans hex hS1 (by simp)
        replace hd := hd.keep hex (by omega)
        clear hown hod
        generalize modTo od od.length = o at *
        obtain ⟨r, hR⟩ : ∃ r, r = keysD l 12 := ⟨_, rfl⟩
        have lr : (r.1.length : Int) ≤ 12 := by rw [hR]; exact keysD_le (by omega)
        have HR := Lib.hid hR
        clear hR

        clear hex
        have hrp : p + 1 ≤ wr.heap.size := by omega
        go_wp2_with fail
        refine (keys_any _ _ _ 12 _ hd (by omega) (by omega) (by omega)).mono ?_
        rintro e w11 ⟨ro1, rc1, rfl, hown, hd2, hex11⟩
        have hE11 : Ex wr.heap.size (some p) wr w11 := (Ex.weaken (by repeat (first | exact Ex.refl _ _ _ | refine Ex.alloc ?_ (by simp <;> omega) _ | refine Ex.drewN ?_ | refine Ex.drew ?_)) _).trans hex11 (by simp <;> omega) (by simp)
        have hS11 := hE11.size
        replace fo := fo.keep hE11 (Nat.le_refl _) (by simp)
        clear hd
        replace hA := hA.trans hE11 (by omega) (fun q e _ => by cases e; omega)
        rw [← HR.out] at hown
        have f1 := hown.o (p := p) (by omega)
        clear hown hd2
        clear hex11 hE11
        rw [← HR.out]
        have hm0 : (0 : Int) ≤ a % 6 := by omega
        have hn0 : (0 : Int) ≤ b % 6 := by omega
        have lx := newc_le o r.1 (a % 6)
        have ly := newc_le o (joinI r.1 (newc o r.1 (a % 6))) (b % 6)
        have lz := newc_le o r.1 (a % 6 + b % 6)
        have HP : Hid (newc o r.1 (a % 6) ++ newc o (joinI r.1 (newc o r.1 (a % 6))) (b % 6) = newc o r.1 (a % 6 + b % 6)) := newc_parts hm0 hn0 hy'.out
        have HF : Hid (fitsI r.1 (joinI r.1 (newc o r.1 (a % 6 + b % 6))) (a % 6 + b % 6) = true) := fits_join (by omega)
        have lj1 := joinI_le r.1 (newc o r.1 (a % 6))
        have lj2 := joinI_le r.1 (newc o r.1 (a % 6 + b % 6))
        go_wp2_with fail
        refine (newcomers_any _ _ _ _ _ _ fo.v f1.v (by omega) (by omega)).mono ?_
        rintro e w12 ⟨ro2, rc2, rfl, hown, hex12⟩
        have hE12 : Ex w11.heap.size none w11 w12 := (Ex.weaken (by repeat (first | exact Ex.refl _ _ _ | refine Ex.alloc ?_ (by simp <;> omega) _ | refine Ex.drewN ?_ | refine Ex.drew ?_)) _).trans hex12 (by simp <;> omega) (by simp)
        have hS12 := hE12.size
        replace fo := fo.keep hE12 (Nat.le_refl _) (by simp)
        replace f1 := f1.keep hE12 (Nat.le_refl _) (by simp)
        replace hA := hA.trans hE12 (by omega) (by simp)
        have f2 := hown.o (p := p) (by omega)
        clear hown
        clear hex12 hE12
        go_wp2_with fail
        refine (join_any _ _ _ _ _ f1.v f2.v (by omega) (by omega)).mono ?_
        rintro e w13 ⟨ro3, rc3, rfl, hown, hex13⟩
        have hE13 : Ex w12.heap.size none w12 w13 := (Ex.weaken (by repeat (first | exact Ex.refl _ _ _ | refine Ex.alloc ?_ (by simp <;> omega) _ | refine Ex.drewN ?_ | refine Ex.drew ?_)) _).trans hex13 (by simp <;> omega) (by simp)
        have hS13 := hE13.size
        replace fo := fo.keep hE13 (Nat.le_refl _) (by simp)
        replace f1 := f1.keep hE13 (Nat.le_refl _) (by simp)
        replace f2 := f2.keep hE13 (Nat.le_refl _) (by simp)
        replace hA := hA.trans hE13 (by omega) (by simp)
        have f3 := hown.o (p := p) (by omega)
        clear hown
        clear hex13 hE13
        go_wp2_with fail
        refine (newcomers_any _ _ _ _ _ _ fo.v f3.v (by omega) (by omega)).mono ?_
        rintro e w14 ⟨ro4, rc4, rfl, hown, hex14⟩
        have hE14 : Ex w13.heap.size none w13 w14 := (Ex.weaken (by repeat (first | exact Ex.refl _ _ _ | refine Ex.alloc ?_ (by simp <;> omega) _ | refine Ex.drewN ?_ | refine Ex.drew ?_)) _).trans hex14 (by simp <;> omega) (by simp)
        have hS14 := hE14.size
        replace fo := fo.keep hE14 (Nat.le_refl _) (by simp)
        replace f1 := f1.keep hE14 (Nat.le_refl _) (by simp)
        replace f2 := f2.keep hE14 (Nat.le_refl _) (by simp)
        replace f3 := f3.keep hE14 (Nat.le_refl _) (by simp)
        replace hA := hA.trans hE14 (by omega) (by simp)
        have f4 := hown.o (p := p) (by omega)
        clear hown
        clear hex14 hE14
        go_wp2_with fail
        refine (newcomers_any _ _ _ _ _ _ fo.v f1.v (by omega) (by omega)).mono ?_
        rintro e w15 ⟨ro5, rc5, rfl, hown, hex15⟩
        have hE15 : Ex w14.heap.size none w14 w15 := (Ex.weaken (by repeat (first | exact Ex.refl _ _ _ | refine Ex.alloc ?_ (by simp <;> omega) _ | refine Ex.drewN ?_ | refine Ex.drew ?_)) _).trans hex15 (by simp <;> omega) (by simp)
        have hS15 := hE15.size
        replace fo := fo.keep hE15 (Nat.le_refl _) (by simp)
        replace f1 := f1.keep hE15 (Nat.le_refl _) (by simp)
        replace f2 := f2.keep hE15 (Nat.le_refl _) (by simp)
        replace f3 := f3.keep hE15 (Nat.le_refl _) (by simp)
        replace f4 := f4.keep hE15 (Nat.le_refl _) (by simp)
        replace hA := hA.trans hE15 (by omega) (by simp)
        have f5 := hown.o (p := p) (by omega)
        clear hown
        clear hex15 hE15
        go_wp2_with (first
          | (at_builtin; refine wpList_appIs (w0 := w15.alloc (.cells #[] 3)) rfl (.tmp 67) (.tmp 68) _ rfl Try.underlying22 Try.infoInt w15.heap.size (some ⟨w15.heap.size, 0, none⟩) 0 [] _ _ _ 0 rfl rfl rfl rfl (f2.keep (Ex.new _ _) (Nat.le_refl _) (by simp)).v (OwnI.empty _ (Nat.le_refl _)) (Ex.refl _ _ _) (by simp; omega) (by simp) ?_; intro so1 sc1 wa hown1 hea; have hex1 := (Ex.new w15 (.cells #[] 3)).trans hea (Nat.le_refl _) (by simp); have hsa := hex1.size)
          | (at_builtin; refine wpList_appIs (w0 := wa) rfl (.tmp 69) (.tmp 70) _ rfl Try.underlying22 Try.infoInt w15.heap.size so1 sc1 _ _ _ _ _ (by simp) rfl rfl rfl (f4.keep hex1 (Nat.le_refl _) (by simp)).v hown1 (Ex.refl _ _ _) (by simp; omega) hsa ?_; intro so2 sc2 wb hown2 heb))
        have heB := hex1.trans heb (Nat.le_refl _) (by simp)
        have hsb := heB.size
        replace f1 := f1.keep heB (Nat.le_refl _) (by simp)
        replace f5 := f5.keep heB (Nat.le_refl _) (by simp)
        replace hA := hA.trans heB (by omega) (by simp)
        have fs : Ints wb (.slice so2 ((newc o r.1 (a % 6)).length + (newc o (joinI r.1 (newc o r.1 (a % 6))) (b % 6)).length) sc2) (newc o r.1 (a % 6) ++ newc o (joinI r.1 (newc o r.1 (a % 6))) (b % 6)) := by have h := hown2.v; simpa using h
        clear hown1 hea hex1 hown2 heb heB hsa fo f2 f3 f4
        refine (asB (sameInts_any _ _ _ _ _ fs f5.v (by rw [List.length_append]; omega)) (b := true) (by rw [HP.out]; simp)).mono ?_
        rintro e w16 ⟨rfl, hex16⟩
        have hE16 : Ex wb.heap.size none wb w16 := (Ex.weaken (by repeat (first | exact Ex.refl _ _ _ | refine Ex.alloc ?_ (by simp <;> omega) _ | refine Ex.drewN ?_ | refine Ex.drew ?_)) _).trans hex16 (by simp <;> omega) (by simp)
        have hS16 := hE16.size
        clear fs
        replace f1 := f1.keep hE16 (Nat.le_refl _) (by simp)
        replace f5 := f5.keep hE16 (Nat.le_refl _) (by simp)
        replace hA := hA.trans hE16 (by omega) (by simp)
        clear hex16 hE16
        go_wp2_with fail
        refine (join_any _ _ _ _ _ f1.v f5.v (by omega) (by omega)).mono ?_
        rintro e w17 ⟨ro6, rc6, rfl, hown, hex17⟩
        have hE17 : Ex w16.heap.size none w16 w17 := (Ex.weaken (by repeat (first | exact Ex.refl _ _ _ | refine Ex.alloc ?_ (by simp <;> omega) _ | refine Ex.drewN ?_ | refine Ex.drew ?_)) _).trans hex17 (by simp <;> omega) (by simp)
        have hS17 := hE17.size
        replace f1 := f1.keep hE17 (Nat.le_refl _) (by simp)
        replace f5 := f5.keep hE17 (Nat.le_refl _) (by simp)
        replace hA := hA.trans hE17 (by omega) (by simp)
        have f6 := hown.o (p := p) (by omega)
        clear hown
        clear hex17 hE17
        go_wp2_with fail
        refine (asB (fits_any _ _ _ _ _ _ f1.v f6.v (by omega) (by omega)) (b := true) HF.out).mono ?_
        rintro e w18 ⟨rfl, hex18⟩
        have hE18 : Ex w17.heap.size none w17 w18 := (Ex.weaken (by repeat (first | exact Ex.refl _ _ _ | refine Ex.alloc ?_ (by simp <;> omega) _ | refine Ex.drewN ?_ | refine Ex.drew ?_)) _).trans hex18 (by simp <;> omega) (by simp)
        have hS18 := hE18.size
        replace f1 := f1.keep hE18 (Nat.le_refl _) (by simp)
        replace f5 := f5.keep hE18 (Nat.le_refl _) (by simp)
        replace f6 := f6.keep hE18 (Nat.le_refl _) (by simp)
        replace hA := hA.trans hE18 (by omega) (by simp)
        clear hex18 hE18
        go_wp2_with fail
        refine (awake_any _).mono ?_
        rintro e w19 ⟨rfl, hex19⟩
        have hE19 : Ex w18.heap.size none w18 w19 := (Ex.weaken (by repeat (first | exact Ex.refl _ _ _ | refine Ex.alloc ?_ (by simp <;> omega) _ | refine Ex.drewN ?_ | refine Ex.drew ?_)) _).trans hex19 (by simp <;> omega) (by simp)
        have hS19 := hE19.size
        replace f1 := f1.keep hE19 (Nat.le_refl _) (by simp)
        replace f5 := f5.keep hE19 (Nat.le_refl _) (by simp)
        replace f6 := f6.keep hE19 (Nat.le_refl _) (by simp)
        replace hA := hA.trans hE19 (by omega) (by simp)
        clear hex19 hE19
        go_wp2_with fail
        go_ret
        exact ⟨rfl, hA.below⟩
  · go_enter Try.func3, Try.ntmps3
    go_wp2_with fail
    refine (asB (light_any _ _ _ _) (b := false) (by simp; omega)).mono ?_
    rintro e w' ⟨rfl, rfl⟩
    go_wp2_with fail
    refine (awake_any _).mono ?_
    rintro e w1 ⟨rfl, hex⟩
    go_wp2_with fail
    go_ret
    exact ⟨rfl, hex.below⟩
end Go.Proofs.Ytgimodjkoincgaa
