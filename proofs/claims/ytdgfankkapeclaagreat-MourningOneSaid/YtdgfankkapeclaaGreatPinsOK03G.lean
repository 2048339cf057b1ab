/- ref03.PinsOK: a contract, no statement of the seat. -/
import Derived.Test.YtdgfankkapeclaaGreatMg06
import Derived.BigQuiet
import Derived.IntWalk
namespace Go.Proofs.YtdgfankkapeclaaGreat
open Go.RowKit Go.Sort

/-- A pin of a slice: its cells. -/
theorem pin_get {P : Nat → Prop} {w : World} {ao : Option Addr} {xs : List PinD} (h : SlAt pinRep P w ao xs) (i : Nat) (hi : i < xs.length) : ∃ b off p, ao = some ⟨b, off, none⟩ ∧ P b ∧ b < w.heap.size ∧ w.cell? ⟨b, off + i * 3, none⟩ = some (.int .i64 p.1) ∧ w.cell? ⟨b, off + i * 3 + 1, none⟩ = some (.int .i64 p.2.1) ∧ w.cell? ⟨b, off + i * 3 + 2, none⟩ = some (.string p.2.2) ∧ Hid (xs[i]? = some p) := by
  obtain ⟨b, off, cs, e, hp, hr, hR⟩ := h i hi
  have hcs : cs = pinE xs[i] := hR
  subst hcs
  exact ⟨b, off, xs[i], e, hp, rangeAt_lt hr (by rw [pinE_len]; omega), hr 0 _ rfl, hr 1 _ rfl, hr 2 _ rfl, (show _ = _ by simp [hi])⟩

set_option maxHeartbeats 8000000 in
set_option maxRecDepth 100000 in
theorem pinsOK_any {P : Nat → Prop} (v : Value) (l : List PinD) (w : World) (hv : Sl pinRep P w v l) (hm : l.length ≤ 9223372036854775807) :
    Calls Tryz.prog 191 #[v] w fun e w' => e = .returned (.bool (pinsB l)) ∧ Ex w.heap.size none w w' := by
  obtain ⟨ao, cap, rfl, hx⟩ := hv
  have HX := Lib.hid hx
  clear hx
  go_enter Tryz.func191, Tryz.ntmps191
  go_wp2
  go_loopw [3] (fun i wr => ∃ k : Nat, k ≤ l.length ∧ i = .int .i64 k ∧ Hid (pinsTo l k = true) ∧ Ex w.heap.size none w wr) (fun i _ => l.length - (intOf i).toNat)
  case atStart => exact ⟨0, Nat.zero_le _, rfl, rfl, Ex.refl _ _ _⟩
  case round =>
    obtain ⟨k, hk, rfl, HT, hex⟩ := hrel
    have hsz := hex.size
    by_cases hlt : k < l.length
    · obtain ⟨b, off, p, rfl, _, hb, c0, c1, c2, HP⟩ := pin_get (HX.out.keep (by decide) (fun b _ hb => hex.block b hb (by simp))) k hlt
      have HW := Lib.hid hex
      clear hex
      cases h1 : keyB p.1 with
      | false =>
        have HK : Hid (pinsB l = false) := pinsTo_no hlt (by unfold pinAt; rw [HP.out]; simp [h1])
        go_wp2_with fail
        go_quiet ((go_at_call 188; exact (key03_any _ _).mono fun _ _ h => ⟨h.1, _, h.2.symm⟩))
        go_wp2
        go_ret
        exact ⟨by rw [HK.out]; rfl, by (repeat (first | exact HW.out | refine Ex.drewN ?_ | refine Ex.drew ?_ | refine Ex.setCell ?_ _ none _ (.inr hsz) | refine Ex.alloc ?_ hsz _))⟩
      | true =>
        by_cases h0 : k = 0
        · have h0d : decide (0 < k) = false := by simp [h0]
          have HZ := Lib.hid h0
          clear h0
          by_cases h3 : 1 ≤ p.2.1
          · have h3d : decide (p.2.1 < 1) = false := decide_eq_false (by omega)
            by_cases h4 : p.2.1 ≤ 200
            · have h4d : decide (200 < p.2.1) = false := decide_eq_false (by omega)
              by_cases h5 : p.2.2.size = 32
              · have h5d : (((p.2.2.size : Nat) : Int) != 32) = false := by simp [h5]
                have HK : Hid (pinAt l k = true) := (show _ = _ by unfold pinAt; rw [HP.out]; simp [h1, HZ.out, h3, h4, h5])
                go_wp2_with fail
                go_quiet ((go_at_call 188; exact (key03_any _ _).mono fun _ _ h => ⟨h.1, _, h.2.symm⟩))
                go_wp2
                go_roundw
                case rel => exact ⟨k + 1, by omega, by go_num, (show _ = _ by rw [pinsTo_succ, HT.out, HK.out]; rfl), by (repeat (first | exact HW.out | refine Ex.drewN ?_ | refine Ex.drew ?_ | refine Ex.setCell ?_ _ none _ (.inr hsz) | refine Ex.alloc ?_ hsz _))⟩
                case measure => simp [intOf] <;> omega
              · have h5d : (((p.2.2.size : Nat) : Int) != 32) = true := by simp; omega
                have HK : Hid (pinsB l = false) := pinsTo_no hlt (by unfold pinAt; rw [HP.out]; simp [h1, HZ.out, h3, h4, h5])
                go_wp2_with fail
                go_quiet ((go_at_call 188; exact (key03_any _ _).mono fun _ _ h => ⟨h.1, _, h.2.symm⟩))
                go_wp2
                go_ret
                exact ⟨by rw [HK.out]; rfl, by (repeat (first | exact HW.out | refine Ex.drewN ?_ | refine Ex.drew ?_ | refine Ex.setCell ?_ _ none _ (.inr hsz) | refine Ex.alloc ?_ hsz _))⟩
            · have h4d : decide (200 < p.2.1) = true := decide_eq_true (by omega)
              have HK : Hid (pinsB l = false) := pinsTo_no hlt (by unfold pinAt; rw [HP.out]; simp [h1, HZ.out, h3, h4])
              go_wp2_with fail
              go_quiet ((go_at_call 188; exact (key03_any _ _).mono fun _ _ h => ⟨h.1, _, h.2.symm⟩))
              go_wp2
              go_ret
              exact ⟨by rw [HK.out]; rfl, by (repeat (first | exact HW.out | refine Ex.drewN ?_ | refine Ex.drew ?_ | refine Ex.setCell ?_ _ none _ (.inr hsz) | refine Ex.alloc ?_ hsz _))⟩
          · have h3d : decide (p.2.1 < 1) = true := decide_eq_true (by omega)
            have HK : Hid (pinsB l = false) := pinsTo_no hlt (by unfold pinAt; rw [HP.out]; simp [h1, HZ.out, h3])
            go_wp2_with fail
            go_quiet ((go_at_call 188; exact (key03_any _ _).mono fun _ _ h => ⟨h.1, _, h.2.symm⟩))
            go_wp2
            go_ret
            exact ⟨by rw [HK.out]; rfl, by (repeat (first | exact HW.out | refine Ex.drewN ?_ | refine Ex.drew ?_ | refine Ex.setCell ?_ _ none _ (.inr hsz) | refine Ex.alloc ?_ hsz _))⟩
        · have h0d : 0 < k := by omega
          obtain ⟨i, hi⟩ : ∃ i, i = k - 1 := ⟨_, rfl⟩
          have hw1 : IntKind.i64.wrap ((k : Int) - 1) = i := by rw [show (k : Int) - 1 = i by omega]; exact IntWalk.i64_in _ (by omega)
          have hik : (i : Int) < (l.length : Int) := by omega
          obtain ⟨b', off', q, e', _, hb', c0', _, _, HQ⟩ := pin_get (HX.out.keep (by decide) (fun b _ hb => HW.out.block b hb (by simp))) i (by omega)
          cases e'
          have HI : Hid (l[k - 1]? = some q) := by rw [← hi]; exact HQ
          clear hi
          by_cases h2 : q.1 < p.1
          · have h2d : decide (p.1 ≤ q.1) = false := decide_eq_false (by omega)
            by_cases h3 : 1 ≤ p.2.1
            · have h3d : decide (p.2.1 < 1) = false := decide_eq_false (by omega)
              by_cases h4 : p.2.1 ≤ 200
              · have h4d : decide (200 < p.2.1) = false := decide_eq_false (by omega)
                by_cases h5 : p.2.2.size = 32
                · have h5d : (((p.2.2.size : Nat) : Int) != 32) = false := by simp [h5]
                  have HK : Hid (pinAt l k = true) := (show _ = _ by unfold pinAt; rw [HP.out]; simp [h1, h0, HI.out, h2, h3, h4, h5])
                  go_wp2_with fail
                  go_quiet ((go_at_call 188; exact (key03_any _ _).mono fun _ _ h => ⟨h.1, _, h.2.symm⟩))
                  go_wp2
                  go_roundw
                  case rel => exact ⟨k + 1, by omega, by go_num, (show _ = _ by rw [pinsTo_succ, HT.out, HK.out]; rfl), by (repeat (first | exact HW.out | refine Ex.drewN ?_ | refine Ex.drew ?_ | refine Ex.setCell ?_ _ none _ (.inr hsz) | refine Ex.alloc ?_ hsz _))⟩
                  case measure => simp [intOf] <;> omega
                · have h5d : (((p.2.2.size : Nat) : Int) != 32) = true := by simp; omega
                  have HK : Hid (pinsB l = false) := pinsTo_no hlt (by unfold pinAt; rw [HP.out]; simp [h1, h0, HI.out, h2, h3, h4, h5])
                  go_wp2_with fail
                  go_quiet ((go_at_call 188; exact (key03_any _ _).mono fun _ _ h => ⟨h.1, _, h.2.symm⟩))
                  go_wp2
                  go_ret
                  exact ⟨by rw [HK.out]; rfl, by (repeat (first | exact HW.out | refine Ex.drewN ?_ | refine Ex.drew ?_ | refine Ex.setCell ?_ _ none _ (.inr hsz) | refine Ex.alloc ?_ hsz _))⟩
              · have h4d : decide (200 < p.2.1) = true := decide_eq_true (by omega)
                have HK : Hid (pinsB l = false) := pinsTo_no hlt (by unfold pinAt; rw [HP.out]; simp [h1, h0, HI.out, h2, h3, h4])
                go_wp2_with fail
                go_quiet ((go_at_call 188; exact (key03_any _ _).mono fun _ _ h => ⟨h.1, _, h.2.symm⟩))
                go_wp2
                go_ret
                exact ⟨by rw [HK.out]; rfl, by (repeat (first | exact HW.out | refine Ex.drewN ?_ | refine Ex.drew ?_ | refine Ex.setCell ?_ _ none _ (.inr hsz) | refine Ex.alloc ?_ hsz _))⟩
            · have h3d : decide (p.2.1 < 1) = true := decide_eq_true (by omega)
              have HK : Hid (pinsB l = false) := pinsTo_no hlt (by unfold pinAt; rw [HP.out]; simp [h1, h0, HI.out, h2, h3])
              go_wp2_with fail
              go_quiet ((go_at_call 188; exact (key03_any _ _).mono fun _ _ h => ⟨h.1, _, h.2.symm⟩))
              go_wp2
              go_ret
              exact ⟨by rw [HK.out]; rfl, by (repeat (first | exact HW.out | refine Ex.drewN ?_ | refine Ex.drew ?_ | refine Ex.setCell ?_ _ none _ (.inr hsz) | refine Ex.alloc ?_ hsz _))⟩
          · have h2d : decide (p.1 ≤ q.1) = true := decide_eq_true (by omega)
            have HK : Hid (pinsB l = false) := pinsTo_no hlt (by unfold pinAt; rw [HP.out]; simp [h1, h0, HI.out, h2])
            go_wp2_with fail
            go_quiet ((go_at_call 188; exact (key03_any _ _).mono fun _ _ h => ⟨h.1, _, h.2.symm⟩))
            go_wp2
            go_ret
            exact ⟨by rw [HK.out]; rfl, by (repeat (first | exact HW.out | refine Ex.drewN ?_ | refine Ex.drew ?_ | refine Ex.setCell ?_ _ none _ (.inr hsz) | refine Ex.alloc ?_ hsz _))⟩
    · obtain rfl : k = l.length := by omega
      go_wp2
      go_ret
      exact ⟨by rw [show pinsB l = true from HT.out]; rfl, hex⟩
end Go.Proofs.YtdgfankkapeclaaGreat
