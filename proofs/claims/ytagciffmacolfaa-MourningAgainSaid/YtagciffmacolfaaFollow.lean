/- ref35.Follow, Replace: contracts, no statement of the seat. -/
import Derived.Test.YtagciffmacolfaaHeir
namespace Go.Proofs.Ytagciffmacolfaa
open Go.RowKit

/-- Where a key leads by f: met are the keys so far; at most so many steps. -/
def followF (f : Int → Option Int) (k : Int) : Nat → List Int → Int
  | 0, _ => k
  | n + 1, met => match f (met.getD (met.length - 1) 0) with
    | none => met.getD (met.length - 1) 0
    | some x => if hasI met x = true ∨ 16 < met.length then k else followF f k n (met ++ [x])
def followI (f : Int → Option Int) (k : Int) : Int := followF f k 17 [k]
theorem followF_end {f : Int → Option Int} {k : Int} {n : Nat} {met : List Int} {y : Int} (hy : met.getD (met.length - 1) 0 = y) (h : f y = none) (hn : 0 < n) : followF f k n met = y := by
  obtain ⟨m, rfl⟩ : ∃ m, n = m + 1 := ⟨n - 1, by omega⟩
  rw [followF, hy, h]
theorem followF_stop {f : Int → Option Int} {k x : Int} {n : Nat} {met : List Int} {y : Int} (hy : met.getD (met.length - 1) 0 = y) (h : f y = some x) (hx : hasI met x = true ∨ 16 < met.length) : followF f k n met = k := by
  cases n with
  | zero => rfl
  | succ m => rw [followF, hy, h]; simp only []; rw [if_pos hx]
theorem followF_step {f : Int → Option Int} {k x : Int} {n : Nat} {met : List Int} {y : Int} (hy : met.getD (met.length - 1) 0 = y) (h : f y = some x) (hx : ¬ (hasI met x = true ∨ 16 < met.length)) (hn : 0 < n) : followF f k n met = followF f k (n - 1) (met ++ [x]) := by
  obtain ⟨m, rfl⟩ : ∃ m, n = m + 1 := ⟨n - 1, by omega⟩
  rw [followF, hy, h]; simp only []; rw [if_neg hx]; rfl

set_option maxHeartbeats 1000000 in
theorem refFollow_any {P : Nat → Prop} {v : Value} {hs : List (Int × Int)} (k : Int) (w : World) (hv : Sl heirRep P w v hs) (hm : hs.length ≤ 1000000) :
    Calls Try.prog 20 #[v, .int .i64 k] w fun e w' => e = .returned (.int .i64 (followI (heirI hs) k)) ∧ Ex w.heap.size none w w' := by
  have hv0 := hv
  obtain ⟨ao, cap, rfl, hx⟩ := hv
  clear hx
  go_enter Try.func20, Try.ntmps20
  go_wp2
  go_loopw [5] (fun v wr => ∃ (met : List Int) (ro : Option Addr) (rc : Nat), v = .slice ro met.length rc ∧ OwnI wr w.heap.size ro rc met ∧ Ex w.heap.size none w wr ∧ 1 ≤ met.length ∧ met.length ≤ 17 ∧ followF (heirI hs) k (18 - met.length) met = followI (heirI hs) k) (fun v _ => 18 - (match v with | .slice _ n _ => n | _ => 0))
  case atStart => exact ⟨[k], some ⟨w.heap.size, 0, none⟩, 1, rfl, World.ownsRow_lit w #[.int .i64 k] 1 (Nat.le_refl _) (by decide) rfl, Ex.new _ _, by simp, by simp, rfl⟩
  case round =>
    obtain ⟨met, ro, rc, rfl, hown, hex, h1, h17, hF⟩ := hrel
    have HF := Lib.hid hF
    clear hF
    have hsz := hex.size
    have hi := hown.ints
    have fv := hv0.keep (by decide) (fun b _ hb => hex.block b hb (by simp))
    obtain ⟨b, off, y, rfl, hck0, HY⟩ := hi.get (met.length - 1) (by omega)
    have hck : wr.cell? ⟨b, off + ((met.length : Int) - 1).toNat, none⟩ = some (.int .i64 y) := by
      rw [show ((met.length : Int) - 1).toNat = met.length - 1 by omega]; exact hck0
    rcases hh : heirI hs y with _ | x
    · have HR := Lib.hid (followF_end (k := k) HY.out hh (show 0 < 18 - met.length by omega))
      go_wp2_with fail
      refine (refHeir_any _ _ fv hm).mono ?_
      rw [hh]
      clear hh
      rintro e w' ⟨rfl, rfl⟩
      go_wp2_with fail
      go_ret
      exact ⟨ret_int (by rw [← HF.out, HR.out]), hex⟩
    · have HH := Lib.hid hh
      clear hh
      by_cases h2 : hasI met x = true
      · have HR := Lib.hid (followF_stop (k := k) (n := 18 - met.length) HY.out HH.out (Or.inl h2))
        go_wp2_with fail
        refine (refHeir_any _ _ fv hm).mono ?_
        rw [HH.out]
        rintro e w' ⟨rfl, rfl⟩
        go_wp2_with fail
        refine (asB (refHas_any _ _ _ _ hown.v (by omega)) h2).mono ?_
        rintro e w' ⟨rfl, rfl⟩
        go_wp2_with fail
        go_ret
        exact ⟨ret_int (by rw [← HF.out, HR.out]), hex⟩
      · have h2' : hasI met x = false := Bool.eq_false_iff.2 h2
        by_cases h3 : (16 : Int) < met.length
        · have HR := Lib.hid (followF_stop (k := k) (n := 18 - met.length) HY.out HH.out (Or.inr (by omega)))
          have hd : decide ((16 : Int) < met.length) = true := decide_eq_true h3
          go_wp2_with fail
          refine (refHeir_any _ _ fv hm).mono ?_
          rw [HH.out]
          rintro e w' ⟨rfl, rfl⟩
          go_wp2_with fail
          refine (asB (refHas_any _ _ _ _ hown.v (by omega)) h2').mono ?_
          rintro e w' ⟨rfl, rfl⟩
          go_wp2_with fail
          go_ret
          exact ⟨ret_int (by rw [← HF.out, HR.out]), hex⟩
        · have HR := Lib.hid (followF_step (k := k) (n := 18 - met.length) HY.out HH.out (by rw [h2']; simp; omega) (by omega))
          have hd : decide ((16 : Int) < met.length) = false := decide_eq_false h3
          go_wp2_with fail
          refine (refHeir_any _ _ fv hm).mono ?_
          rw [HH.out]
          rintro e w' ⟨rfl, rfl⟩
          go_wp2_with fail
          refine (asB (refHas_any _ _ _ _ hown.v (by omega)) h2').mono ?_
          rintro e w' ⟨rfl, rfl⟩
          go_wp2_with (at_builtin; refine wpList_appI rfl _ _ _ rfl Try.underlying25 Try.infoInt w.heap.size _ rc _ wr.heap.size x rfl rfl hown (Ex.new _ _) (by go_simp) (by omega) hsz ?_; intro ro' rc' w1 hown1 hex1)
          go_roundw
          case rel => exact ⟨met ++ [x], ro', rc', by rw [List.length_append]; rfl, hown1, hex.trans hex1 (Nat.le_refl _) (by simp), by simp, by simp; omega, by
            rw [show 18 - (met ++ [x]).length = 18 - met.length - 1 by simp; omega, ← HR.out, HF.out]⟩
          case measure => simp <;> omega
end Go.Proofs.Ytagciffmacolfaa
