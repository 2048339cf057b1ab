/- The library's binary search at heirs: a contract, no statement of the seat. -/
import Derived.Test.YtfllcohnfboccaaMg00
namespace Go.Proofs.Ytfllcohnfboccaa
open Go.RowKit Go.Sort

theorem ex_grow {w : World} (q : Nat) (os : Array Obj) : Ex w.heap.size none w (grow (w.drewN q) os) :=
  ⟨rfl, rfl, rfl, by rw [size_grow]; exact Nat.le_add_right _ _, fun k hk _ => heap_grow_old (w.drewN q) os hk⟩

theorem lostAt_ex (x : Int × Int) (n : Int) (w : World) : Calls Try.prog 58 #[.agg #[.int .i64 x.1, .int .i64 x.2], .int .i64 n] w fun e w' => e = .returned (.int .i64 (cmpI x.1 n)) ∧ Ex w.heap.size none w w' :=
  (lostAt_any x n w).mono fun _ _ ⟨he, q, os, hw⟩ => ⟨he, by subst hw; exact ex_grow q os⟩
def LoOK (hs : List (Int × Int)) (x : Int) (i : Nat) : Prop := ∀ (t : Nat) (y : Int × Int), t < i → hs[t]? = some y → y.1 < x
def HiOK (hs : List (Int × Int)) (x : Int) (j : Nat) : Prop := ∀ (t : Nat) (y : Int × Int), j ≤ t → hs[t]? = some y → x ≤ y.1
def Rising (hs : List (Int × Int)) : Prop := ∀ (i j : Nat) (a b : Int × Int), i < j → hs[i]? = some a → hs[j]? = some b → a.1 < b.1
/-- What the search answers: the place of x, or that there is none. -/
def Found (hs : List (Int × Int)) (x : Int) (e : Ending) : Prop :=
  (∃ i y, e = .returned (.tuple #[.int .i64 i, .bool true]) ∧ 0 ≤ i ∧ hs[i.toNat]? = some (x, y)) ∨ (∃ i, e = .returned (.tuple #[.int .i64 i, .bool false]) ∧ ∀ a ∈ hs, a.1 ≠ x)

set_option maxHeartbeats 1000000 in
set_option maxRecDepth 100000 in
theorem heirSearch_any {P : Nat → Prop} {v : Value} {hs : List (Int × Int)} (x : Int) (w : World) (hv : Sl heirRep P w v hs) (hm : hs.length ≤ 1000000) (hsort : Rising hs) :
    Calls Try.prog 57 #[v, .int .i64 x, .func (.func 58) #[] #[]] w fun e w' => Found hs x e ∧ Ex w.heap.size none w w' := by
  have hv0 := hv
  obtain ⟨ao, cap, rfl, hx⟩ := hv
  go_enter Try.func57, Try.ntmps57
  go_wp2
  go_loopw [9, 10] (fun a b wr => ∃ i j : Nat, i ≤ j ∧ j ≤ hs.length ∧ a = .int .i64 i ∧ b = .int .i64 j ∧ LoOK hs x i ∧ HiOK hs x j ∧ Ex w.heap.size none w wr) (fun a b _ => (intOf b - intOf a).toNat)
  case atStart => exact ⟨0, hs.length, by omega, by omega, rfl, rfl, fun t y ht => absurd ht (Nat.not_lt_zero _), (fun t y ht h => by rw [List.getElem?_eq_none ht] at h; cases h), Ex.refl _ _ _⟩
  case round =>
    obtain ⟨i, j, hij, hj, rfl, rfl, hl, hr, hex⟩ := hrel
    have hsz := hex.size
    have fx := hx.keep (by decide) (fun b _ hb => hex.block b hb (by simp))
    by_cases hlt : (i : Int) < j
    · obtain ⟨h, hh⟩ : ∃ h, h = (i + j) / 2 := ⟨_, rfl⟩
      have h1 : i ≤ h := by omega
      have h2 : h < j := by omega
      have e1 : ((i : Int) + j) / 2 = (h : Int) := by omega
      obtain ⟨b, off, cs, y, rfl, _, hrr, hR, HY⟩ := fx.get h (by omega)
      have c0 : wr.cell? ⟨b, off + h * 2, none⟩ = some (.int .i64 y.1) := hrr 0 _ (by rw [show cs = _ from hR]; rfl)
      have c1 : wr.cell? ⟨b, off + h * 2 + 1, none⟩ = some (.int .i64 y.2) := hrr 1 _ (by rw [show cs = _ from hR]; rfl)
      clear hrr hR hh
      by_cases hc : y.1 < x
      · have d1 : decide (cmpI y.1 x < 0) = true := decide_eq_true (cmpI_lt.2 hc)
        have HK : Hid (LoOK hs x (h + 1)) := fun t z ht hz => by
          by_cases e : t = h
          · subst e; have := HY.out; rw [this] at hz; cases hz; exact hc
          · have := hsort t h z y (by omega) hz HY.out; omega
        go_wp2_with fail
        refine (lostAt_ex y x _).mono ?_
        rintro e w1 ⟨rfl, hex1⟩
        go_wp2_with fail
        go_roundw
        case rel => exact ⟨h + 1, j, by omega, hj, by go_num, rfl, HK.out, hr, hex.trans hex1 hsz (by simp)⟩
        case measure => simp [intOf] <;> omega
      · have d1 : decide (cmpI y.1 x < 0) = false := decide_eq_false (fun h => hc (cmpI_lt.1 h))
        have HK : Hid (HiOK hs x h) := fun t z ht hz => by
          by_cases e : t = h
          · subst e; have := HY.out; rw [this] at hz; cases hz; omega
          · have := hsort h t y z (by omega) HY.out hz; omega
        go_wp2_with fail
        refine (lostAt_ex y x _).mono ?_
        rintro e w1 ⟨rfl, hex1⟩
        go_wp2_with fail
        go_roundw
        case rel => exact ⟨i, h, by omega, by omega, rfl, rfl, hl, HK.out, hex.trans hex1 hsz (by simp)⟩
        case measure => simp [intOf] <;> omega
    · obtain rfl : i = j := by omega
      by_cases hn : i < hs.length
      · have d1 : decide ((i : Int) < hs.length) = true := decide_eq_true (by omega)
        obtain ⟨b, off, cs, y, rfl, _, hrr, hR, HY⟩ := fx.get i hn
        have c0 : wr.cell? ⟨b, off + i * 2, none⟩ = some (.int .i64 y.1) := hrr 0 _ (by rw [show cs = _ from hR]; rfl)
        have c1 : wr.cell? ⟨b, off + i * 2 + 1, none⟩ = some (.int .i64 y.2) := hrr 1 _ (by rw [show cs = _ from hR]; rfl)
        clear hrr hR
        by_cases hc : y.1 = x
        · have d2 : (cmpI y.1 x == 0) = true := by simpa using cmpI_zero.2 hc
          have HC := Lib.hid hc
          clear hc
          go_wp2_with fail
          refine (lostAt_ex y x _).mono ?_
          rintro e w1 ⟨rfl, hex1⟩
          go_wp2_with fail
          go_ret2
          exact ⟨Or.inl ⟨i, y.2, rfl, by omega, by rw [show (i : Int).toNat = i from rfl, HY.out, ← HC.out]⟩, hex.trans hex1 hsz (by simp)⟩
        · have d2 : (cmpI y.1 x == 0) = false := by simpa using fun h => hc (cmpI_zero.1 h)
          go_wp2_with fail
          refine (lostAt_ex y x _).mono ?_
          rintro e w1 ⟨rfl, hex1⟩
          go_wp2_with fail
          go_ret2
          exact ⟨Or.inr ⟨i, rfl, fun a ha => by
            obtain ⟨t, ht⟩ := List.getElem?_of_mem ha
            rcases Nat.lt_trichotomy t i with h | h | h
            · have := hl t a h ht; omega
            · subst h; rw [HY.out] at ht; cases ht; exact hc
            · have h1 := hsort i t y a h HY.out ht
              have h2 := hr i y (Nat.le_refl _) HY.out
              omega⟩, hex.trans hex1 hsz (by simp)⟩
      · have d1 : decide ((i : Int) < hs.length) = false := decide_eq_false (by omega)
        go_wp2_with fail
        go_ret2
        exact ⟨Or.inr ⟨i, rfl, fun a ha => by
          obtain ⟨t, ht⟩ := List.getElem?_of_mem ha
          have hlt := (List.getElem?_eq_some_iff.1 ht).1
          have := hl t a (by omega) ht; omega⟩, hex⟩
end Go.Proofs.Ytfllcohnfboccaa
