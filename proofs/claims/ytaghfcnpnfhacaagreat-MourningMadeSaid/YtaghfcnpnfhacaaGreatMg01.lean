/- ref24.Valid: whether a list of keys is ascending: a contract, no statement of the seat. | ref34.Valid, Voices, Enough: contracts, no statement of the seat. | How many voices there are, all together: as many as authors have named somebody. Plain. No statement of the seat. | A map that holds whatever values, by the kit's own datum 'held': plain facts. No statement of the seat. | A whole row of cells: not frozen; set cell by cell. No statement of the seat. | Join, Minus: contracts, no statement of the seat. | Heirs as data; ref35.heir, Follow: contracts, no statement of the seat. | mourning.key: a contract, no statement of the seat. | The map of the losses, asked at whatever lost key. No statement of the seat. | slices.Index, Contains: contracts, no statement of the seat. | cmp.Compare at int: a contract, no statement of the seat. | The closures on heirs that the program's mourning hands to the library: contracts, no statement of the seat. | The library's insertion sort at heirs, by the shelf's contract: its laying in plain words, and the contract at heirs sorted by the lost key. No statement of the seat. | The insertion sort of the library keeps the order of equals: a plain law on the kit's own word 'Sort.insertionSort'. No program in sight. | The merge of the library's stable sort, in place, by rotations: plain laws on rows. No program in sight. | What the library's stable sort at trustflow/api.Heir leans on of a program: so that its walks may be made over whatever program and number of cells. No statement of the seat. -/
import Derived.Test.YtaghfcnpnfhacaaGreatMg00
import Derived.BigQuiet
import Derived.IntWalk
import Derived.Deep.Cut
import Derived.Test.YtaghfcnpnfhacaaGreatRows
import Derived.ChangeKeys
import Derived.Sort.Grow
import Derived.Shelf.SlSortCmp.InsertionK
import Derived.Sort.LotA
namespace Go.Proofs.YtaghfcnpnfhacaaGreat
open Go.RowKit

def okAt (xs : List Int) (i : Nat) : Bool := decide (0 ≤ xs.getD i 0) && decide (xs.getD i 0 < 64) && (decide (i = 0) || decide (xs.getD (i - 1) 0 < xs.getD i 0))
def okTo (xs : List Int) (n : Nat) : Bool := (List.range n).all (okAt xs)
theorem okTo_succ (xs : List Int) (n : Nat) : okTo xs (n + 1) = (okTo xs n && okAt xs n) := by simp [okTo, List.range_succ]
theorem okTo_no {xs : List Int} {n m : Nat} (hn : n < m) (h : okAt xs n = false) : okTo xs m = false := by
  simp only [okTo, List.all_eq_false, List.mem_range]
  exact ⟨n, hn, by simp [h]⟩
/-- Ascending keys, one at least. -/
def validI (xs : List Int) : Bool := decide (0 < xs.length) && decide (xs.length ≤ 64) && okTo xs xs.length

set_option maxHeartbeats 4000000 in
set_option maxRecDepth 100000 in
theorem refValid24_any (v : Value) (xs : List Int) (w : World) (hv : Ints w v xs) (hm : xs.length ≤ 1000000) :
    Calls Tryz.prog 222 #[v] w fun e w' => e = .returned (.bool (validI xs)) ∧ Ex w.heap.size none w w' := by
  obtain ⟨ao, cap, rfl, hx⟩ := hv
  have HX := Lib.hid hx
  clear hx
  by_cases hz : xs.length = 0
  · have hzd : ((xs.length : Int) == 0) = true := by simp [hz]
    have HK : Hid (validI xs = false) := by show _ = _; simp [validI, hz]
    clear hz
    go_enter Tryz.func222, Tryz.ntmps222
    go_wp2
    go_ret
    exact ⟨by rw [HK.out]; rfl, Ex.refl _ _ _⟩
  have hzd : ((xs.length : Int) == 0) = false := by simp; intro h; rw [h] at hz; exact hz rfl
  by_cases h64 : 64 < xs.length
  · have h64d : decide (64 < xs.length) = true := decide_eq_true h64
    have HK : Hid (validI xs = false) := by show _ = _; simp [validI, show ¬ xs.length ≤ 64 by omega]
    clear hz
    go_enter Tryz.func222, Tryz.ntmps222
    go_wp2
    go_ret
    exact ⟨by rw [HK.out]; rfl, Ex.refl _ _ _⟩
  have h64d : decide (64 < xs.length) = false := decide_eq_false h64
  have hpos : 0 < xs.length := by omega
  clear hz
  go_enter Tryz.func222, Tryz.ntmps222
  go_wp2
  go_loopw [3] (fun i wr => ∃ k : Nat, k ≤ xs.length ∧ i = .int .i64 k ∧ Hid (okTo xs k = true) ∧ Ex w.heap.size none w wr) (fun i _ => xs.length - (intOf i).toNat)
  case atStart => exact ⟨0, Nat.zero_le _, rfl, rfl, Ex.refl _ _ _⟩
  case round =>
    obtain ⟨k, hk, rfl, HT, hex⟩ := hrel
    have hsz := hex.size
    by_cases hlt : k < xs.length
    · obtain ⟨b, off, y, rfl, c0, HY⟩ := (HX.out.keep hex (Nat.le_refl _) (by simp)).get k hlt
      have HW := Lib.hid hex
      clear hex
      by_cases h1 : y < 0
      · have h1d : decide (y < 0) = true := decide_eq_true h1
        have h1n : ¬ 0 ≤ y := by omega
        have HK : Hid (validI xs = false) := by show _ = _; simp [validI, okTo_no hlt (show okAt xs k = false by simp [-List.getD_eq_getElem?_getD, okAt, HY.out, h1n])]
        go_wp2_with fail
        go_quiet (fail)
        go_wp2
        go_ret
        exact ⟨by rw [HK.out]; rfl, by (repeat (first | exact HW.out | refine Ex.drewN ?_ | refine Ex.drew ?_ | refine Ex.setCell ?_ _ none _ (.inr hsz) | refine Ex.alloc ?_ hsz _))⟩
      have h1d : decide (y < 0) = false := decide_eq_false h1
      have h1n : 0 ≤ y := by omega
      by_cases h2 : 64 ≤ y
      · have h2d : decide (64 ≤ y) = true := decide_eq_true h2
        have h2n : ¬ y < 64 := by omega
        have HK : Hid (validI xs = false) := by show _ = _; simp [validI, okTo_no hlt (show okAt xs k = false by simp [-List.getD_eq_getElem?_getD, okAt, HY.out, h2n])]
        go_wp2_with fail
        go_quiet (fail)
        go_wp2
        go_ret
        exact ⟨by rw [HK.out]; rfl, by (repeat (first | exact HW.out | refine Ex.drewN ?_ | refine Ex.drew ?_ | refine Ex.setCell ?_ _ none _ (.inr hsz) | refine Ex.alloc ?_ hsz _))⟩
      have h2d : decide (64 ≤ y) = false := decide_eq_false h2
      have h2n : y < 64 := by omega
      by_cases h0 : k = 0
      · have h0d : decide (0 < k) = false := by simp [h0]
        have HZ := Lib.hid h0
        clear h0
        have HK : Hid (okAt xs k = true) := by show _ = _; have hy := HY.out; rw [HZ.out] at hy; simp [-List.getD_eq_getElem?_getD, okAt, hy, HZ.out, h1n, h2n]
        go_wp2_with fail
        go_quiet (fail)
        go_wp2
        go_roundw
        case rel => exact ⟨k + 1, by omega, by go_num, (show _ = _ by rw [okTo_succ, HT.out, HK.out]; rfl), by (repeat (first | exact HW.out | refine Ex.drewN ?_ | refine Ex.drew ?_ | refine Ex.setCell ?_ _ none _ (.inr hsz) | refine Ex.alloc ?_ hsz _))⟩
        case measure => simp [intOf] <;> omega
      have h0d : 0 < k := by omega
      obtain ⟨i, hi⟩ : ∃ i, i = k - 1 := ⟨_, rfl⟩
      have hw1 : IntKind.i64.wrap ((k : Int) - 1) = i := by rw [show (k : Int) - 1 = i by omega]; exact IntWalk.i64_in _ (by omega)
      have hik : (i : Int) < (xs.length : Int) := by omega
      obtain ⟨b', off', q, e', c0', HQ⟩ := (HX.out.keep HW.out (Nat.le_refl _) (by simp)).get i (by omega)
      cases e'
      have HI : Hid (xs.getD (k - 1) 0 = q) := by rw [← hi]; exact HQ
      have HZ := Lib.hid h0
      clear hi h0
      by_cases h3 : y ≤ q
      · have h3d : decide (y ≤ q) = true := decide_eq_true h3
        have h3n : ¬ q < y := by omega
        have HK : Hid (validI xs = false) := by show _ = _; simp [validI, okTo_no hlt (show okAt xs k = false by simp [-List.getD_eq_getElem?_getD, okAt, HY.out, HZ.out, HI.out, h3n])]
        go_wp2_with fail
        go_quiet (fail)
        go_wp2
        go_ret
        exact ⟨by rw [HK.out]; rfl, by (repeat (first | exact HW.out | refine Ex.drewN ?_ | refine Ex.drew ?_ | refine Ex.setCell ?_ _ none _ (.inr hsz) | refine Ex.alloc ?_ hsz _))⟩
      have h3d : decide (y ≤ q) = false := decide_eq_false h3
      have h3n : q < y := by omega
      have HK : Hid (okAt xs k = true) := by show _ = _; simp [-List.getD_eq_getElem?_getD, okAt, HY.out, HZ.out, HI.out, h1n, h2n, h3n]
      go_wp2_with fail
      go_quiet (fail)
      go_wp2
      go_roundw
      case rel => exact ⟨k + 1, by omega, by go_num, (show _ = _ by rw [okTo_succ, HT.out, HK.out]; rfl), by (repeat (first | exact HW.out | refine Ex.drewN ?_ | refine Ex.drew ?_ | refine Ex.setCell ?_ _ none _ (.inr hsz) | refine Ex.alloc ?_ hsz _))⟩
      case measure => simp [intOf] <;> omega
    · obtain rfl : k = xs.length := by omega
      have HK : Hid (validI xs = true) := by show _ = _; simp [validI, HT.out]; omega
      clear hlt
      go_wp2
      go_ret
      exact ⟨by rw [HK.out]; rfl, hex⟩
end Go.Proofs.YtaghfcnpnfhacaaGreat

namespace Go.Proofs.YtaghfcnpnfhacaaGreat
open Go.RowKit

theorem ExW.cellG2 {w : World} (p : ExW w) {b o : Nat} {v : Value} (h : w.cell? ⟨b, o, none⟩ = some v) : p.w'.cell? ⟨b, o, none⟩ = some v :=
  (World.cell?_of_block (w := w) (p.ex.block b (World.block_lt_of_cell? w _ h) (by simp))).trans h
/-- Guardians that are right: the owner, how many are needed, the keys. -/
def validG (o n : Int) (g : List Int) : Bool := decide (0 ≤ o) && decide (o < 64) && decide (g.length ≤ 12) && validI g && !hasI g o && decide (1 ≤ n) && decide (n ≤ (g.length : Int))
/-- How many guardians are among voices. -/
def countG (g vs : List Int) : Nat := g.countP (hasI vs)
def enoughG (o n : Int) (g vs : List Int) : Bool := validG o n g && decide (n ≤ (countG g vs : Int))
theorem countG_len (g vs : List Int) : countG g vs ≤ g.length := List.countP_le_length
theorem countG_take {g vs : List Int} {k : Nat} {y : Int} (hk : k < g.length) (hy : g.getD k 0 = y) : countG (g.take (k + 1)) vs = countG (g.take k) vs + (if hasI vs y then 1 else 0) := by
  have e : g[k]? = some y := by
    have := hy
    simp only [List.getD_eq_getElem?_getD, List.getElem?_eq_getElem hk, Option.getD_some] at this
    rw [List.getElem?_eq_getElem hk, this]
  unfold countG
  rw [List.take_add_one, e, List.countP_append]
  simp

set_option maxHeartbeats 4000000 in
set_option maxRecDepth 100000 in
theorem refValid34_any (o n : Int) (go : Option Addr) (gn gc : Nat) (g : List Int) (w : World) (hg : IntsAt w go g) (hgn : g.length = gn) (hm : gn ≤ 1000000) :
    Calls Tryz.prog 148 #[.agg #[.int .i64 o, .int .i64 n, .slice go gn gc]] w fun e w' => e = .returned (.bool (validG o n g)) ∧ Ex w.heap.size none w w' := by
  have HI := Lib.hid hg
  have HGN := Lib.hid hgn
  clear hg hgn
  by_cases h1 : 0 ≤ o
  case neg =>
    have h1d : decide (0 ≤ o) = false := decide_eq_false h1
    have HK : Hid (validG o n g = false) := by show _ = _; simp [validG, HGN.out, h1]
    go_enter Tryz.func148, Tryz.ntmps148
    go_upto_region 1 with (fail)
    obtain ⟨w1, hw1⟩ : ∃ w1 : World, w1 = w.alloc (.cells #[.int .i64 o, .int .i64 n, .slice go gn gc] 113) := ⟨_, rfl⟩
    have HE1 : Hid (Ex w.heap.size none w w1) := Lib.hid (by rw [hw1]; exact Ex.new _ _)
    have hz1 : w.heap.size + 1 ≤ w1.heap.size := by rw [hw1]; simp
    have HC : Hid (∀ w', Ex w1.heap.size none w1 w' → w'.cell? ⟨w.heap.size, 0, none⟩ = some (.int .i64 o) ∧ w'.cell? ⟨w.heap.size, 1, none⟩ = some (.int .i64 n) ∧ w'.cell? ⟨w.heap.size, 2, none⟩ = some (.slice go gn gc)) := Lib.hid (fun w' h => by
      have k : w'.heap[w.heap.size]? = some (.cells #[.int .i64 o, .int .i64 n, .slice go gn gc] 113 (0, 0)) := (h.block w.heap.size (by omega) (by simp)).trans (by rw [hw1]; exact heap_alloc_new _ _)
      refine ⟨?_, ?_, ?_⟩ <;> (rw [cell_of_row _ _ _ _ _ _ k]; rfl))
    rw [← hw1]
    clear hw1
    obtain ⟨c0, c1, c2⟩ := HC.out _ (Ex.refl _ _ w1)
    go_wp2_with (first | fail)
    go_ret
    exact ⟨by rw [HK.out]; rfl, HE1.out⟩
  have h1d : decide (0 ≤ o) = true := decide_eq_true h1
  by_cases h2 : o < 64
  case neg =>
    have h2d : decide (o < 64) = false := decide_eq_false h2
    have HK : Hid (validG o n g = false) := by show _ = _; simp [validG, HGN.out, h2]
    go_enter Tryz.func148, Tryz.ntmps148
    go_upto_region 1 with (fail)
    obtain ⟨w1, hw1⟩ : ∃ w1 : World, w1 = w.alloc (.cells #[.int .i64 o, .int .i64 n, .slice go gn gc] 113) := ⟨_, rfl⟩
    have HE1 : Hid (Ex w.heap.size none w w1) := Lib.hid (by rw [hw1]; exact Ex.new _ _)
    have hz1 : w.heap.size + 1 ≤ w1.heap.size := by rw [hw1]; simp
    have HC : Hid (∀ w', Ex w1.heap.size none w1 w' → w'.cell? ⟨w.heap.size, 0, none⟩ = some (.int .i64 o) ∧ w'.cell? ⟨w.heap.size, 1, none⟩ = some (.int .i64 n) ∧ w'.cell? ⟨w.heap.size, 2, none⟩ = some (.slice go gn gc)) := Lib.hid (fun w' h => by
      have k : w'.heap[w.heap.size]? = some (.cells #[.int .i64 o, .int .i64 n, .slice go gn gc] 113 (0, 0)) := (h.block w.heap.size (by omega) (by simp)).trans (by rw [hw1]; exact heap_alloc_new _ _)
      refine ⟨?_, ?_, ?_⟩ <;> (rw [cell_of_row _ _ _ _ _ _ k]; rfl))
    rw [← hw1]
    clear hw1
    obtain ⟨c0, c1, c2⟩ := HC.out _ (Ex.refl _ _ w1)
    go_wp2_with (first | fail)
    go_ret
    exact ⟨by rw [HK.out]; rfl, HE1.out⟩
  have h2d : decide (o < 64) = true := decide_eq_true h2
  by_cases h3 : gn ≤ 12
  case neg =>
    have h3d : decide (gn ≤ 12) = false := decide_eq_false h3
    have HK : Hid (validG o n g = false) := by show _ = _; simp [validG, HGN.out, h3]
    go_enter Tryz.func148, Tryz.ntmps148
    go_upto_region 1 with (fail)
    obtain ⟨w1, hw1⟩ : ∃ w1 : World, w1 = w.alloc (.cells #[.int .i64 o, .int .i64 n, .slice go gn gc] 113) := ⟨_, rfl⟩
    have HE1 : Hid (Ex w.heap.size none w w1) := Lib.hid (by rw [hw1]; exact Ex.new _ _)
    have hz1 : w.heap.size + 1 ≤ w1.heap.size := by rw [hw1]; simp
    have HC : Hid (∀ w', Ex w1.heap.size none w1 w' → w'.cell? ⟨w.heap.size, 0, none⟩ = some (.int .i64 o) ∧ w'.cell? ⟨w.heap.size, 1, none⟩ = some (.int .i64 n) ∧ w'.cell? ⟨w.heap.size, 2, none⟩ = some (.slice go gn gc)) := Lib.hid (fun w' h => by
      have k : w'.heap[w.heap.size]? = some (.cells #[.int .i64 o, .int .i64 n, .slice go gn gc] 113 (0, 0)) := (h.block w.heap.size (by omega) (by simp)).trans (by rw [hw1]; exact heap_alloc_new _ _)
      refine ⟨?_, ?_, ?_⟩ <;> (rw [cell_of_row _ _ _ _ _ _ k]; rfl))
    rw [← hw1]
    clear hw1
    obtain ⟨c0, c1, c2⟩ := HC.out _ (Ex.refl _ _ w1)
    go_wp2_with (first | fail)
    go_ret
    exact ⟨by rw [HK.out]; rfl, HE1.out⟩
  have h3d : decide (gn ≤ 12) = true := decide_eq_true h3
  cases h4 : validI g
  case false =>
    have HK : Hid (validG o n g = false) := by show _ = _; simp [validG, HGN.out, h4]
    go_enter Tryz.func148, Tryz.ntmps148
    go_upto_region 1 with (fail)
    obtain ⟨w1, hw1⟩ : ∃ w1 : World, w1 = w.alloc (.cells #[.int .i64 o, .int .i64 n, .slice go gn gc] 113) := ⟨_, rfl⟩
    have HE1 : Hid (Ex w.heap.size none w w1) := Lib.hid (by rw [hw1]; exact Ex.new _ _)
    have hz1 : w.heap.size + 1 ≤ w1.heap.size := by rw [hw1]; simp
    have HC : Hid (∀ w', Ex w1.heap.size none w1 w' → w'.cell? ⟨w.heap.size, 0, none⟩ = some (.int .i64 o) ∧ w'.cell? ⟨w.heap.size, 1, none⟩ = some (.int .i64 n) ∧ w'.cell? ⟨w.heap.size, 2, none⟩ = some (.slice go gn gc)) := Lib.hid (fun w' h => by
      have k : w'.heap[w.heap.size]? = some (.cells #[.int .i64 o, .int .i64 n, .slice go gn gc] 113 (0, 0)) := (h.block w.heap.size (by omega) (by simp)).trans (by rw [hw1]; exact heap_alloc_new _ _)
      refine ⟨?_, ?_, ?_⟩ <;> (rw [cell_of_row _ _ _ _ _ _ k]; rfl))
    rw [← hw1]
    clear hw1
    obtain ⟨c0, c1, c2⟩ := HC.out _ (Ex.refl _ _ w1)
    go_wp2_with (first | (go_at_call 222; refine (asB (refValid24_any _ g w1 ⟨go, gc, by rw [HGN.out], HI.out.keep HE1.out (Nat.le_refl _) (by simp)⟩ (by rw [HGN.out]; exact hm)) h4).mono ?_; rintro e w2 ⟨rfl, hex⟩; have HE2 := Lib.hid hex; have hz2 := hex.size; clear hex c0 c1 c2; obtain ⟨c0, c1, c2⟩ := HC.out _ HE2.out) | fail)
    go_ret
    exact ⟨by rw [HK.out]; rfl, (HE1.out.trans HE2.out (by omega) (by simp))⟩
  cases h5 : hasI g o
  case true =>
    have HK : Hid (validG o n g = false) := by show _ = _; simp [validG, HGN.out, h5]
    go_enter Tryz.func148, Tryz.ntmps148
    go_upto_region 1 with (fail)
    obtain ⟨w1, hw1⟩ : ∃ w1 : World, w1 = w.alloc (.cells #[.int .i64 o, .int .i64 n, .slice go gn gc] 113) := ⟨_, rfl⟩
    have HE1 : Hid (Ex w.heap.size none w w1) := Lib.hid (by rw [hw1]; exact Ex.new _ _)
    have hz1 : w.heap.size + 1 ≤ w1.heap.size := by rw [hw1]; simp
    have HC : Hid (∀ w', Ex w1.heap.size none w1 w' → w'.cell? ⟨w.heap.size, 0, none⟩ = some (.int .i64 o) ∧ w'.cell? ⟨w.heap.size, 1, none⟩ = some (.int .i64 n) ∧ w'.cell? ⟨w.heap.size, 2, none⟩ = some (.slice go gn gc)) := Lib.hid (fun w' h => by
      have k : w'.heap[w.heap.size]? = some (.cells #[.int .i64 o, .int .i64 n, .slice go gn gc] 113 (0, 0)) := (h.block w.heap.size (by omega) (by simp)).trans (by rw [hw1]; exact heap_alloc_new _ _)
      refine ⟨?_, ?_, ?_⟩ <;> (rw [cell_of_row _ _ _ _ _ _ k]; rfl))
    rw [← hw1]
    clear hw1
    obtain ⟨c0, c1, c2⟩ := HC.out _ (Ex.refl _ _ w1)
    go_wp2_with (first | (go_at_call 222; refine (asB (refValid24_any _ g w1 ⟨go, gc, by rw [HGN.out], HI.out.keep HE1.out (Nat.le_refl _) (by simp)⟩ (by rw [HGN.out]; exact hm)) h4).mono ?_; rintro e w2 ⟨rfl, hex⟩; have HE2 := Lib.hid hex; have hz2 := hex.size; clear hex c0 c1 c2; obtain ⟨c0, c1, c2⟩ := HC.out _ HE2.out) | (go_at_call 44; refine (refHas_any _ g o w2 ⟨go, gc, by rw [HGN.out], HI.out.keep (HE1.out.trans HE2.out (by omega) (by simp)) (Nat.le_refl _) (by simp)⟩ (by rw [HGN.out]; omega)).mono ?_; rw [h5]; rintro e w3 ⟨rfl, rfl⟩) | fail)
    go_ret
    exact ⟨by rw [HK.out]; rfl, (HE1.out.trans HE2.out (by omega) (by simp))⟩
  by_cases h6 : 1 ≤ n
  case neg =>
    have h6d : decide (1 ≤ n) = false := decide_eq_false h6
    have HK : Hid (validG o n g = false) := by show _ = _; simp [validG, HGN.out, h6]
    go_enter Tryz.func148, Tryz.ntmps148
    go_upto_region 1 with (fail)
    obtain ⟨w1, hw1⟩ : ∃ w1 : World, w1 = w.alloc (.cells #[.int .i64 o, .int .i64 n, .slice go gn gc] 113) := ⟨_, rfl⟩
    have HE1 : Hid (Ex w.heap.size none w w1) := Lib.hid (by rw [hw1]; exact Ex.new _ _)
    have hz1 : w.heap.size + 1 ≤ w1.heap.size := by rw [hw1]; simp
    have HC : Hid (∀ w', Ex w1.heap.size none w1 w' → w'.cell? ⟨w.heap.size, 0, none⟩ = some (.int .i64 o) ∧ w'.cell? ⟨w.heap.size, 1, none⟩ = some (.int .i64 n) ∧ w'.cell? ⟨w.heap.size, 2, none⟩ = some (.slice go gn gc)) := Lib.hid (fun w' h => by
      have k : w'.heap[w.heap.size]? = some (.cells #[.int .i64 o, .int .i64 n, .slice go gn gc] 113 (0, 0)) := (h.block w.heap.size (by omega) (by simp)).trans (by rw [hw1]; exact heap_alloc_new _ _)
      refine ⟨?_, ?_, ?_⟩ <;> (rw [cell_of_row _ _ _ _ _ _ k]; rfl))
    rw [← hw1]
    clear hw1
    obtain ⟨c0, c1, c2⟩ := HC.out _ (Ex.refl _ _ w1)
    go_wp2_with (first | (go_at_call 222; refine (asB (refValid24_any _ g w1 ⟨go, gc, by rw [HGN.out], HI.out.keep HE1.out (Nat.le_refl _) (by simp)⟩ (by rw [HGN.out]; exact hm)) h4).mono ?_; rintro e w2 ⟨rfl, hex⟩; have HE2 := Lib.hid hex; have hz2 := hex.size; clear hex c0 c1 c2; obtain ⟨c0, c1, c2⟩ := HC.out _ HE2.out) | (go_at_call 44; refine (refHas_any _ g o w2 ⟨go, gc, by rw [HGN.out], HI.out.keep (HE1.out.trans HE2.out (by omega) (by simp)) (Nat.le_refl _) (by simp)⟩ (by rw [HGN.out]; omega)).mono ?_; rw [h5]; rintro e w3 ⟨rfl, rfl⟩) | fail)
    go_ret
    exact ⟨by rw [HK.out]; rfl, (HE1.out.trans HE2.out (by omega) (by simp))⟩
  have h6d : decide (1 ≤ n) = true := decide_eq_true h6
  by_cases h7 : n ≤ (gn : Int)
  case neg =>
    have h7d : decide (n ≤ (gn : Int)) = false := decide_eq_false h7
    have HK : Hid (validG o n g = false) := by show _ = _; simp [validG, HGN.out, h7]
    go_enter Tryz.func148, Tryz.ntmps148
    go_upto_region 1 with (fail)
    obtain ⟨w1, hw1⟩ : ∃ w1 : World, w1 = w.alloc (.cells #[.int .i64 o, .int .i64 n, .slice go gn gc] 113) := ⟨_, rfl⟩
    have HE1 : Hid (Ex w.heap.size none w w1) := Lib.hid (by rw [hw1]; exact Ex.new _ _)
    have hz1 : w.heap.size + 1 ≤ w1.heap.size := by rw [hw1]; simp
    have HC : Hid (∀ w', Ex w1.heap.size none w1 w' → w'.cell? ⟨w.heap.size, 0, none⟩ = some (.int .i64 o) ∧ w'.cell? ⟨w.heap.size, 1, none⟩ = some (.int .i64 n) ∧ w'.cell? ⟨w.heap.size, 2, none⟩ = some (.slice go gn gc)) := Lib.hid (fun w' h => by
      have k : w'.heap[w.heap.size]? = some (.cells #[.int .i64 o, .int .i64 n, .slice go gn gc] 113 (0, 0)) := (h.block w.heap.size (by omega) (by simp)).trans (by rw [hw1]; exact heap_alloc_new _ _)
      refine ⟨?_, ?_, ?_⟩ <;> (rw [cell_of_row _ _ _ _ _ _ k]; rfl))
    rw [← hw1]
    clear hw1
    obtain ⟨c0, c1, c2⟩ := HC.out _ (Ex.refl _ _ w1)
    go_wp2_with (first | (go_at_call 222; refine (asB (refValid24_any _ g w1 ⟨go, gc, by rw [HGN.out], HI.out.keep HE1.out (Nat.le_refl _) (by simp)⟩ (by rw [HGN.out]; exact hm)) h4).mono ?_; rintro e w2 ⟨rfl, hex⟩; have HE2 := Lib.hid hex; have hz2 := hex.size; clear hex c0 c1 c2; obtain ⟨c0, c1, c2⟩ := HC.out _ HE2.out) | (go_at_call 44; refine (refHas_any _ g o w2 ⟨go, gc, by rw [HGN.out], HI.out.keep (HE1.out.trans HE2.out (by omega) (by simp)) (Nat.le_refl _) (by simp)⟩ (by rw [HGN.out]; omega)).mono ?_; rw [h5]; rintro e w3 ⟨rfl, rfl⟩) | fail)
    go_ret
    exact ⟨by rw [HK.out]; rfl, (HE1.out.trans HE2.out (by omega) (by simp))⟩
  have h7d : decide (n ≤ (gn : Int)) = true := decide_eq_true h7
  have HK : Hid (validG o n g = true) := by show _ = _; simp [validG, HGN.out, h1, h2, h3, h4, h5, h6, h7]
  go_enter Tryz.func148, Tryz.ntmps148
  go_upto_region 1 with (fail)
  obtain ⟨w1, hw1⟩ : ∃ w1 : World, w1 = w.alloc (.cells #[.int .i64 o, .int .i64 n, .slice go gn gc] 113) := ⟨_, rfl⟩
  have HE1 : Hid (Ex w.heap.size none w w1) := Lib.hid (by rw [hw1]; exact Ex.new _ _)
  have hz1 : w.heap.size + 1 ≤ w1.heap.size := by rw [hw1]; simp
  have HC : Hid (∀ w', Ex w1.heap.size none w1 w' → w'.cell? ⟨w.heap.size, 0, none⟩ = some (.int .i64 o) ∧ w'.cell? ⟨w.heap.size, 1, none⟩ = some (.int .i64 n) ∧ w'.cell? ⟨w.heap.size, 2, none⟩ = some (.slice go gn gc)) := Lib.hid (fun w' h => by
    have k : w'.heap[w.heap.size]? = some (.cells #[.int .i64 o, .int .i64 n, .slice go gn gc] 113 (0, 0)) := (h.block w.heap.size (by omega) (by simp)).trans (by rw [hw1]; exact heap_alloc_new _ _)
    refine ⟨?_, ?_, ?_⟩ <;> (rw [cell_of_row _ _ _ _ _ _ k]; rfl))
  rw [← hw1]
  clear hw1
  obtain ⟨c0, c1, c2⟩ := HC.out _ (Ex.refl _ _ w1)
  go_wp2_with (first | (go_at_call 222; refine (asB (refValid24_any _ g w1 ⟨go, gc, by rw [HGN.out], HI.out.keep HE1.out (Nat.le_refl _) (by simp)⟩ (by rw [HGN.out]; exact hm)) h4).mono ?_; rintro e w2 ⟨rfl, hex⟩; have HE2 := Lib.hid hex; have hz2 := hex.size; clear hex c0 c1 c2; obtain ⟨c0, c1, c2⟩ := HC.out _ HE2.out) | (go_at_call 44; refine (refHas_any _ g o w2 ⟨go, gc, by rw [HGN.out], HI.out.keep (HE1.out.trans HE2.out (by omega) (by simp)) (Nat.le_refl _) (by simp)⟩ (by rw [HGN.out]; omega)).mono ?_; rw [h5]; rintro e w3 ⟨rfl, rfl⟩) | fail)
  go_ret
  exact ⟨by rw [HK.out]; rfl, (HE1.out.trans HE2.out (by omega) (by simp))⟩

set_option maxHeartbeats 4000000 in
set_option maxRecDepth 100000 in
theorem refVoices34_any (o n : Int) (go : Option Addr) (gn gc : Nat) (g : List Int) (v : Value) (vs : List Int) (w : World) (hg : IntsAt w go g) (hgn : g.length = gn) (hm : gn ≤ 1000000) (hv : Ints w v vs) (hvm : vs.length ≤ 1000000) :
    Calls Tryz.prog 80 #[.agg #[.int .i64 o, .int .i64 n, .slice go gn gc], v] w fun e w' => e = .returned (.int .i64 (countG g vs)) ∧ Ex w.heap.size none w w' := by
  have HGN := Lib.hid hgn
  have HGI : Hid (∀ w', Ex w.heap.size none w w' → IntsAt w' go g) := Lib.hid (fun w' h => hg.keep h (Nat.le_refl _) (by simp))
  have HVI : Hid (∀ w', Ex w.heap.size none w w' → Ints w' v vs) := Lib.hid (fun w' h => hv.keep h (Nat.le_refl _))
  clear hg hgn hv
  go_enter Tryz.func80, Tryz.ntmps80
  go_upto_region 1 with (fail)
  obtain ⟨w1, hw1⟩ : ∃ w1 : World, w1 = w.alloc (.cells #[.int .i64 o, .int .i64 n, .slice go gn gc] 113) := ⟨_, rfl⟩
  have HE1 : Hid (Ex w.heap.size none w w1) := Lib.hid (by rw [hw1]; exact Ex.new _ _)
  have hz1 : w.heap.size + 1 ≤ w1.heap.size := by rw [hw1]; simp
  have HC : Hid (∀ w', Ex w1.heap.size none w1 w' → w'.cell? ⟨w.heap.size, 0, none⟩ = some (.int .i64 o) ∧ w'.cell? ⟨w.heap.size, 1, none⟩ = some (.int .i64 n) ∧ w'.cell? ⟨w.heap.size, 2, none⟩ = some (.slice go gn gc)) := Lib.hid (fun w' h => by
    have k : w'.heap[w.heap.size]? = some (.cells #[.int .i64 o, .int .i64 n, .slice go gn gc] 113 (0, 0)) := (h.block w.heap.size (by omega) (by simp)).trans (by rw [hw1]; exact heap_alloc_new _ _)
    refine ⟨?_, ?_, ?_⟩ <;> (rw [cell_of_row _ _ _ _ _ _ k]; rfl))
  rw [← hw1]
  clear hw1
  obtain ⟨c0, c1, c2⟩ := HC.out _ (Ex.refl _ _ w1)
  go_wp2_with fail
  go_loop [5, 6] (fun c i => ∃ k j : Nat, k ≤ gn ∧ j ≤ k ∧ i = .int .i64 k ∧ c = .int .i64 j ∧ Hid (countG (g.take k) vs = j)) (fun _ i => gn - (intOf i).toNat)
  case atStart => exact ⟨0, 0, Nat.zero_le _, Nat.le_refl _, rfl, rfl, Lib.hid rfl⟩
  case round =>
    obtain ⟨k, j, hk, hj, rfl, rfl, HJ⟩ := hrel
    by_cases hlt : k < gn
    · have hltI : (k : Int) < (gn : Int) := by omega
      obtain ⟨b, off, y, rfl, cy, HY⟩ := (HGI.out _ HE1.out).get k (by rw [HGN.out]; exact hlt)
      have HT := Lib.hid (countG_take (vs := vs) (by rw [HGN.out]; exact hlt) HY.out)
      cases hb : hasI vs y with
      | true =>
        have HN : Hid (countG (g.take (k + 1)) vs = j + 1) := by show _ = _; rw [HT.out, HJ.out, hb]; rfl
        go_wp2_with (first | (go_at_call 44; refine (refHas_any _ vs y w1 (HVI.out _ HE1.out) (by omega)).mono ?_; rw [hb]; rintro e w3 ⟨rfl, rfl⟩) | fail)
        go_round
        case rel => exact ⟨k + 1, j + 1, by omega, by omega, by go_num, by go_num, HN⟩
        case measure => simp [intOf] <;> omega
      | false =>
        have HN : Hid (countG (g.take (k + 1)) vs = j) := by show _ = _; rw [HT.out, HJ.out, hb]; rfl
        go_wp2_with (first | (go_at_call 44; refine (refHas_any _ vs y w1 (HVI.out _ HE1.out) (by omega)).mono ?_; rw [hb]; rintro e w3 ⟨rfl, rfl⟩) | fail)
        go_round
        case rel => exact ⟨k + 1, j, by omega, by omega, by go_num, rfl, HN⟩
        case measure => simp [intOf] <;> omega
    · have hltI : ¬ (k : Int) < (gn : Int) := by omega
      have HR : Hid (countG g vs = j) := by
        have h := HJ.out
        rwa [List.take_of_length_le (by rw [HGN.out]; omega)] at h
      go_wp2
      go_ret
      exact ⟨by rw [HR.out]; rfl, HE1.out⟩

set_option maxHeartbeats 4000000 in
set_option maxRecDepth 100000 in
theorem refEnough_any (o n : Int) (go : Option Addr) (gn gc : Nat) (g : List Int) (v : Value) (vs : List Int) (w : World) (hg : IntsAt w go g) (hgn : g.length = gn) (hm : gn ≤ 1000000) (hv : Ints w v vs) (hvm : vs.length ≤ 1000000) :
    Calls Tryz.prog 81 #[.agg #[.int .i64 o, .int .i64 n, .slice go gn gc], v] w fun e w' => e = .returned (.bool (enoughG o n g vs)) ∧ Ex w.heap.size none w w' := by
  have HGN := Lib.hid hgn
  have HGI : Hid (∀ w', Ex w.heap.size none w w' → IntsAt w' go g) := Lib.hid (fun w' h => hg.keep h (Nat.le_refl _) (by simp))
  have HVI : Hid (∀ w', Ex w.heap.size none w w' → Ints w' v vs) := Lib.hid (fun w' h => hv.keep h (Nat.le_refl _))
  clear hg hgn hv
  obtain ⟨bv, hbv⟩ : ∃ bv, bv = validG o n g := ⟨_, rfl⟩
  obtain ⟨cv, hcv⟩ : ∃ cv, cv = countG g vs := ⟨_, rfl⟩
  have HB := Lib.hid hbv
  have HCV := Lib.hid hcv
  clear hbv hcv
  go_enter Tryz.func81, Tryz.ntmps81
  go_upto_region 1 with (fail)
  obtain ⟨w1, hw1⟩ : ∃ w1 : World, w1 = w.alloc (.cells #[.int .i64 o, .int .i64 n, .slice go gn gc] 113) := ⟨_, rfl⟩
  have HE1 : Hid (Ex w.heap.size none w w1) := Lib.hid (by rw [hw1]; exact Ex.new _ _)
  have hz1 : w.heap.size + 1 ≤ w1.heap.size := by rw [hw1]; simp
  have HC : Hid (∀ w', Ex w1.heap.size none w1 w' → w'.cell? ⟨w.heap.size, 0, none⟩ = some (.int .i64 o) ∧ w'.cell? ⟨w.heap.size, 1, none⟩ = some (.int .i64 n) ∧ w'.cell? ⟨w.heap.size, 2, none⟩ = some (.slice go gn gc)) := Lib.hid (fun w' h => by
    have k : w'.heap[w.heap.size]? = some (.cells #[.int .i64 o, .int .i64 n, .slice go gn gc] 113 (0, 0)) := (h.block w.heap.size (by omega) (by simp)).trans (by rw [hw1]; exact heap_alloc_new _ _)
    refine ⟨?_, ?_, ?_⟩ <;> (rw [cell_of_row _ _ _ _ _ _ k]; rfl))
  rw [← hw1]
  clear hw1
  obtain ⟨c0, c1, c2⟩ := HC.out _ (Ex.refl _ _ w1)
  have H1 : Hid (∀ p : ExW w1, Calls Tryz.prog 148 #[.agg #[.int .i64 o, .int .i64 n, .slice go gn gc]] p.w' fun e w' => e = .returned (.bool bv) ∧ Ex p.w'.heap.size none p.w' w') := Lib.hid (fun p => (refValid34_any o n go gn gc g p.w' (HGI.out _ (HE1.out.trans p.ex (by omega) (by simp))) HGN.out hm).mono fun e w' h => ⟨by rw [h.1, HB.out], h.2⟩)
  have H2 : Hid (∀ p : ExW w1, Calls Tryz.prog 80 #[.agg #[.int .i64 o, .int .i64 n, .slice go gn gc], v] p.w' fun e w' => e = .returned (.int .i64 cv) ∧ Ex p.w'.heap.size none p.w' w') := Lib.hid (fun p => (refVoices34_any o n go gn gc g v vs p.w' (HGI.out _ (HE1.out.trans p.ex (by omega) (by simp))) HGN.out hm (HVI.out _ (HE1.out.trans p.ex (by omega) (by simp))) hvm).mono fun e w' h => ⟨by rw [h.1, HCV.out], h.2⟩)
  have g0 := fun p : ExW w1 => p.cellG2 c0
  have g1 := fun p : ExW w1 => p.cellG2 c1
  have g2 := fun p : ExW w1 => p.cellG2 c2
  clear c0 c1 c2
  cases hbb : bv with
  | false =>
    rw [hbb] at H1
    have HK : Hid (enoughG o n g vs = false) := by show _ = _; rw [enoughG, ← HB.out, hbb]; rfl
    clear hbb
    go_upto_region 1 with (fail)
    refine wp_region_quiet_ex (by kernel_rfl) (by kernel_rfl) ?_
    repeat (go_big_quiet_step (first | (go_at_call 148; refine calls_ex_of (H1.out _)) | (go_at_call 80; refine calls_ex_of (H2.out _)) | fail))
    refine wpQuiet_nil ?_
    intro _ hw'
    obtain ⟨p9, hw''⟩ := hw'
    subst hw''
    clear g0 g1 g2
    go_wp2
    go_ret
    exact ⟨by rw [HK.out]; rfl, HE1.out.trans p9.ex (by omega) (by simp)⟩
  | true =>
    rw [hbb] at H1
    have HK : Hid (enoughG o n g vs = decide (n ≤ (cv : Int))) := by show _ = _; rw [enoughG, ← HB.out, hbb, ← HCV.out]; rfl
    clear hbb
    go_upto_region 1 with (fail)
    refine wp_region_quiet_ex (by kernel_rfl) (by kernel_rfl) ?_
    repeat (go_big_quiet_step (first | (go_at_call 148; refine calls_ex_of (H1.out _)) | (go_at_call 80; refine calls_ex_of (H2.out _)) | fail))
    refine wpQuiet_nil ?_
    intro _ hw'
    obtain ⟨p9, hw''⟩ := hw'
    subst hw''
    clear g0 g1 g2
    go_wp2
    go_ret
    exact ⟨by rw [HK.out]; rfl, HE1.out.trans p9.ex (by omega) (by simp)⟩
end Go.Proofs.YtaghfcnpnfhacaaGreat

namespace Go.Proofs.YtaghfcnpnfhacaaGreat
open Go.RowKit Go.Maps

theorem lastOf_mem {l : List (Int × Int)} {k v : Int} (h : lastOf l k = some v) : (k, v) ∈ l := by
  unfold lastOf at h
  rw [Option.map_eq_some_iff] at h
  obtain ⟨p, hp, rfl⟩ := h
  have hm := List.mem_of_getLast? hp
  rw [List.mem_filter] at hm
  have h2 := hm.2
  simp only [decide_eq_true_eq] at h2
  rw [← h2]
  exact hm.1
end Go.Proofs.YtaghfcnpnfhacaaGreat

namespace Go.Proofs.YtaghfcnpnfhacaaGreat
open Go.RowKit Go.Maps

/-- How a value of whatever type reads: as itself. -/
def valElem (v : Value) : Option (DataW Value × List MemPlace) := some (.held v, [])
/-- The map behind stores. -/
def mapV (l : List (Lit × Value)) : DataW Value := l.foldl (fun D p => D.put p.1 (.held p.2)) (.map [])
theorem mapV_snoc (l : List (Lit × Value)) (p : Lit × Value) : mapV (l ++ [p]) = (mapV l).put p.1 (.held p.2) := by
  unfold mapV; rw [List.foldl_append]; rfl
open Classical in
/-- What was stored last at a key. -/
noncomputable def lastV (l : List (Lit × Value)) (k : Lit) : Option Value := l.foldl (fun r p => if p.1 = k then some p.2 else r) none
open Classical in
theorem lastV_snoc (l : List (Lit × Value)) (p : Lit × Value) (k : Lit) : lastV (l ++ [p]) k = if p.1 = k then some p.2 else lastV l k := by
  unfold lastV; rw [List.foldl_append]; rfl
theorem mapV_isMap (l : List (Lit × Value)) : IsMap (mapV l) := by
  induction l using snoc_ind with
  | nil => exact isMap_empty
  | snoc l p ih => rw [mapV_snoc]; exact ih.put _ _
theorem mapV_has {l : List (Lit × Value)} {k : Lit} (hk : WideAt.IsKeyLit k) : Maps.has (mapV l) k = (lastV l k).isSome := by
  induction l using snoc_ind with
  | nil => rfl
  | snoc l p ih =>
    rw [mapV_snoc, lastV_snoc]
    by_cases h : p.1 = k
    · rw [if_pos h, h, has_put_same (mapV_isMap l) hk]; rfl
    · rw [if_neg h, has_put_other (fun e => h e.symm), ih]
theorem mapV_at {l : List (Lit × Value)} {k : Lit} (z : Value) (hk : WideAt.IsKeyLit k) : (mapV l).atKey k (.held z) = .held ((lastV l k).getD z) := by
  induction l using snoc_ind with
  | nil => rfl
  | snoc l p ih =>
    rw [mapV_snoc, lastV_snoc]
    by_cases h : p.1 = k
    · rw [if_pos h, h, atKey_put_same (mapV_isMap l) hk]; rfl
    · rw [if_neg h, atKey_put_other (fun e => h e.symm), ih]
theorem valElem_inv {v : Value} {d : DataW Value} {ps : List MemPlace} (h : valElem v = some (d, ps)) : d = .held v := by
  unfold valElem at h; cases h; rfl
/-- 'v, ok := m[k]' at a map of whatever values, at the operation. -/
theorem wpList_lookV {P : Program} (w : World) {ops : Array Oper} {rest : List Oper} {o : Oper} {a : Act} {Q : Exit → Act → World → Prop}
    (hg : o.guard = none) (m x : Operand) (t : TypeId) (hop : o.op = Op.lookup t m x true)
    (k e : TypeId) (K : Keyed P k) (ht : P.underlying t = some (.map k e)) (z : Value) (hz : (zeroValue e).run P w = .ok z w) (b n : Nat) (l : List (Lit × Value))
    (hm : a.eval m = .map (some b)) (hown : w.ownsMap P k valElem b n (mapV l)) (key : Value) (kl : Lit) (hx : a.eval x = key) (hkey : keyOf P k key = some kl) (hkl : WideAt.IsKeyLit kl)
    (v : Value) (ok : Bool) (hv : (lastV l kl).getD z = v) (hok : (lastV l kl).isSome = ok)
    (hK : wpList P ops Q rest (a.put o.dst (.tuple #[v, .bool ok])) w) :
    wpList P ops Q (o :: rest) a w := by
  refine wpList_plain hg fun K' hK' => ?_
  obtain ⟨u, ps, hrun, hr⟩ := hown.look_ok K ht hz (zd := .held z) (zp := []) rfl hkey
  have h1 := valElem_inv hr
  rw [mapV_at z hkl, hv] at h1
  cases h1
  rw [mapV_has hkl, hok] at hrun
  unfold Oper.wp
  simp [execOp, hop, hm, hx, hrun, Result.andThen]
  exact hK' _ _ hK
end Go.Proofs.YtaghfcnpnfhacaaGreat

namespace Go.Proofs.YtaghfcnpnfhacaaGreat
open Go.RowKit Go.Sort

theorem set3g {w : World} {g : Nat} {x y z a b c : Value} {t : TypeId} (h : w.heap[g]? = some (.cells #[x, y, z] t (0, 0))) : (((w.setCell ⟨g, 0, none⟩ a).setCell ⟨g, 1, none⟩ b).setCell ⟨g, 2, none⟩ c).heap[g]? = some (.cells #[a, b, c] t (0, 0)) := by
  rw [heap_setCell_same _ _ _ _ _ _ (heap_setCell_same _ _ _ _ _ _ (heap_setCell_same _ _ _ _ _ _ h))]; rfl
theorem set6g {w : World} {g : Nat} {x0 x1 x2 x3 x4 x5 : Value} {t : TypeId} (h : w.heap[g]? = some (.cells #[x0, x1, x2, x3, x4, x5] t (0, 0))) (a b c d e f : Value) : ((((((w.setCell ⟨g, 0, none⟩ a).setCell ⟨g, 1, none⟩ b).setCell ⟨g, 2, none⟩ c).setCell ⟨g, 3, none⟩ d).setCell ⟨g, 4, none⟩ e).setCell ⟨g, 5, none⟩ f).heap[g]? = some (.cells #[a, b, c, d, e, f] t (0, 0)) := by
  rw [heap_setCell_same _ _ _ _ _ _ (heap_setCell_same _ _ _ _ _ _ (heap_setCell_same _ _ _ _ _ _ (heap_setCell_same _ _ _ _ _ _ (heap_setCell_same _ _ _ _ _ _ (heap_setCell_same _ _ _ _ _ _ h)))))]; rfl
theorem cell_lt {w : World} {g i : Nat} {v : Value} (h : w.cell? ⟨g, i, none⟩ = some v) : g < w.heap.size := World.block_lt_of_cell? w _ h
theorem row_frozen_g {w : World} {g i : Nat} {cs : Array Value} {t : TypeId} (h : w.heap[g]? = some (.cells cs t (0, 0))) : w.frozen? ⟨g, i, none⟩ = false := by
  unfold World.frozen?
  dsimp only
  rw [h]
  simp
end Go.Proofs.YtaghfcnpnfhacaaGreat

namespace Go.Proofs.YtaghfcnpnfhacaaGreat
open Go.RowKit

theorem keysTo_yes {c : Int → Bool} {k : Nat} (h : c k = true) : keysTo c (k + 1) = keysTo c k ++ [(k : Int)] := by rw [keysTo, if_pos h]
theorem keysTo_no {c : Int → Bool} {k : Nat} (h : c k = false) : keysTo c (k + 1) = keysTo c k := by rw [keysTo, if_neg (by simp [h]), List.append_nil]

end Go.Proofs.YtaghfcnpnfhacaaGreat

namespace Go.Proofs.YtaghfcnpnfhacaaGreat
open Go.RowKit

def heirRep : Rep (Int × Int) where
  k := 2
  R := fun _ _ cs x => cs = [.int .i64 x.1, .int .i64 x.2]
  len := fun h => by subst h; rfl
  one := fun h => by subst h; intro v hv; simp at hv; rcases hv with rfl | rfl <;> rfl
  keep := fun h _ => h
  mono := fun h _ => h

def heirI (hs : List (Int × Int)) (k : Int) : Option Int := (hs.find? (fun x => x.1 == k)).map (·.2)
end Go.Proofs.YtaghfcnpnfhacaaGreat

namespace Go.Proofs.YtaghfcnpnfhacaaGreat
open Go.RowKit

def keyH (n : Int) : Bool := decide (0 ≤ n) && decide (n < 64)
theorem key_any (n : Int) (w : World) : Calls Tryz.prog 146 #[.int .i64 n] w fun e w' => e = .returned (.bool (keyH n)) ∧ w = w' := by
  by_cases h0 : 0 ≤ n
  · by_cases h1 : n < 64
    · have d0 : decide ((0 : Int) ≤ n) = true := decide_eq_true h0
      have d1 : decide (n < 64) = true := decide_eq_true h1
      have HK : Hid (keyH n = true) := by show _ = _; simp [keyH, h0, h1]
      go_enter Tryz.func146, Tryz.ntmps146
      go_wp2
      go_ret
      exact ⟨by rw [HK.out]; rfl, rfl⟩
    · have d0 : decide ((0 : Int) ≤ n) = true := decide_eq_true h0
      have d1 : decide (n < 64) = false := decide_eq_false h1
      have HK : Hid (keyH n = false) := by show _ = _; simp [keyH, h1]
      go_enter Tryz.func146, Tryz.ntmps146
      go_wp2
      go_ret
      exact ⟨by rw [HK.out]; rfl, rfl⟩
  · have d0 : decide ((0 : Int) ≤ n) = false := decide_eq_false h0
    have HK : Hid (keyH n = false) := by show _ = _; simp [keyH, h0]
    go_enter Tryz.func146, Tryz.ntmps146
    go_wp2
    go_ret
    exact ⟨by rw [HK.out]; rfl, rfl⟩
end Go.Proofs.YtaghfcnpnfhacaaGreat

namespace Go.Proofs.YtaghfcnpnfhacaaGreat
open Go.RowKit Go.Maps

abbrev I64 (a : Int) : Prop := -9223372036854775808 ≤ a ∧ a ≤ 9223372036854775807
set_option maxRecDepth 100000 in
theorem keyOf_lossW (k a : Int) (hk : 0 ≤ k ∧ k < 64) (ha : I64 a) : keyOf Tryz.prog 180 (.agg #[.int .i64 k, .int .i64 a]) = some (keyL k a) := by
  have w1 : (Lit.int .i64 k).wf = true := WalkArith.wf_i64 (by omega)
  have w2 : (Lit.int .i64 a).wf = true := WalkArith.wf_i64 ha
  obtain ⟨m, hm⟩ : ∃ m, Tryz.prog.types.size = m + 1 := ⟨_, (Nat.succ_pred_eq_of_pos (Nat.lt_of_le_of_lt (Nat.zero_le _) Tryz.rowLoss)).symm⟩
  unfold keyOf
  simp only [Tryz.underlying180, Tryz.deepLoss, Value.formed, Tryz.cellsLoss, Bool.true_and]
  rw [hm]
  simp [Program.keyLits, Tryz.underlying180, Tryz.underlying3, Tryz.cellsLoss, Tryz.cellsInt, Value.cells, w1, w2, keyL]
theorem keyL_injW {k k' a a' : Int} (hk : I64 k) (hk' : I64 k') (ha : I64 a) (ha' : I64 a') (h : keyL k a = keyL k' a') : k = k' ∧ a = a' := by
  unfold keyL at h
  simp only [Lit.string.injEq] at h
  have w := fun (x : Int) (hx : I64 x) => WalkArith.wf_i64 (n := x) hx
  have := Go.keyBytes_inj (l := [.int .i64 k, .int .i64 a]) (l' := [.int .i64 k', .int .i64 a']) ⟨rfl, rfl, trivial⟩ (by simp [Lit.keyWf, w k hk, w a ha]) (by simp [Lit.keyWf, w k' hk', w a' ha']) h
  simpa using this
theorem mapG_otherW {l : List Vote} {p : Vote} {k a : Int} (hl : KeysOK (l ++ [p])) (hk : 0 ≤ k ∧ k < 64) (ha : -9223372036854775808 ≤ a ∧ a ≤ 9223372036854775807) (h : ¬ (p.1 = k ∧ p.2.1 = a)) : keyL k a ≠ keyL p.1 p.2.1 := fun e => by
  have hp := hl p (by simp)
  obtain ⟨e1, e2⟩ := keyL_injW ⟨by omega, by omega⟩ ⟨by have := hp.1; omega, by have := hp.1; omega⟩ ha ⟨by have := hp.2; omega, by have := hp.2; omega⟩ e
  exact h ⟨e1.symm, e2.symm⟩
theorem mapG_hasW {a k : Int} {l : List Vote} (hl : KeysOK l) (hk : 0 ≤ k ∧ k < 64) (ha : -9223372036854775808 ≤ a ∧ a ≤ 9223372036854775807) : Maps.has (mapG l) (keyL k a) = (lastOf (onLost l a) k).isSome := by
  induction l using snoc_ind with
  | nil => rfl
  | snoc l p ih =>
    have ih := ih fun q hq => hl q (by simp [hq])
    rw [mapG_snoc, onLost_snoc]
    by_cases h2 : p.2.1 = a
    · rw [if_pos h2, lastOf_snoc]
      by_cases h : p.1 = k
      · rw [if_pos h, h, h2, has_put_same (mapG_isMap l) (keyL_isKey k a)]; rfl
      · rw [if_neg h, has_put_other (mapG_otherW hl hk ha (fun e => h e.1)), ih]
    · rw [if_neg h2, List.append_nil, has_put_other (mapG_otherW hl hk ha (fun e => h2 e.2)), ih]
theorem mapG_atW {a k : Int} {l : List Vote} (hl : KeysOK l) (hk : 0 ≤ k ∧ k < 64) (ha : -9223372036854775808 ≤ a ∧ a ≤ 9223372036854775807) : (mapG l).atKey (keyL k a) (.lit (.int .i64 0)) = .lit (.int .i64 ((lastOf (onLost l a) k).getD 0)) := by
  induction l using snoc_ind with
  | nil => rfl
  | snoc l p ih =>
    have ih := ih fun q hq => hl q (by simp [hq])
    rw [mapG_snoc, onLost_snoc]
    by_cases h2 : p.2.1 = a
    · rw [if_pos h2, lastOf_snoc]
      by_cases h : p.1 = k
      · rw [if_pos h, h, h2, atKey_put_same (mapG_isMap l) (keyL_isKey k a)]; rfl
      · rw [if_neg h, atKey_put_other (mapG_otherW hl hk ha (fun e => h e.1)), ih]
    · rw [if_neg h2, List.append_nil, atKey_put_other (mapG_otherW hl hk ha (fun e => h2 e.2)), ih]
end Go.Proofs.YtaghfcnpnfhacaaGreat

namespace Go.Proofs.YtaghfcnpnfhacaaGreat
open Go.RowKit

set_option maxHeartbeats 400000 in
theorem index_any (v1 : Value) (xs : List Int) (x : Int) (w : World) (hv1 : Ints w v1 xs) (hm : xs.length ≤ 9223372036854775807) :
    Calls Tryz.prog 154 #[v1, .int .i64 x] w fun e w' => ∃ i, e = .returned (.int .i64 i) ∧ Hid (0 ≤ i ↔ hasI xs x = true) ∧ w = w' := by
  obtain ⟨ao, cap, rfl, hx⟩ := hv1
  go_enter Tryz.func154, Tryz.ntmps154
  go_wp2
  go_loop [8] (fun i => ∃ k : Nat, k ≤ xs.length ∧ i = .int .i64 k ∧ hasI (xs.take k) x = false) (fun i => xs.length - (intOf i).toNat)
  case atStart => exact ⟨0, Nat.zero_le _, rfl, rfl⟩
  case round =>
    obtain ⟨k, hk, rfl, hno⟩ := hrel
    have HN := Lib.hid hno
    clear hno
    by_cases hlt : k < xs.length
    · obtain ⟨b, off, y, rfl, hck, HY⟩ := hx.get k hlt
      by_cases he : x = y
      · have hb : (x == y) = true := by simpa using he
        have HR := Lib.hid (hasI_get hlt (HY.out.trans he.symm))
        clear he
        go_wp2
        go_ret
        exact ⟨_, rfl, (by rw [HR.out]; simp : _ ↔ _), rfl⟩
      · have hb : (x == y) = false := by simpa using he
        have HR := Lib.hid (hasI_take_succ hlt HN.out (by rw [HY.out]; exact fun h => he h.symm))
        clear he
        go_wp2
        go_round
        case rel => exact ⟨k + 1, by omega, by go_num, HR.out⟩
        case measure => simp [intOf]; omega
    · have HR : Hid (hasI xs x = false) := by
        have h := HN.out
        rwa [List.take_of_length_le (by omega)] at h
      go_wp2
      go_ret
      exact ⟨_, rfl, (by rw [HR.out]; simp : _ ↔ _), rfl⟩

set_option maxHeartbeats 400000 in
theorem contains_any (v1 : Value) (xs : List Int) (x : Int) (w : World) (hv1 : Ints w v1 xs) (hm : xs.length ≤ 9223372036854775807) :
    Calls Tryz.prog 77 #[v1, .int .i64 x] w fun e w' => e = .returned (.bool (hasI xs x)) ∧ w = w' := by
  obtain ⟨ao, cap, rfl, hx⟩ := hv1
  go_enter Tryz.func77, Tryz.ntmps77
  go_wp2_with (go_at_call 154; refine (index_any _ _ _ _ ⟨_, _, rfl, hx⟩ hm).mono ?_; rintro e w' ⟨i, rfl, hi, rfl⟩)
  go_ret
  refine ⟨ret_bool ?_, rfl⟩
  have h := hi.out
  show decide (0 ≤ i) = _
  rw [Bool.eq_iff_iff, decide_eq_true_eq, h]

end Go.Proofs.YtaghfcnpnfhacaaGreat

namespace Go.Proofs.YtaghfcnpnfhacaaGreat
open Go.RowKit

/-- cmp.Compare of two numbers. -/
def cmpI (x y : Int) : Int := if x < y then -1 else if y < x then 1 else 0
theorem cmpI_lt {x y : Int} : cmpI x y < 0 ↔ x < y := by unfold cmpI; split <;> (try split) <;> omega
theorem cmpI_zero {x y : Int} : cmpI x y = 0 ↔ x = y := by unfold cmpI; split <;> (try split) <;> omega
theorem isNaN_any (x : Int) (w : World) : Calls Tryz.prog 220 #[.int .i64 x] w fun e w' => e = .returned (.bool false) ∧ w = w' := by
  have h : (x != x) = false := by simp
  go_enter Tryz.func220, Tryz.ntmps220
  go_wp2
  go_ret
  exact ⟨rfl, rfl⟩

set_option maxHeartbeats 400000 in
theorem compare_any (x y : Int) (w : World) : Calls Tryz.prog 145 #[.int .i64 x, .int .i64 y] w fun e w' => e = .returned (.int .i64 (cmpI x y)) ∧ w = w' := by
  by_cases h1 : x < y
  · have d1 : decide (x < y) = true := decide_eq_true h1
    have HK : Hid (cmpI x y = -1) := by show _ = _; simp [cmpI, h1]
    go_enter Tryz.func145, Tryz.ntmps145
    go_wp2_with (go_at_call 220; refine (isNaN_any _ _).mono ?_; rintro e w' ⟨rfl, rfl⟩)
    go_ret
    exact ⟨by rw [HK.out]; rfl, rfl⟩
  · have d1 : decide (x < y) = false := decide_eq_false h1
    by_cases h2 : y < x
    · have d2 : decide (y < x) = true := decide_eq_true h2
      have HK : Hid (cmpI x y = 1) := by show _ = _; simp [cmpI, h1, h2]
      go_enter Tryz.func145, Tryz.ntmps145
      go_wp2_with (go_at_call 220; refine (isNaN_any _ _).mono ?_; rintro e w' ⟨rfl, rfl⟩)
      go_ret
      exact ⟨by rw [HK.out]; rfl, rfl⟩
    · have d2 : decide (y < x) = false := decide_eq_false h2
      have HK : Hid (cmpI x y = 0) := by show _ = _; simp [cmpI, h1, h2]
      go_enter Tryz.func145, Tryz.ntmps145
      go_wp2_with (go_at_call 220; refine (isNaN_any _ _).mono ?_; rintro e w' ⟨rfl, rfl⟩)
      go_ret
      exact ⟨by rw [HK.out]; rfl, rfl⟩
end Go.Proofs.YtaghfcnpnfhacaaGreat

namespace Go.Proofs.YtaghfcnpnfhacaaGreat
open Go.RowKit Go.Sort

def heirV (x : Int × Int) : Value := .agg #[.int .i64 x.1, .int .i64 x.2]

set_option maxHeartbeats 400000 in
theorem byLost_any (x y : Int × Int) (w : World) : Calls Tryz.prog 217 #[heirV x, heirV y] w fun e w' => e = .returned (.int .i64 (cmpI x.1 y.1)) ∧ ∃ q os', w' = grow (w.drewN q) os' := by
  unfold heirV
  go_enter Tryz.func217, Tryz.ntmps217
  go_wp2_with (go_at_call 145; refine (compare_any _ _ _).mono ?_; rintro e w' ⟨rfl, rfl⟩)
  go_ret
  exact ⟨rfl, 0, #[_, _], by rw [alloc_eq_grow, alloc_eq_grow, grow_grow]; rfl⟩

set_option maxHeartbeats 400000 in
theorem sameLost_any (x y : Int × Int) (w : World) : Calls Tryz.prog 219 #[heirV x, heirV y] w fun e w' => e = .returned (.bool (x.1 == y.1)) ∧ ∃ q os', w' = grow (w.drewN q) os' := by
  unfold heirV
  go_enter Tryz.func219, Tryz.ntmps219
  go_wp2
  go_ret
  exact ⟨rfl, 0, #[_, _], by rw [alloc_eq_grow, alloc_eq_grow, grow_grow]; rfl⟩

set_option maxHeartbeats 400000 in
theorem lostAt_any (x : Int × Int) (n : Int) (w : World) : Calls Tryz.prog 144 #[heirV x, .int .i64 n] w fun e w' => e = .returned (.int .i64 (cmpI x.1 n)) ∧ ∃ q os', w' = grow (w.drewN q) os' := by
  unfold heirV
  go_enter Tryz.func144, Tryz.ntmps144
  go_wp2_with (go_at_call 145; refine (compare_any _ _ _).mono ?_; rintro e w' ⟨rfl, rfl⟩)
  go_ret
  exact ⟨rfl, 0, #[_], by rw [alloc_eq_grow]; rfl⟩
end Go.Proofs.YtaghfcnpnfhacaaGreat

namespace Go.Proofs
open Go.Shelf
def Tryz.insHeir_ren : Go.Shelf.Ren := ⟨fun | 20 => 327 | n => n, fun | 24 => 25 | 22 => 42 | 3 => 3 | 25 => 226 | 4 => 4 | 0 => 0 | n => n, fun | n => n⟩
theorem Tryz.insHeir : Go.Proofs.SlLaysF0.n20 Tryz.prog Tryz.insHeir_ren := {
  mixed := by kernel_rfl
  f20 := ⟨Tryz.f327.name, by decide, Tryz.func327.trans (congrArg some (by kernel_rfl))⟩
  t0 := Tryz.underlying0
  a0 := Tryz.isAgg0
  z0 := Tryz.sizeOf0
  v0 := Tryz.zeroValue0
  t3 := Tryz.underlying3
  a3 := Tryz.isAgg3
  z3 := Tryz.sizeOf3
  v3 := Tryz.zeroValue3
  t4 := Tryz.underlying4
  a4 := Tryz.isAgg4
  z4 := Tryz.sizeOf4
  v4 := Tryz.zeroValue4
  t22 := Tryz.underlying42
  a22 := Tryz.isAgg42
  z22 := Tryz.sizeOf42
  v22 := Tryz.zeroValue42
  t25 := Tryz.underlying226
  a25 := Tryz.isAgg226
  z25 := Tryz.sizeOf226
  v25 := Tryz.zeroValue226 }
end Go.Proofs
namespace Go.Proofs.YtaghfcnpnfhacaaGreat
open Go.RowKit Go.Sort

def encH (x : Int × Int) : List Value := [.int .i64 x.1, .int .i64 x.2]
theorem one_encH : ∀ x, ∀ v ∈ encH x, v.oneCell' = true := fun x v hv => by simp [encH] at hv; rcases hv with rfl | rfl <;> rfl
def byLost (x y : Int × Int) : Int := cmpI x.1 y.1

theorem insHeir_any (g off cap a b n : Nat) (A B : Int) (hA : (a : Int) = A) (hB : (b : Int) = B) (d : Array (Int × Int)) (w : World) (hH : HoldsK encH 2 w g off d) (hg : g < w.heap.size) (hab : a ≤ b) (hb : b ≤ d.size) (hsz : d.size < 4611686018427387904) (hn : d.size = n) :
    Calls Tryz.prog 327 #[.slice (some ⟨g, off, none⟩) n cap, .int .i64 A, .int .i64 B, .func (.func 217) #[] #[]] w fun e w' =>
      e = .returned (.tuple #[]) ∧ ∃ n os, w' = sortWorldK encH 2 w g off n (Sort.insertionSort (ltOf byLost) d a b) os := by
  subst hA hB hn
  exact AnyQ.insertionSortCmpFunc Tryz.insHeir 2 Tryz.isAgg25 Tryz.sizeOf25 encH (fun _ => rfl) (fun x v hv => by simp [encH] at hv; rcases hv with rfl | rfl <;> rfl) byLost 217 #[] g off cap a b d w
    (enters_of Tryz.func217 (by kernel_rfl) rfl) (fun m os dk _ x y => byLost_any x y _) hH hg hab hb hsz
end Go.Proofs.YtaghfcnpnfhacaaGreat

namespace Go.Proofs.YtaghfcnpnfhacaaGreat
open Go.Sort

variable {α : Type} [Inhabited α]

/-- A kind of elements of which none is less than another one. -/
def Kind (lt : α → α → Bool) (p : α → Bool) : Prop := ∀ x y, p x = true → p y = true → lt x y = false

theorem toList_split2 (d : Array α) (j : Nat) (h : j + 1 < d.size) : d.toList = d.toList.take j ++ d[j]! :: d[j + 1]! :: d.toList.drop (j + 2) := by
  rw [getElem!_pos d j (by omega), getElem!_pos d (j + 1) h]
  have h1 : d.toList.drop j = d[j] :: d.toList.drop (j + 1) := by rw [List.drop_eq_getElem_cons (by simpa using (by omega : j < d.size))]; simp
  have h2 : d.toList.drop (j + 1) = d[j + 1] :: d.toList.drop (j + 2) := by rw [List.drop_eq_getElem_cons (by simpa using h)]; simp
  rw [← h2, ← h1, List.take_append_drop]
theorem swp_adj (d : Array α) (j : Nat) (h : j + 1 < d.size) : (swp d (j + 1) j).toList = d.toList.take j ++ d[j + 1]! :: d[j]! :: d.toList.drop (j + 2) := by
  apply List.ext_getElem?
  intro i
  unfold swp
  have e1 : d[j]! = d[j] := getElem!_pos d j (by omega)
  have e2 : d[j + 1]! = d[j + 1] := getElem!_pos d (j + 1) h
  rw [e1, e2]
  simp only [Array.getElem?_toList, Array.getElem?_setIfInBounds, Array.size_setIfInBounds]
  rcases Nat.lt_trichotomy i j with hi | hi | hi
  · rw [if_neg (by omega), if_neg (by omega), List.getElem?_append_left (by simp; omega)]
    simp [hi]
  · subst hi
    rw [if_pos rfl, if_pos (by omega), List.getElem?_append_right (by simp; omega)]
    simp [show min i d.size = i by omega]
  · by_cases hi2 : i = j + 1
    · subst hi2
      rw [if_neg (by omega), if_pos rfl, if_pos h, List.getElem?_append_right (by simp; omega)]
      simp [show j + 1 - min j d.size = 1 by omega]
    · rw [if_neg (by omega), if_neg (by omega), List.getElem?_append_right (by simp; omega)]
      obtain ⟨n, rfl⟩ : ∃ n, i = j + 2 + n := ⟨i - (j + 2), by omega⟩
      simp [show j + 2 + n - min j d.size = n + 2 by omega]
theorem swp_filter {lt : α → α → Bool} {p : α → Bool} (hp : Kind lt p) (d : Array α) (j : Nat) (h : j + 1 < d.size) (hl : lt d[j + 1]! d[j]! = true) : (swp d (j + 1) j).toList.filter p = d.toList.filter p := by
  have e : d.toList.filter p = (d.toList.take j ++ d[j]! :: d[j + 1]! :: d.toList.drop (j + 2)).filter p := congrArg (List.filter p) (toList_split2 d j h)
  rw [swp_adj d j h, e]
  simp only [List.filter_append, List.filter_cons]
  by_cases h1 : p d[j + 1]! = true
  · by_cases h2 : p d[j]! = true
    · rw [hp _ _ h1 h2] at hl; cases hl
    · rw [if_neg h2]
      simp [h2]
  · simp [h1]
theorem insInner_filter {lt : α → α → Bool} {p : α → Bool} (hp : Kind lt p) (a : Nat) : ∀ (j : Nat) (d : Array α), j < d.size → (insInner lt a j d).toList.filter p = d.toList.filter p ∧ (insInner lt a j d).size = d.size
  | 0, d, _ => ⟨rfl, rfl⟩
  | j + 1, d, hj => by
    unfold insInner
    split
    · rename_i hc
      simp only [Bool.and_eq_true, decide_eq_true_eq] at hc
      have hs : (swp d (j + 1) j).size = d.size := swp_size d (j + 1) j
      obtain ⟨h1, h2⟩ := insInner_filter hp a j (swp d (j + 1) j) (by rw [hs]; omega)
      exact ⟨h1.trans (swp_filter hp d j hj hc.2), h2.trans hs⟩
    · exact ⟨rfl, rfl⟩
theorem insOuter_filter {lt : α → α → Bool} {p : α → Bool} (hp : Kind lt p) (a b : Nat) : ∀ (n i : Nat) (d : Array α), b - i = n → b ≤ d.size → (insOuter lt a b i d).toList.filter p = d.toList.filter p
  | 0, i, d, hn, hb => by rw [insOuter, if_neg (by omega)]
  | n + 1, i, d, hn, hb => by
    rw [insOuter, if_pos (by omega)]
    obtain ⟨h1, h2⟩ := insInner_filter hp a i d (by omega)
    exact (insOuter_filter hp a b n (i + 1) _ (by omega) (by omega)).trans h1
theorem insertionSort_filter {lt : α → α → Bool} {p : α → Bool} (hp : Kind lt p) (d : Array α) (a b : Nat) (hb : b ≤ d.size) : (insertionSort lt d a b).toList.filter p = d.toList.filter p := insOuter_filter hp a b _ _ d rfl hb
end Go.Proofs.YtaghfcnpnfhacaaGreat

namespace Go.Proofs.YtaghfcnpnfhacaaGreat
open Go.Sort

variable {α : Type} [Inhabited α]

/-- Where that comes from what stands at t behind a rotation of [a, b) about m. -/
def rotIx (a m b t : Nat) : Nat := if a ≤ t ∧ t < a + (b - m) then t + (m - a) else if a + (b - m) ≤ t ∧ t < b then t - (b - m) else t
/-- Where that comes from what stands at t when n places from x on have been exchanged with those from y on. -/
def swIx (x y n t : Nat) : Nat := if x ≤ t ∧ t < x + n then t - x + y else if y ≤ t ∧ t < y + n then t - y + x else t
/-- d' is d, read at other places. -/
def By (f : Nat → Nat) (d d' : Array α) : Prop := d'.size = d.size ∧ ∀ t, t < d.size → d'[t]! = d[f t]!

theorem By.refl (f : Nat → Nat) (d : Array α) (h : ∀ t, t < d.size → f t = t) : By f d d := ⟨rfl, fun t ht => by rw [h t ht]⟩
theorem By.congr {f g : Nat → Nat} {d d' : Array α} (h : By f d d') (e : ∀ t, t < d.size → f t = g t) : By g d d' := ⟨h.1, fun t ht => by rw [h.2 t ht, e t ht]⟩
theorem By.trans {f g : Nat → Nat} {d d' d'' : Array α} (h : By f d d') (k : By g d' d'') (hg : ∀ t, t < d.size → g t < d.size) : By (fun t => f (g t)) d d'' :=
  ⟨k.1.trans h.1, fun t ht => by rw [k.2 t (by rw [h.1]; exact ht), h.2 _ (hg t ht)]⟩

theorem swIx_lt {x y n s t : Nat} (hx : x + n ≤ s) (hy : y + n ≤ s) (ht : t < s) : swIx x y n t < s := by
  unfold swIx; split
  · omega
  · split <;> omega
theorem By.swap0 (x y : Nat) (d : Array α) : By (swIx x y 0) d d := By.refl _ _ fun t _ => by unfold swIx; split; omega; split <;> omega
theorem By.swapS {x y n : Nat} {d d' : Array α} (h : By (swIx x y n) d d') (hxy : x + n < y) (hy : y + n < d.size) : By (swIx x y (n + 1)) d (swp d' (x + n) (y + n)) := by
  refine ⟨(swp_size _ _ _).trans h.1, fun t ht => ?_⟩
  have hs := h.1
  rw [swp_get d' (show x + n < d'.size by omega) (show y + n < d'.size by omega) t]
  split
  · rename_i e
    rw [h.2 _ (by omega)]
    congr 1
    unfold swIx
    repeat' split
    all_goals omega
  · split
    · rename_i _ e
      rw [h.2 _ (by omega)]
      congr 1
      unfold swIx
      repeat' split
      all_goals omega
    · rw [h.2 _ ht]
      congr 1
      unfold swIx
      repeat' split
      all_goals omega

theorem rot_step1 {m i j t : Nat} (hi : i ≤ m) (hj : j < i) : swIx (m - i) m j (rotIx (m - i + j) m (m + j) t) = rotIx (m - i) m (m + j) t := by
  unfold rotIx
  generalize hu : m - i = u
  obtain rfl : i = m - u := by omega
  unfold swIx
  repeat' split
  all_goals omega
theorem rot_step2 {m i j t : Nat} (hi : i ≤ m) (hj : i < j) : swIx (m - i) (m + j - i) i (rotIx (m - i) m (m + (j - i)) t) = rotIx (m - i) m (m + j) t := by
  unfold rotIx
  unfold swIx
  repeat' split
  all_goals omega
theorem rot_last {m i t : Nat} (hi : i ≤ m) : swIx (m - i) m i t = rotIx (m - i) m (m + i) t := by
  unfold rotIx swIx
  repeat' split
  all_goals omega
theorem rotIx_lt {a m b s t : Nat} (ham : a ≤ m) (hmb : m ≤ b) (hb : b ≤ s) (ht : t < s) : rotIx a m b t < s := by
  unfold rotIx; split
  · omega
  · split <;> omega
theorem rotIx_id {a m b t : Nat} (ham : a ≤ m) (hmb : m ≤ b) (h : a = m ∨ m = b) : rotIx a m b t = t := by
  unfold rotIx; split
  · omega
  · split <;> omega

omit [Inhabited α] in
theorem toList_cut (d : Array α) (a m b : Nat) (ham : a ≤ m) (hmb : m ≤ b) : d.toList = d.toList.take a ++ ((d.toList.drop a).take (m - a) ++ ((d.toList.drop m).take (b - m) ++ d.toList.drop b)) := by
  conv => lhs; rw [← List.take_append_drop a d.toList, ← List.take_append_drop (m - a) (d.toList.drop a), List.drop_drop, show a + (m - a) = m by omega, ← List.take_append_drop (b - m) (d.toList.drop m), List.drop_drop, show m + (b - m) = b by omega]
theorem By.rot_list {a m b : Nat} {d d' : Array α} (h : By (rotIx a m b) d d') (ham : a ≤ m) (hmb : m ≤ b) (hb : b ≤ d.size) :
    d'.toList = d.toList.take a ++ ((d.toList.drop m).take (b - m) ++ ((d.toList.drop a).take (m - a) ++ d.toList.drop b)) := by
  have hs := h.1
  have hz : d.toList.length = d.size := Array.length_toList
  apply List.ext_getElem
  · simp; omega
  · intro t h1 h2
    have ht : t < d.size := by simpa [hs] using h1
    have e := h.2 t ht
    have hlt := rotIx_lt (t := t) ham hmb hb ht
    rw [getElem!_pos d' t (by omega), getElem!_pos d _ hlt] at e
    rw [Array.getElem_toList, e]
    unfold rotIx at hlt
    by_cases c1 : t < a
    · rw [List.getElem_append_left (by simp; omega)]
      simp only [List.getElem_take, Array.getElem_toList]
      congr 1; unfold rotIx; rw [if_neg (by omega), if_neg (by omega)]
    · rw [List.getElem_append_right (by simp; omega)]
      by_cases c2 : t < a + (b - m)
      · rw [List.getElem_append_left (by simp; omega)]
        simp only [List.getElem_take, List.getElem_drop, Array.getElem_toList]
        congr 1; unfold rotIx; rw [if_pos (by omega)]; simp; omega
      · rw [List.getElem_append_right (by simp; omega)]
        by_cases c3 : t < b
        · rw [List.getElem_append_left (by simp; omega)]
          simp only [List.getElem_take, List.getElem_drop, Array.getElem_toList]
          congr 1; unfold rotIx; rw [if_neg (by omega), if_pos (by omega)]; simp; omega
        · rw [List.getElem_append_right (by simp; omega)]
          simp only [List.getElem_drop, Array.getElem_toList]
          congr 1; unfold rotIx; rw [if_neg (by omega), if_neg (by omega)]; simp; omega

/-- d' is d with the places of [a, b) exchanged among themselves, the order of equals kept. -/
structure SM (lt : α → α → Bool) (a b : Nat) (d d' : Array α) : Prop where
  size : d'.size = d.size
  out : ∀ i, i < a ∨ b ≤ i → d'[i]! = d[i]!
  inn : ∀ i, a ≤ i → i < b → ∃ j, a ≤ j ∧ j < b ∧ d'[i]! = d[j]!
  perm : d'.toList.Perm d.toList
  kind : ∀ p, Kind lt p → d'.toList.filter p = d.toList.filter p

theorem SM.refl (lt : α → α → Bool) (a b : Nat) (d : Array α) : SM lt a b d d := ⟨rfl, fun _ _ => rfl, fun i h1 h2 => ⟨i, h1, h2, rfl⟩, List.Perm.refl _, fun _ _ => rfl⟩
theorem SM.trans {lt : α → α → Bool} {a b : Nat} {d d' d'' : Array α} (h : SM lt a b d d') (k : SM lt a b d' d'') : SM lt a b d d'' :=
  ⟨k.size.trans h.size, fun i hi => (k.out i hi).trans (h.out i hi), fun i h1 h2 => by
    obtain ⟨j, j1, j2, e⟩ := k.inn i h1 h2
    obtain ⟨j', j1', j2', e'⟩ := h.inn j j1 j2
    exact ⟨j', j1', j2', e.trans e'⟩, k.perm.trans h.perm, fun p hp => (k.kind p hp).trans (h.kind p hp)⟩
theorem SM.mono {lt : α → α → Bool} {a b a' b' : Nat} {d d' : Array α} (h : SM lt a b d d') (ha : a' ≤ a) (hb : b ≤ b') : SM lt a' b' d d' :=
  ⟨h.size, fun i hi => h.out i (by omega), fun i h1 h2 => by
    by_cases c : a ≤ i ∧ i < b
    · obtain ⟨j, j1, j2, e⟩ := h.inn i c.1 c.2
      exact ⟨j, by omega, by omega, e⟩
    · exact ⟨i, h1, h2, h.out i (by omega)⟩, h.perm, h.kind⟩

theorem By.rot_sm {lt : α → α → Bool} {a m b : Nat} {d d' : Array α} (h : By (rotIx a m b) d d') (ham : a ≤ m) (hmb : m ≤ b) (hb : b ≤ d.size)
    (hl : ∀ x y, a ≤ x → x < m → m ≤ y → y < b → lt d[y]! d[x]! = true) : SM lt a b d d' := by
  have e2 := h.rot_list ham hmb hb
  have e1 := toList_cut d a m b ham hmb
  refine ⟨h.1, fun i hi => ?_, fun i h1 h2 => ?_, ?_, fun p hp => ?_⟩
  · by_cases c : i < d.size
    · rw [h.2 i c]; congr 1; unfold rotIx; rw [if_neg (by omega), if_neg (by omega)]
    · rw [getElem!_neg d' i (by rw [h.1]; exact c), getElem!_neg d i c]
  · refine ⟨rotIx a m b i, ?_, ?_, h.2 i (by omega)⟩
    · unfold rotIx; split
      · omega
      · split <;> omega
    · unfold rotIx; split
      · omega
      · split <;> omega
  · rw [e2]
    refine List.Perm.trans ?_ (List.Perm.of_eq e1.symm)
    apply List.Perm.append_left
    rw [← List.append_assoc, ← List.append_assoc]
    exact List.Perm.append_right _ List.perm_append_comm
  · rw [e2]
    refine Eq.trans ?_ (congrArg (List.filter p) e1.symm)
    simp only [List.filter_append]
    congr 1
    rw [← List.append_assoc, ← List.append_assoc]
    congr 1
    by_cases hx : ∃ x, x ∈ (d.toList.drop a).take (m - a) ∧ p x = true
    · obtain ⟨x, hx, px⟩ := hx
      have : ((d.toList.drop m).take (b - m)).filter p = [] := by
        rw [List.filter_eq_nil_iff]
        intro y hy py
        obtain ⟨i, hi, rfl⟩ := List.getElem_of_mem hx
        obtain ⟨j, hj, rfl⟩ := List.getElem_of_mem hy
        simp only [List.length_take, List.length_drop, Array.length_toList] at hi hj
        have := hl (a + i) (m + j) (by omega) (by omega) (by omega) (by omega)
        rw [getElem!_pos d _ (by omega), getElem!_pos d _ (by omega)] at this
        simp only [List.getElem_take, List.getElem_drop, Array.getElem_toList] at px py
        rw [hp _ _ py px] at this
        cases this
      rw [this]; simp
    · have : ((d.toList.drop a).take (m - a)).filter p = [] := by
        rw [List.filter_eq_nil_iff]
        intro x h1 h2
        exact hx ⟨x, h1, h2⟩
      rw [this]; simp

theorem sorted_le {lt : α → α → Bool} (hS : SWO lt) {a b : Nat} {d : Array α} (h : SortedIn lt a b d) {i j : Nat} (h1 : a ≤ i) (h2 : i ≤ j) (h3 : j < b) : lt d[j]! d[i]! = false := by
  by_cases e : i = j
  · subst e; exact hS.irrefl _
  · exact h i j h1 (by omega) h3
omit [Inhabited α] in
/-- y ≤ q < s ≤ x gives y < x. -/
theorem lt_between {lt : α → α → Bool} (hS : SWO lt) {y q s x : α} (h1 : lt q s = true) (h2 : lt q y = false) (h3 : lt x s = false) : lt y x = true := by
  cases e : lt y x with
  | true => rfl
  | false => have := hS.ntrans _ _ _ (hS.ntrans _ _ _ h2 e) h3; rw [h1] at this; cases this

/-- Two runs, of which what stands in the wrong order about m has been rotated: each side of 'mid' is two runs, and nothing on the right is less than something on the left. -/
theorem rot_runs {lt : α → α → Bool} (hS : SWO lt) {a s m e b : Nat} {d d' : Array α} (h : By (rotIx s m e) d d') (h1 : a ≤ s) (h2 : s ≤ m) (h3 : m ≤ e) (h4 : e ≤ b) (h5 : b ≤ d.size)
    (r1 : SortedIn lt a m d) (r2 : SortedIn lt m b d)
    (c1 : ∀ x y, s ≤ x → x < m → m ≤ y → y < e → lt d[y]! d[x]! = true) (c2 : ∀ x y, a ≤ x → x < s → e ≤ y → y < b → lt d[y]! d[x]! = false) :
    SM lt a b d d' ∧ SortedIn lt a s d' ∧ SortedIn lt s (s + (e - m)) d' ∧ SortedIn lt (s + (e - m)) e d' ∧ SortedIn lt e b d' ∧
    (∀ i j, a ≤ i → i < s + (e - m) → s + (e - m) ≤ j → j < b → lt d'[j]! d'[i]! = false) := by
  have g : ∀ t, t < b → d'[t]! = d[rotIx s m e t]! := fun t ht => h.2 t (by omega)
  have i1 : ∀ t, t < s → rotIx s m e t = t := fun t ht => by unfold rotIx; rw [if_neg (by omega), if_neg (by omega)]
  have i2 : ∀ t, s ≤ t → t < s + (e - m) → rotIx s m e t = t + (m - s) := fun t ht ht' => by unfold rotIx; rw [if_pos (by omega)]
  have i3 : ∀ t, s + (e - m) ≤ t → t < e → rotIx s m e t = t - (e - m) := fun t ht ht' => by unfold rotIx; rw [if_neg (by omega), if_pos (by omega)]
  have i4 : ∀ t, e ≤ t → rotIx s m e t = t := fun t ht => by unfold rotIx; rw [if_neg (by omega), if_neg (by omega)]
  refine ⟨(h.rot_sm h2 h3 (by omega) c1).mono h1 h4, fun i j x1 x2 x3 => ?_, fun i j x1 x2 x3 => ?_, fun i j x1 x2 x3 => ?_, fun i j x1 x2 x3 => ?_, fun i j x1 x2 x3 x4 => ?_⟩
  · rw [g i (by omega), g j (by omega), i1 i (by omega), i1 j (by omega)]; exact r1 i j x1 x2 (by omega)
  · rw [g i (by omega), g j (by omega), i2 i (by omega) (by omega), i2 j (by omega) (by omega)]; exact r2 _ _ (by omega) (by omega) (by omega)
  · rw [g i (by omega), g j (by omega), i3 i (by omega) (by omega), i3 j (by omega) (by omega)]; exact r1 _ _ (by omega) (by omega) (by omega)
  · rw [g i (by omega), g j (by omega), i4 i (by omega), i4 j (by omega)]; exact r2 _ _ (by omega) (by omega) (by omega)
  · rw [g i (by omega), g j (by omega)]
    by_cases y1 : i < s
    · rw [i1 i y1]
      by_cases y2 : j < e
      · rw [i3 j x3 y2]; exact sorted_le hS r1 x1 (by omega) (by omega)
      · rw [i4 j (by omega)]; exact c2 _ _ x1 y1 (by omega) x4
    · rw [i2 i (by omega) x2]
      by_cases y2 : j < e
      · rw [i3 j x3 y2]; exact hS.asymmA (c1 _ _ (by omega) (by omega) (by omega) (by omega))
      · rw [i4 j (by omega)]; exact sorted_le hS r2 (by omega) (by omega) x4

/-- Both sides have been merged. -/
theorem merge_join {lt : α → α → Bool} {a mid b : Nat} {d d1 d2 d3 : Array α} (k1 : SM lt a b d d1) (ha : a ≤ mid) (hb : mid ≤ b)
    (hx : ∀ i j, a ≤ i → i < mid → mid ≤ j → j < b → lt d1[j]! d1[i]! = false)
    (k2 : SM lt a mid d1 d2) (s2 : SortedIn lt a mid d2) (k3 : SM lt mid b d2 d3) (s3 : SortedIn lt mid b d3) : SM lt a b d d3 ∧ SortedIn lt a b d3 := by
  refine ⟨(k1.trans (k2.mono (Nat.le_refl _) hb)).trans (k3.mono ha (Nat.le_refl _)), fun i j x1 x2 x3 => ?_⟩
  by_cases c1 : j < mid
  · rw [k3.out i (Or.inl (by omega)), k3.out j (Or.inl c1)]; exact s2 i j x1 x2 c1
  · by_cases c2 : mid ≤ i
    · exact s3 i j c2 x2 x3
    · obtain ⟨j', y1, y2, e⟩ := k3.inn j (by omega) x3
      obtain ⟨i', z1, z2, e'⟩ := k2.inn i x1 (by omega)
      rw [k3.out i (Or.inl (by omega)), e, e', k2.out j' (Or.inr y1)]
      exact hx _ _ z1 z2 y1 y2

/-- What the search for the place of the cut knows: below s 'not less', from r on 'less' (p - c stands against c). -/
def CutLo (lt : α → α → Bool) (d : Array α) (p s0 s : Nat) : Prop := ∀ c, s0 ≤ c → c < s → lt d[p - c]! d[c]! = false
def CutHi (lt : α → α → Bool) (d : Array α) (p r r0 : Nat) : Prop := ∀ c, r ≤ c → c < r0 → lt d[p - c]! d[c]! = true

/-- Where the search begins and ends. -/
structure CutAt (a m b p s0 r0 : Nat) : Prop where
  lo : a ≤ s0
  hi : r0 ≤ m
  ord : s0 ≤ r0
  top : p < s0 + b
  bot : m + r0 ≤ p + 1

theorem CutLo.step {lt : α → α → Bool} (hS : SWO lt) {d : Array α} {a m b p s0 r0 c : Nat} (hc : CutAt a m b p s0 r0) (r1 : SortedIn lt a m d) (r2 : SortedIn lt m b d) (_h1 : s0 ≤ c) (h2 : c < r0) (h : lt d[p - c]! d[c]! = false) : CutLo lt d p s0 (c + 1) := fun x x1 x2 => by
  have := hc.lo; have := hc.hi; have := hc.top; have := hc.bot
  exact hS.ntrans _ _ _ (hS.ntrans _ _ _ (sorted_le hS r2 (by omega) (by omega) (by omega)) h) (sorted_le hS r1 (by omega) (by omega) (by omega))
theorem CutHi.step {lt : α → α → Bool} (hS : SWO lt) {d : Array α} {a m b p s0 r0 c : Nat} (hc : CutAt a m b p s0 r0) (r1 : SortedIn lt a m d) (r2 : SortedIn lt m b d) (h1 : s0 ≤ c) (_h2 : c < r0) (h : lt d[p - c]! d[c]! = true) : CutHi lt d p c r0 := fun x x1 x2 => by
  have := hc.lo; have := hc.hi; have := hc.top; have := hc.bot
  exact lt_between hS h (sorted_le hS r2 (by omega) (by omega) (by omega)) (sorted_le hS r1 (by omega) (by omega) (by omega))

/-- What the found cut gives. -/
theorem cut_found {lt : α → α → Bool} (hS : SWO lt) {d : Array α} {a m b mid p s0 r0 s : Nat} (_ham : a < m) (_hmb : m < b) (hmid : mid = (a + b) / 2) (hp : p + 1 = mid + m)
    (hc : (mid < m ∧ s0 = mid + m - b ∧ r0 = mid) ∨ (m ≤ mid ∧ s0 = a ∧ r0 = m)) (r1 : SortedIn lt a m d) (r2 : SortedIn lt m b d) (h1 : s0 ≤ s) (h2 : s ≤ r0) (lo : CutLo lt d p s0 s) (hi : CutHi lt d p s r0) :
    a ≤ s ∧ s ≤ m ∧ m ≤ mid + m - s ∧ mid + m - s ≤ b ∧ s + (mid + m - s - m) = mid ∧
    (∀ x y, s ≤ x → x < m → m ≤ y → y < mid + m - s → lt d[y]! d[x]! = true) ∧ (∀ x y, a ≤ x → x < s → mid + m - s ≤ y → y < b → lt d[y]! d[x]! = false) := by
  have hC : CutAt a m b p s0 r0 := by constructor <;> omega
  have := hC.lo; have := hC.hi; have := hC.top; have := hC.bot
  refine ⟨by omega, by omega, by omega, by omega, by omega, fun x y x1 x2 y1 y2 => ?_, fun x y x1 x2 y1 y2 => ?_⟩
  · by_cases e : s = r0
    · omega
    · exact lt_between hS (hi s (Nat.le_refl _) (by omega)) (sorted_le hS r2 (by omega) (by omega) (by omega)) (sorted_le hS r1 (by omega) (by omega) (by omega))
  · by_cases e : s = s0
    · omega
    · have := lo (s - 1) (by omega) (by omega)
      exact hS.ntrans _ _ _ (hS.ntrans _ _ _ (sorted_le hS r2 (show m ≤ p - (s - 1) by omega) (by omega) y2) this) (sorted_le hS r1 x1 (by omega) (by omega))
theorem cut_at {a m b mid p s0 r0 : Nat} (ham : a < m) (hmb : m < b) (hmid : mid = (a + b) / 2) (hp : p + 1 = mid + m)
    (hc : (mid < m ∧ s0 = mid + m - b ∧ r0 = mid) ∨ (m ≤ mid ∧ s0 = a ∧ r0 = m)) : CutAt a m b p s0 r0 := by constructor <;> omega

/-- One element ahead of a run: what the search for its place knows, and what becomes of the row. -/
def OneLo (lt : α → α → Bool) (d : Array α) (a i : Nat) : Prop := ∀ h, a < h → h < i → lt d[h]! d[a]! = true
def OneHi (lt : α → α → Bool) (d : Array α) (a j b : Nat) : Prop := ∀ h, j ≤ h → h < b → lt d[h]! d[a]! = false
theorem OneLo.step {lt : α → α → Bool} (hS : SWO lt) {d : Array α} {a b h : Nat} (r : SortedIn lt (a + 1) b d) (h1 : h < b) (e : lt d[h]! d[a]! = true) : OneLo lt d a (h + 1) := fun x x1 x2 =>
  lt_between hS e (sorted_le hS r (by omega) (by omega) (by omega)) (hS.irrefl _)
theorem OneHi.step {lt : α → α → Bool} (hS : SWO lt) {d : Array α} {a b h : Nat} (r : SortedIn lt (a + 1) b d) (h1 : a < h) (e : lt d[h]! d[a]! = false) : OneHi lt d a h b := fun x x1 x2 =>
  hS.ntrans _ _ _ (sorted_le hS r (by omega) (by omega) (by omega)) e
theorem one_ahead {lt : α → α → Bool} (hS : SWO lt) {d d' : Array α} {a i b : Nat} (h : By (rotIx a (a + 1) i) d d') (h1 : a < i) (h2 : i ≤ b) (hb : b ≤ d.size) (r : SortedIn lt (a + 1) b d) (lo : OneLo lt d a i) (hi : OneHi lt d a i b) : SM lt a b d d' ∧ SortedIn lt a b d' := by
  obtain ⟨k, s1, s2, s3, s4, x⟩ := rot_runs hS (a := a) (b := b) h (Nat.le_refl _) (by omega) (by omega) h2 hb (fun i j _ _ _ => by omega) r (fun x y x1 x2 y1 y2 => by obtain rfl : x = a := (by omega); exact lo y (by omega) y2) (fun x y x1 x2 _ _ => by omega)
  refine merge_join k (show a ≤ a + (i - (a + 1)) by omega) (by omega) x (SM.refl _ _ _ _) s2 (SM.refl _ _ _ _) ?_
  intro u v u1 u2 u3
  rw [h.2 u (by omega), h.2 v (by omega)]
  by_cases c : u = i - 1
  · rw [show rotIx a (a + 1) i u = a by unfold rotIx; rw [if_neg (by omega), if_pos (by omega)]; omega, show rotIx a (a + 1) i v = v by unfold rotIx; rw [if_neg (by omega), if_neg (by omega)]]
    exact hi v (by omega) u3
  · rw [show rotIx a (a + 1) i u = u by unfold rotIx; rw [if_neg (by omega), if_neg (by omega)], show rotIx a (a + 1) i v = v by unfold rotIx; rw [if_neg (by omega), if_neg (by omega)]]
    exact r u v (by omega) u2 u3

/-- One element behind a run. -/
def EndLo (lt : α → α → Bool) (d : Array α) (m a i : Nat) : Prop := ∀ h, a ≤ h → h < i → lt d[m]! d[h]! = false
def EndHi (lt : α → α → Bool) (d : Array α) (m j : Nat) : Prop := ∀ h, j ≤ h → h < m → lt d[m]! d[h]! = true
theorem EndLo.step {lt : α → α → Bool} (hS : SWO lt) {d : Array α} {a m h : Nat} (r : SortedIn lt a m d) (h1 : h < m) (e : lt d[m]! d[h]! = false) : EndLo lt d m a (h + 1) := fun x x1 x2 =>
  hS.ntrans _ _ _ e (sorted_le hS r (by omega) (by omega) (by omega))
theorem EndHi.step {lt : α → α → Bool} (hS : SWO lt) {d : Array α} {a m h : Nat} (r : SortedIn lt a m d) (h1 : a ≤ h) (e : lt d[m]! d[h]! = true) : EndHi lt d m h := fun x x1 x2 =>
  lt_between hS e (hS.irrefl _) (sorted_le hS r (by omega) (by omega) (by omega))
theorem one_behind {lt : α → α → Bool} (hS : SWO lt) {d d' : Array α} {a i m : Nat} (h : By (rotIx i m (m + 1)) d d') (h1 : a ≤ i) (h2 : i ≤ m) (hb : m < d.size) (r : SortedIn lt a m d) (lo : EndLo lt d m a i) (hi : EndHi lt d m i) : SM lt a (m + 1) d d' ∧ SortedIn lt a (m + 1) d' := by
  obtain ⟨k, s1, s2, s3, s4, x⟩ := rot_runs hS (a := a) (b := m + 1) h h1 h2 (by omega) (Nat.le_refl _) (by omega) r (fun i j _ _ _ => by omega) (fun x y x1 x2 y1 y2 => by obtain rfl : y = m := (by omega); exact hi x x1 x2) (fun x y x1 x2 _ _ => by omega)
  refine merge_join k (show a ≤ i + (m + 1 - m) by omega) (by omega) x (SM.refl _ _ _ _) ?_ (SM.refl _ _ _ _) s3
  intro u v u1 u2 u3
  rw [h.2 u (by omega), h.2 v (by omega)]
  rw [show rotIx i m (m + 1) u = u by unfold rotIx; rw [if_neg (by omega), if_neg (by omega)]]
  by_cases c : v = i
  · rw [show rotIx i m (m + 1) v = m by unfold rotIx; rw [if_pos (by omega)]; omega]
    exact lo u (by omega) (by omega)
  · rw [show rotIx i m (m + 1) v = v by unfold rotIx; rw [if_neg (by omega), if_neg (by omega)]]
    exact r u v (by omega) u2 (by omega)

/-- One exchange more of an element that goes up, or down. -/
theorem By.up {a k : Nat} {d d' : Array α} (h : By (rotIx a (a + 1) (k + 1)) d d') (h1 : a ≤ k) (h2 : k + 1 < d.size) : By (rotIx a (a + 1) (k + 2)) d (swp d' k (k + 1)) := by
  refine ⟨(swp_size _ _ _).trans h.1, fun t ht => ?_⟩
  have hs := h.1
  rw [swp_get d' (show k < d'.size by omega) (show k + 1 < d'.size by omega) t]
  split
  · rename_i e
    rw [h.2 _ (by omega)]; congr 1; unfold rotIx; repeat' split
    all_goals omega
  · split
    · rename_i _ e
      rw [h.2 _ (by omega)]; congr 1; unfold rotIx; repeat' split
      all_goals omega
    · rw [h.2 _ ht]; congr 1; unfold rotIx; repeat' split
      all_goals omega
theorem By.down {k m : Nat} {d d' : Array α} (h : By (rotIx (k + 1) m (m + 1)) d d') (h1 : k + 1 ≤ m) (h2 : m < d.size) : By (rotIx k m (m + 1)) d (swp d' (k + 1) k) := by
  refine ⟨(swp_size _ _ _).trans h.1, fun t ht => ?_⟩
  have hs := h.1
  rw [swp_get d' (show k + 1 < d'.size by omega) (show k < d'.size by omega) t]
  split
  · rename_i e
    rw [h.2 _ (by omega)]; congr 1; unfold rotIx; repeat' split
    all_goals omega
  · split
    · rename_i _ e
      rw [h.2 _ (by omega)]; congr 1; unfold rotIx; repeat' split
      all_goals omega
    · rw [h.2 _ ht]; congr 1; unfold rotIx; repeat' split
      all_goals omega

theorem two_runs {lt : α → α → Bool} {a s b : Nat} {d : Array α} (h1 : a ≤ s) (h2 : s ≤ b) (hn : ¬ (a < s ∧ s < b)) (r1 : SortedIn lt a s d) (r2 : SortedIn lt s b d) : SortedIn lt a b d := by
  by_cases h : a < s
  · obtain rfl : s = b := by omega
    exact r1
  · obtain rfl : a = s := by omega
    exact r2
theorem sorted_out {lt : α → α → Bool} {a b x y : Nat} {d d' : Array α} (h : SM lt a b d d') (hb : b ≤ x) (r : SortedIn lt x y d) : SortedIn lt x y d' := fun i j h1 h2 h3 => by
  rw [h.out i (Or.inr (by omega)), h.out j (Or.inr (by omega))]; exact r i j h1 h2 h3
end Go.Proofs.YtaghfcnpnfhacaaGreat

namespace Go.Proofs.YtaghfcnpnfhacaaGreat
open Go.RowKit Go.Sort

structure LayHeir (P : Program) (k : Nat) : Prop where
  mixed : P.follows .mixedOrders = true
  fS : P.funcs[367]? = some Tryz.f367
  fR : P.funcs[351]? = some Tryz.f351
  fM : P.funcs[328]? = some Tryz.f328
  fT : P.funcs[289]? = some Tryz.f289
  fI : ∀ args w, (callFunc 327 args).run P w = .ok (.enter 327 args) w
  t0 : P.underlying 0 = some (TypeDesc.tuple #[])
  a0 : ∀ w, (isAgg 0).run P w = .ok false w
  z0 : ∀ w, (Go.sizeOf 0).run P w = .ok 1 w
  v0 : ∀ w, (zeroValue 0).run P w = .ok (Value.tuple #[]) w
  t1 : P.underlying 3 = some (TypeDesc.int IntKind.i64)
  a1 : ∀ w, (isAgg 3).run P w = .ok false w
  z1 : ∀ w, (Go.sizeOf 3).run P w = .ok 1 w
  v1 : ∀ w, (zeroValue 3).run P w = .ok (Value.int IntKind.i64 0) w
  t2 : P.underlying 4 = some (TypeDesc.bool)
  a2 : ∀ w, (isAgg 4).run P w = .ok false w
  z2 : ∀ w, (Go.sizeOf 4).run P w = .ok 1 w
  v2 : ∀ w, (zeroValue 4).run P w = .ok (Value.bool false) w
  t3 : P.underlying 205 = some (TypeDesc.int IntKind.u64)
  a3 : ∀ w, (isAgg 205).run P w = .ok false w
  z3 : ∀ w, (Go.sizeOf 205).run P w = .ok 1 w
  v3 : ∀ w, (zeroValue 205).run P w = .ok (Value.int IntKind.u64 0) w
  t4 : P.underlying 42 = some (TypeDesc.slice 25)
  a4 : ∀ w, (isAgg 42).run P w = .ok false w
  z4 : ∀ w, (Go.sizeOf 42).run P w = .ok 1 w
  v4 : ∀ w, (zeroValue 42).run P w = .ok (Value.slice none 0 0) w
  t5 : P.underlying 226 = some (TypeDesc.func #[25, 25] #[3] false)
  a5 : ∀ w, (isAgg 226).run P w = .ok false w
  z5 : ∀ w, (Go.sizeOf 226).run P w = .ok 1 w
  v5 : ∀ w, (zeroValue 226).run P w = .ok (Value.nilFunc) w
  aE : ∀ w, (isAgg 25).run P w = .ok true w
  zE : ∀ w, (Go.sizeOf 25).run P w = .ok k w

theorem layHeir : LayHeir Tryz.prog 2 := {
  mixed := by kernel_rfl
  fS := Tryz.func367
  fR := Tryz.func351
  fM := Tryz.func328
  fT := Tryz.func289
  fI := enters_of Tryz.func327 (by kernel_rfl) rfl
  t0 := Tryz.underlying0
  a0 := Tryz.isAgg0
  z0 := Tryz.sizeOf0
  v0 := Tryz.zeroValue0
  t1 := Tryz.underlying3
  a1 := Tryz.isAgg3
  z1 := Tryz.sizeOf3
  v1 := Tryz.zeroValue3
  t2 := Tryz.underlying4
  a2 := Tryz.isAgg4
  z2 := Tryz.sizeOf4
  v2 := Tryz.zeroValue4
  t3 := Tryz.underlying205
  a3 := Tryz.isAgg205
  z3 := Tryz.sizeOf205
  v3 := Tryz.zeroValue205
  t4 := Tryz.underlying42
  a4 := Tryz.isAgg42
  z4 := Tryz.sizeOf42
  v4 := Tryz.zeroValue42
  t5 := Tryz.underlying226
  a5 := Tryz.isAgg226
  z5 := Tryz.sizeOf226
  v5 := Tryz.zeroValue226
  aE := Tryz.isAgg25
  zE := Tryz.sizeOf25 }
end Go.Proofs.YtaghfcnpnfhacaaGreat
