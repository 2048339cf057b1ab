/- Small functions of the mourning layer and the statement layer's. No statement of the seat. | statement.value, meant; slices.IndexFunc with the program's closure: contracts at whatever statement. No statement of the seat. | statement.pinned: a contract, no statement of the seat. | Links of a chain as data, and the two closures of chain.links. No statement of the seat. | shelf.Compare: the order of a store. No statement of the seat. | slices.SortFunc and slices.CompactFunc at links: contracts, no statement of the seat. | chain.copied: a contract, no statement of the seat. | shelf.Copy: statements that share no memory. No statement of the seat. | One element of an owned row of statements gets other lists. No statement of the seat. | shelf.Copy: statements that share no memory. No statement of the seat. -/
import Derived.Test.YtaakacahblndcaaSeal03G
import Derived.IntWalk
import Derived.Test.YtaakacahblndcaaMg04
import Derived.Deep.Cut
import Derived.BigQuiet
import Derived.Test.YtaakacahblndcaaMg00
import Derived.Test.YtaakacahblndcaaMg01
import Derived.Sort.Grow
import Derived.Deep.RegionHeld3
import Derived.Deep.RegionLaw
import Derived.OwnWalk
import Derived.Outline
import Derived.Test.YtaakacahblndcaaMg02
import Derived.Test.YtaakacahblndcaaOnlyG
namespace Go.Proofs.Ytaakacahblndcaa
open Go.RowKit Go.Sort

set_option maxHeartbeats 1000000 in
theorem listsIn_any (n lo hi : Int) (w : World) : Calls Try.prog 33 #[.int .i64 n, .int .i64 lo, .int .i64 hi] w fun e w' => e = .returned (.bool (decide (lo ≤ n) && decide (n ≤ hi))) ∧ w = w' := by
  by_cases h1 : lo ≤ n
  · have d1 : decide (lo ≤ n) = true := decide_eq_true h1
    go_enter Try.func33, Try.ntmps33
    go_wp2
    go_ret
    exact ⟨by rw [d1, Bool.true_and]; rfl, rfl⟩
  · have d1 : decide (lo ≤ n) = false := decide_eq_false h1
    go_enter Try.func33, Try.ntmps33
    go_wp2
    go_ret
    exact ⟨rfl, rfl⟩
end Go.Proofs.Ytaakacahblndcaa

namespace Go.Proofs.Ytaakacahblndcaa
open Go.RowKit Go.Sort

theorem valueAny_any (n : Int) (w : World) : Calls Try.prog 34 #[.int .i64 n] w fun e w' => e = .returned (.bool (inB n 1099511627776)) ∧ w = w' := by
  go_enter Try.func34, Try.ntmps34
  go_wp2_with (go_at_call 33; refine (listsIn_any _ _ _ _).mono ?_; rintro e w' ⟨rfl, rfl⟩)
  go_ret
  exact ⟨rfl, rfl⟩

set_option maxHeartbeats 4000000 in
set_option maxRecDepth 100000 in
theorem meantP_any (s : St) (lo po : Option Addr) (ln lc pn pc : Nat) (w : World) :
    Calls Try.prog 35 #[.agg #[.int .i64 s.author, .int .i64 s.number, .string s.prev, .int .i64 s.time, .int .i64 s.kind, .int .i64 s.a, .int .i64 s.b, .int .i64 s.c, .slice lo ln lc, .slice po pn pc, .string s.body, .int .i64 s.key, .string s.dig]] w fun e w' => e = .returned (.bool (kindB s)) ∧ Ex w.heap.size none w w' := by
  by_cases k1 : s.kind = 1
  · have k1d : (s.kind == 1) = true := by simp [k1]
    cases h1 : (decide (0 ≤ s.a) && decide (s.a ≤ 63))
    case false =>
      have HK : Hid (kindB s = false) := by show _ = _; (try simp only [Bool.and_eq_false_iff, decide_eq_false_iff_not] at *); simp [kindB, keyB, k1] <;> omega
      clear k1
      go_enter Try.func35, Try.ntmps35
      go_wp2_with (first | (go_at_call 33; refine (listsIn_any _ _ _ _).mono ?_; (first | rw [h1] | skip); rintro e w' ⟨rfl, rfl⟩) | fail)
      go_ret
      exact ⟨by rw [HK.out]; rfl, Ex.new _ _⟩
    by_cases h2 : s.a = s.author
    case pos =>
      have h2d : (s.a != s.author) = false := by simp [h2]
      have HK : Hid (kindB s = false) := by show _ = _; (try simp only [Bool.and_eq_true, decide_eq_true_eq] at *); simp [kindB, keyB, k1, h2] <;> omega
      clear k1 h2
      go_enter Try.func35, Try.ntmps35
      go_wp2_with (first | (go_at_call 33; refine (listsIn_any _ _ _ _).mono ?_; (first | rw [h1] | skip); rintro e w' ⟨rfl, rfl⟩) | fail)
      go_ret
      exact ⟨by rw [HK.out]; rfl, Ex.new _ _⟩
    have h2d : (s.a != s.author) = true := by simp [h2]
    cases h3 : (decide (1 ≤ s.b) && decide (s.b ≤ 3))
    case false =>
      have HK : Hid (kindB s = false) := by show _ = _; (try simp only [Bool.and_eq_false_iff, Bool.and_eq_true, decide_eq_false_iff_not, decide_eq_true_eq] at *); simp [kindB, keyB, k1, h2] <;> omega
      clear k1 h2
      go_enter Try.func35, Try.ntmps35
      go_wp2_with (first | (go_at_call 33; refine (listsIn_any _ _ _ _).mono ?_; (first | rw [h1] | rw [h3] | skip); rintro e w' ⟨rfl, rfl⟩) | fail)
      go_ret
      exact ⟨by rw [HK.out]; rfl, Ex.new _ _⟩
    cases h4 : (decide (s.time ≤ s.c) && decide (s.c ≤ 2147483648))
    case false =>
      have HK : Hid (kindB s = false) := by show _ = _; (try simp only [Bool.and_eq_false_iff, Bool.and_eq_true, decide_eq_false_iff_not, decide_eq_true_eq] at *); simp [kindB, keyB, k1, h2] <;> omega
      clear k1 h2
      go_enter Try.func35, Try.ntmps35
      go_wp2_with (first | (go_at_call 33; refine (listsIn_any _ _ _ _).mono ?_; (first | rw [h1] | rw [h3] | rw [h4] | skip); rintro e w' ⟨rfl, rfl⟩) | fail)
      go_ret
      exact ⟨by rw [HK.out]; rfl, Ex.new _ _⟩
    case true =>
      have HK : Hid (kindB s = true) := by show _ = _; (try simp only [Bool.and_eq_true, decide_eq_true_eq] at *); simp [kindB, keyB, k1, h2] <;> omega
      clear k1 h2
      go_enter Try.func35, Try.ntmps35
      go_wp2_with (first | (go_at_call 33; refine (listsIn_any _ _ _ _).mono ?_; (first | rw [h1] | rw [h3] | rw [h4] | skip); rintro e w' ⟨rfl, rfl⟩) | fail)
      go_ret
      exact ⟨by rw [HK.out]; rfl, Ex.new _ _⟩
  have k1d : (s.kind == 1) = false := by simpa using k1
  by_cases k2 : s.kind = 2
  · have k2d : (s.kind == 2) = true := by simp [k2]
    cases h1 : (decide (0 ≤ s.a) && decide (s.a ≤ 199))
    case false =>
      have HK : Hid (kindB s = false) := by show _ = _; (try simp only [Bool.and_eq_false_iff, decide_eq_false_iff_not] at *); simp [kindB, inB, k2] <;> omega
      clear k2
      go_enter Try.func35, Try.ntmps35
      go_wp2_with (first | (go_at_call 33; refine (listsIn_any _ _ _ _).mono ?_; (first | rw [h1] | skip); rintro e w' ⟨rfl, rfl⟩) | fail)
      go_ret
      exact ⟨by rw [HK.out]; rfl, Ex.new _ _⟩
    by_cases h2 : s.b = 0
    case neg =>
      have h2d : (s.b == 0) = false := by simpa using h2
      have HK : Hid (kindB s = false) := by show _ = _; (try simp only [Bool.and_eq_true, decide_eq_true_eq] at *); simp [kindB, inB, k2, h2] <;> omega
      clear k2 h2
      go_enter Try.func35, Try.ntmps35
      go_wp2_with (first | (go_at_call 33; refine (listsIn_any _ _ _ _).mono ?_; (first | rw [h1] | skip); rintro e w' ⟨rfl, rfl⟩) | fail)
      go_ret
      exact ⟨by rw [HK.out]; rfl, Ex.new _ _⟩
    have h2d : (s.b == 0) = true := by simp [h2]
    by_cases h3 : s.c = 0
    case neg =>
      have h3d : (s.c == 0) = false := by simpa using h3
      have HK : Hid (kindB s = false) := by show _ = _; (try simp only [Bool.and_eq_true, decide_eq_true_eq] at *); simp [kindB, inB, k2, h2, h3] <;> omega
      clear k2 h2 h3
      go_enter Try.func35, Try.ntmps35
      go_wp2_with (first | (go_at_call 33; refine (listsIn_any _ _ _ _).mono ?_; (first | rw [h1] | skip); rintro e w' ⟨rfl, rfl⟩) | fail)
      go_ret
      exact ⟨by rw [HK.out]; rfl, Ex.new _ _⟩
    have h3d : (s.c == 0) = true := by simp [h3]
    have HK : Hid (kindB s = true) := by show _ = _; (try simp only [Bool.and_eq_true, decide_eq_true_eq] at *); simp [kindB, inB, k2, h2, h3] <;> omega
    clear k2 h2 h3
    go_enter Try.func35, Try.ntmps35
    go_wp2_with (first | (go_at_call 33; refine (listsIn_any _ _ _ _).mono ?_; (first | rw [h1] | skip); rintro e w' ⟨rfl, rfl⟩) | fail)
    go_ret
    exact ⟨by rw [HK.out]; rfl, Ex.new _ _⟩
  have k2d : (s.kind == 2) = false := by simpa using k2
  by_cases k3 : s.kind = 3
  · have k3d : (s.kind == 3) = true := by simp [k3]
    by_cases h1 : s.a = 0
    case neg =>
      have h1d : (s.a == 0) = false := by simpa using h1
      have HK : Hid (kindB s = false) := by show _ = _; (try simp only [Bool.and_eq_false_iff, Bool.and_eq_true, decide_eq_false_iff_not, decide_eq_true_eq] at *); simp [kindB, k3, h1] <;> omega
      clear k3 h1
      go_enter Try.func35, Try.ntmps35
      go_wp2_with (first | (go_at_call 33; refine (listsIn_any _ _ _ _).mono ?_; (first  | skip); rintro e w' ⟨rfl, rfl⟩) | fail)
      go_ret
      exact ⟨by rw [HK.out]; rfl, Ex.new _ _⟩
    have h1d : (s.a == 0) = true := by simp [h1]
    by_cases h2 : s.b = 0
    case neg =>
      have h2d : (s.b == 0) = false := by simpa using h2
      have HK : Hid (kindB s = false) := by show _ = _; (try simp only [Bool.and_eq_false_iff, Bool.and_eq_true, decide_eq_false_iff_not, decide_eq_true_eq] at *); simp [kindB, k3, h1, h2] <;> omega
      clear k3 h1 h2
      go_enter Try.func35, Try.ntmps35
      go_wp2_with (first | (go_at_call 33; refine (listsIn_any _ _ _ _).mono ?_; (first  | skip); rintro e w' ⟨rfl, rfl⟩) | fail)
      go_ret
      exact ⟨by rw [HK.out]; rfl, Ex.new _ _⟩
    have h2d : (s.b == 0) = true := by simp [h2]
    by_cases h3 : s.c = 0
    case neg =>
      have h3d : (s.c == 0) = false := by simpa using h3
      have HK : Hid (kindB s = false) := by show _ = _; (try simp only [Bool.and_eq_false_iff, Bool.and_eq_true, decide_eq_false_iff_not, decide_eq_true_eq] at *); simp [kindB, k3, h1, h2, h3] <;> omega
      clear k3 h1 h2 h3
      go_enter Try.func35, Try.ntmps35
      go_wp2_with (first | (go_at_call 33; refine (listsIn_any _ _ _ _).mono ?_; (first  | skip); rintro e w' ⟨rfl, rfl⟩) | fail)
      go_ret
      exact ⟨by rw [HK.out]; rfl, Ex.new _ _⟩
    have h3d : (s.c == 0) = true := by simp [h3]
    have HK : Hid (kindB s = true) := by show _ = _; (try simp only [Bool.and_eq_false_iff, Bool.and_eq_true, decide_eq_false_iff_not, decide_eq_true_eq] at *); simp [kindB, k3, h1, h2, h3] <;> omega
    clear k3 h1 h2 h3
    go_enter Try.func35, Try.ntmps35
    go_wp2_with (first | (go_at_call 33; refine (listsIn_any _ _ _ _).mono ?_; (first  | skip); rintro e w' ⟨rfl, rfl⟩) | fail)
    go_ret
    exact ⟨by rw [HK.out]; rfl, Ex.new _ _⟩
  have k3d : (s.kind == 3) = false := by simpa using k3
  have HK : Hid (kindB s = true) := by show _ = _; (try simp only [Bool.and_eq_false_iff, Bool.and_eq_true, decide_eq_false_iff_not, decide_eq_true_eq] at *); simp [kindB, k1, k2, k3] <;> omega
  clear k1 k2 k3
  go_enter Try.func35, Try.ntmps35
  go_wp2_with (first | (go_at_call 33; refine (listsIn_any _ _ _ _).mono ?_; (first  | skip); rintro e w' ⟨rfl, rfl⟩) | fail)
  go_ret
  exact ⟨by rw [HK.out]; rfl, Ex.new _ _⟩

/-- All numbers of a list can be said. -/
def saidB (xs : List Int) : Bool := xs.all (fun x => inB x 1099511627776)
set_option maxHeartbeats 1000000 in
theorem unsaid_any (n : Int) (w : World) : Calls Try.prog 37 #[.int .i64 n] w fun e w' => e = .returned (.bool (!inB n 1099511627776)) ∧ w = w' := by
  go_enter Try.func37, Try.ntmps37
  cases h : inB n 1099511627776 with
  | true =>
    go_wp2_with (first | (go_at_call 34; refine (asB (valueAny_any _ _) h).mono ?_; rintro e w' ⟨rfl, rfl⟩) | fail)
    go_ret
    exact ⟨rfl, rfl⟩
  | false =>
    go_wp2_with (first | (go_at_call 34; refine (asB (valueAny_any _ _) h).mono ?_; rintro e w' ⟨rfl, rfl⟩) | fail)
    go_ret
    exact ⟨rfl, rfl⟩
set_option maxHeartbeats 1000000 in
theorem indexUnsaid_any (v : Value) (xs : List Int) (w : World) (hv : Ints w v xs) (hm : xs.length ≤ 9223372036854775807) :
    Calls Try.prog 55 #[v, .func (.func 37) #[] #[]] w fun e w' => ∃ i : Int, e = .returned (.int .i64 i) ∧ Hid (0 ≤ i ↔ saidB xs = false) ∧ w = w' := by
  obtain ⟨ao, cap, rfl, hx⟩ := hv
  go_enter Try.func55, Try.ntmps55
  go_wp2
  go_loop [5, 8] (fun _ i => ∃ k : Nat, k ≤ xs.length ∧ i = .int .i64 k ∧ Hid (saidB (xs.take k) = true)) (fun _ i => xs.length - (intOf i).toNat)
  case atStart => exact ⟨0, Nat.zero_le _, rfl, Lib.hid rfl⟩
  case round =>
    obtain ⟨k, hk, rfl, HN⟩ := hrel
    by_cases hlt : k < xs.length
    · have hltI : (k : Int) < (xs.length : Int) := by omega
      obtain ⟨b, off, y, rfl, hck, HY⟩ := hx.get k hlt
      have HG : Hid (xs[k]? = some y) := by
        have := HY.out
        simp only [List.getD_eq_getElem?_getD, List.getElem?_eq_getElem hlt, Option.getD_some] at this
        show _ = _
        rw [List.getElem?_eq_getElem hlt, this]
      cases h : inB y 1099511627776 with
      | false =>
        have HR : Hid (saidB xs = false) := by
          show xs.all _ = _
          rw [List.all_eq_false]
          exact ⟨y, List.mem_of_getElem? HG.out, by simp [h]⟩
        go_wp2_with (first | (refine (unsaid_any y _).mono ?_; rw [h]; rintro e w' ⟨rfl, rfl⟩) | fail)
        go_ret
        exact ⟨_, rfl, (by rw [HR.out]; simp : _ ↔ _), rfl⟩
      | true =>
        have HR : Hid (saidB (xs.take (k + 1)) = true) := by
          show _ = _
          have hn := HN.out
          unfold saidB at hn ⊢
          rw [List.take_add_one, HG.out, List.all_append, hn]
          simp [h]
        go_wp2_with (first | (refine (unsaid_any y _).mono ?_; rw [h]; rintro e w' ⟨rfl, rfl⟩) | fail)
        go_round
        case rel => exact ⟨k + 1, by omega, by go_num, HR⟩
        case measure => simp [intOf] <;> omega
    · have hltI : ¬ (k : Int) < (xs.length : Int) := by omega
      have HR : Hid (saidB xs = true) := by
        have h := HN.out
        rwa [List.take_of_length_le (by omega)] at h
      go_wp2
      go_ret
      exact ⟨_, rfl, (by rw [HR.out]; simp : _ ↔ _), rfl⟩
set_option maxHeartbeats 1000000 in
theorem containsUnsaid_any (v : Value) (xs : List Int) (w : World) (hv : Ints w v xs) (hm : xs.length ≤ 9223372036854775807) :
    Calls Try.prog 36 #[v, .func (.func 37) #[] #[]] w fun e w' => e = .returned (.bool (!saidB xs)) ∧ w = w' := by
  obtain ⟨ao, cap, rfl, hx⟩ := hv
  go_enter Try.func36, Try.ntmps36
  go_wp2_with (go_at_call 55; refine (indexUnsaid_any _ xs _ ⟨_, _, rfl, hx⟩ hm).mono ?_; rintro e w' ⟨i, rfl, hi, rfl⟩)
  go_ret
  refine ⟨ret_bool ?_, rfl⟩
  have h := hi.out
  show decide (0 ≤ i) = _
  rw [Bool.eq_iff_iff, decide_eq_true_eq, h]
  simp
end Go.Proofs.Ytaakacahblndcaa

namespace Go.Proofs.Ytaakacahblndcaa
open Go.RowKit Go.Sort

set_option maxHeartbeats 8000000 in
set_option maxRecDepth 100000 in
theorem pinned_any {P : Nat → Prop} (v : Value) (l : List PinD) (w : World) (hv : Sl pinRep P w v l) (hm : l.length ≤ 9223372036854775807) :
    Calls Try.prog 38 #[v] w fun e w' => e = .returned (.bool (pinsB l)) ∧ Ex w.heap.size none w w' := by
  obtain ⟨ao, cap, rfl, hx⟩ := hv
  have HX := Lib.hid hx
  clear hx
  go_enter Try.func38, Try.ntmps38
  go_wp2
  go_loopw [3, 4, 7] (fun _ _ i wr => ∃ k : Nat, k ≤ l.length ∧ i = .int .i64 k ∧ Hid (pinsTo l k = true) ∧ Ex w.heap.size none w wr) (fun _ _ i _ => l.length - (intOf i).toNat)
  case atStart => exact ⟨0, Nat.zero_le _, rfl, rfl, Ex.refl _ _ _⟩
  case round =>
    obtain ⟨k, hk, rfl, HT, hex⟩ := hrel
    have hsz := hex.size
    by_cases hlt : k < l.length
    · obtain ⟨b, off, p, rfl, _, hb, c0, c1, c2, HP⟩ := pin_get (HX.out.keep (by decide) (fun b _ hb => hex.block b hb (by simp))) k hlt
      have HW := Lib.hid hex
      clear hex
      by_cases a1 : 0 ≤ p.1 ∧ p.1 ≤ 63
      case neg =>
        have h1 : (decide (0 ≤ p.1) && decide (p.1 ≤ 63)) = false := by simp; omega
        have hkb : keyB p.1 = false := by simp [keyB]; omega
        have HK : Hid (pinsB l = false) := pinsTo_no hlt (by unfold pinAt; rw [HP.out]; simp [hkb])
        go_wp2_with fail
        go_quiet ((go_at_call 33; refine (listsIn_any _ _ _ _).mono ?_; (first | rw [h1] | rw [h3] | skip); exact fun _ _ h => ⟨h.1, _, h.2.symm⟩))
        go_wp2
        go_ret
        exact ⟨by rw [HK.out]; rfl, by (repeat (first | exact HW.out | refine Ex.drewN ?_ | refine Ex.drew ?_ | refine Ex.setCell ?_ _ none _ (.inr hsz) | refine Ex.alloc ?_ hsz _))⟩
      case pos =>
        have h1 : (decide (0 ≤ p.1) && decide (p.1 ≤ 63)) = true := by simp [a1]
        have hkb : keyB p.1 = true := by simp [keyB]; omega
        by_cases h0 : k = 0
        · have h0d : decide (0 < k) = false := by simp [h0]
          have HZ := Lib.hid h0
          clear h0
          by_cases a3 : 1 ≤ p.2.1 ∧ p.2.1 ≤ 200
          · have h3 : (decide (1 ≤ p.2.1) && decide (p.2.1 ≤ 200)) = true := by simp [a3]
            by_cases h5 : p.2.2.size = 32
            · have h5d : (((p.2.2.size : Nat) : Int) != 32) = false := by simp [h5]
              have HK : Hid (pinAt l k = true) := (show _ = _ by unfold pinAt; rw [HP.out]; simp [hkb, HZ.out, a3, h5])
              go_wp2_with fail
              go_quiet ((go_at_call 33; refine (listsIn_any _ _ _ _).mono ?_; (first | rw [h1] | rw [h3] | skip); exact fun _ _ h => ⟨h.1, _, h.2.symm⟩))
              go_wp2
              go_roundw
              case rel => exact ⟨k + 1, by omega, by go_num, (show _ = _ by rw [pinsTo_succ, HT.out, HK.out]; rfl), by (repeat (first | exact HW.out | refine Ex.drewN ?_ | refine Ex.drew ?_ | refine Ex.setCell ?_ _ none _ (.inr hsz) | refine Ex.alloc ?_ hsz _))⟩
              case measure => simp [intOf] <;> omega
            · have h5d : (((p.2.2.size : Nat) : Int) != 32) = true := by simp; omega
              have HK : Hid (pinsB l = false) := pinsTo_no hlt (by unfold pinAt; rw [HP.out]; simp [hkb, HZ.out, a3, h5])
              go_wp2_with fail
              go_quiet ((go_at_call 33; refine (listsIn_any _ _ _ _).mono ?_; (first | rw [h1] | rw [h3] | skip); exact fun _ _ h => ⟨h.1, _, h.2.symm⟩))
              go_wp2
              go_ret
              exact ⟨by rw [HK.out]; rfl, by (repeat (first | exact HW.out | refine Ex.drewN ?_ | refine Ex.drew ?_ | refine Ex.setCell ?_ _ none _ (.inr hsz) | refine Ex.alloc ?_ hsz _))⟩
          · have h3 : (decide (1 ≤ p.2.1) && decide (p.2.1 ≤ 200)) = false := by simp; omega
            have HK : Hid (pinsB l = false) := pinsTo_no hlt (by unfold pinAt; rw [HP.out]; have hx : ¬ 1 ≤ p.2.1 ∨ ¬ p.2.1 ≤ 200 := (by omega); rcases hx with hx | hx <;> simp [hkb, HZ.out, hx])
            go_wp2_with fail
            go_quiet ((go_at_call 33; refine (listsIn_any _ _ _ _).mono ?_; (first | rw [h1] | rw [h3] | skip); exact fun _ _ h => ⟨h.1, _, h.2.symm⟩))
            go_wp2
            go_ret
            exact ⟨by rw [HK.out]; rfl, by (repeat (first | exact HW.out | refine Ex.drewN ?_ | refine Ex.drew ?_ | refine Ex.setCell ?_ _ none _ (.inr hsz) | refine Ex.alloc ?_ hsz _))⟩
        · have h0d : 0 < k := by omega
          obtain ⟨i, hi⟩ : ∃ i, i = k - 1 := ⟨_, rfl⟩
          have hw1 : IntKind.i64.wrap ((k : Int) - 1) = i := by rw [show (k : Int) - 1 = i by omega]; exact IntWalk.i64_in _ (by omega)
          have hik : (i : Int) < (l.length : Int) := by omega
          obtain ⟨b', off', q, e', _, hb', c0', _, _, HQ⟩ := pin_get (HX.out.keep (by decide) (fun b _ hb => HW.out.block b hb (by simp))) i (by omega)
          cases e'
          have HI : Hid (l[k - 1]? = some q) := by rw [← hi]; exact HQ
          clear hi
          by_cases h2 : q.1 < p.1
          · have h2d : decide (p.1 ≤ q.1) = false := decide_eq_false (by omega)
            by_cases a3 : 1 ≤ p.2.1 ∧ p.2.1 ≤ 200
            · have h3 : (decide (1 ≤ p.2.1) && decide (p.2.1 ≤ 200)) = true := by simp [a3]
              by_cases h5 : p.2.2.size = 32
              · have h5d : (((p.2.2.size : Nat) : Int) != 32) = false := by simp [h5]
                have HK : Hid (pinAt l k = true) := (show _ = _ by unfold pinAt; rw [HP.out]; simp [hkb, h0, HI.out, h2, a3, h5])
                go_wp2_with fail
                go_quiet ((go_at_call 33; refine (listsIn_any _ _ _ _).mono ?_; (first | rw [h1] | rw [h3] | skip); exact fun _ _ h => ⟨h.1, _, h.2.symm⟩))
                go_wp2
                go_roundw
                case rel => exact ⟨k + 1, by omega, by go_num, (show _ = _ by rw [pinsTo_succ, HT.out, HK.out]; rfl), by (repeat (first | exact HW.out | refine Ex.drewN ?_ | refine Ex.drew ?_ | refine Ex.setCell ?_ _ none _ (.inr hsz) | refine Ex.alloc ?_ hsz _))⟩
                case measure => simp [intOf] <;> omega
              · have h5d : (((p.2.2.size : Nat) : Int) != 32) = true := by simp; omega
                have HK : Hid (pinsB l = false) := pinsTo_no hlt (by unfold pinAt; rw [HP.out]; simp [hkb, h0, HI.out, h2, a3, h5])
                go_wp2_with fail
                go_quiet ((go_at_call 33; refine (listsIn_any _ _ _ _).mono ?_; (first | rw [h1] | rw [h3] | skip); exact fun _ _ h => ⟨h.1, _, h.2.symm⟩))
                go_wp2
                go_ret
                exact ⟨by rw [HK.out]; rfl, by (repeat (first | exact HW.out | refine Ex.drewN ?_ | refine Ex.drew ?_ | refine Ex.setCell ?_ _ none _ (.inr hsz) | refine Ex.alloc ?_ hsz _))⟩
            · have h3 : (decide (1 ≤ p.2.1) && decide (p.2.1 ≤ 200)) = false := by simp; omega
              have HK : Hid (pinsB l = false) := pinsTo_no hlt (by unfold pinAt; rw [HP.out]; have hx : ¬ 1 ≤ p.2.1 ∨ ¬ p.2.1 ≤ 200 := (by omega); rcases hx with hx | hx <;> simp [hkb, h0, HI.out, h2, hx])
              go_wp2_with fail
              go_quiet ((go_at_call 33; refine (listsIn_any _ _ _ _).mono ?_; (first | rw [h1] | rw [h3] | skip); exact fun _ _ h => ⟨h.1, _, h.2.symm⟩))
              go_wp2
              go_ret
              exact ⟨by rw [HK.out]; rfl, by (repeat (first | exact HW.out | refine Ex.drewN ?_ | refine Ex.drew ?_ | refine Ex.setCell ?_ _ none _ (.inr hsz) | refine Ex.alloc ?_ hsz _))⟩
          · have h2d : decide (p.1 ≤ q.1) = true := decide_eq_true (by omega)
            have HK : Hid (pinsB l = false) := pinsTo_no hlt (by unfold pinAt; rw [HP.out]; simp [hkb, h0, HI.out, h2])
            go_wp2_with fail
            go_quiet ((go_at_call 33; refine (listsIn_any _ _ _ _).mono ?_; (first | rw [h1] | rw [h3] | skip); exact fun _ _ h => ⟨h.1, _, h.2.symm⟩))
            go_wp2
            go_ret
            exact ⟨by rw [HK.out]; rfl, by (repeat (first | exact HW.out | refine Ex.drewN ?_ | refine Ex.drew ?_ | refine Ex.setCell ?_ _ none _ (.inr hsz) | refine Ex.alloc ?_ hsz _))⟩
    · obtain rfl : k = l.length := by omega
      go_wp2
      go_ret
      exact ⟨by rw [show pinsB l = true from HT.out]; rfl, hex⟩
end Go.Proofs.Ytaakacahblndcaa

namespace Go.Proofs.Ytaakacahblndcaa
open Go.RowKit Go.Sort

/-- The cells of a link: a statement and its digest. -/
def linkE (x : St × Sv × Sv) : List Value := [.int .i64 x.1.author, .int .i64 x.1.number, .string x.1.prev, .int .i64 x.1.time, .int .i64 x.1.kind, .int .i64 x.1.a, .int .i64 x.1.b, .int .i64 x.1.c, x.2.1.v, x.2.2.v, .string x.1.body, .int .i64 x.1.key, .string x.1.dig, .string x.1.dig]
theorem linkE_len (x : St × Sv × Sv) : (linkE x).length = 14 := rfl
theorem one_linkE : ∀ x, ∀ v ∈ linkE x, v.oneCell' = true := fun x v hv => by
  simp only [linkE, Sv.v, List.mem_cons, List.not_mem_nil, or_false] at hv
  rcases hv with rfl | rfl | rfl | rfl | rfl | rfl | rfl | rfl | rfl | rfl | rfl | rfl | rfl | rfl <;> rfl
/-- By number and digest. -/
def cmpND (x y : St × Sv × Sv) : Int := (([cmpI x.1.number y.1.number, cmpS x.1.dig y.1.dig]).find? (· != 0)).getD 0
/-- By number and digest: less. -/
def ltNDs (s t : St) : Bool := decide (s.number < t.number) || (decide (s.number = t.number) && lssS s.dig t.dig)
theorem ltND_of (x y : St × Sv × Sv) : ltOf cmpND x y = ltNDs x.1 y.1 := by
  unfold ltOf cmpND ltNDs
  by_cases h1 : x.1.number = y.1.number
  · have e1 : cmpI x.1.number y.1.number = 0 := cmpI_zero.2 h1
    rw [e1, List.find?_cons_of_neg (by simp)]
    by_cases h2 : cmpS x.1.dig y.1.dig = 0
    · rw [h2, List.find?_cons_of_neg (by simp)]
      have := cmpS_lt x.1.dig y.1.dig
      rw [h2] at this
      simp [h1, ← this]
    · rw [List.find?_cons_of_pos (by simpa using h2)]
      have := cmpS_lt x.1.dig y.1.dig
      simp [h1, ← this]
  · have e1 : ¬ cmpI x.1.number y.1.number = 0 := fun h => h1 (cmpI_zero.1 h)
    rw [List.find?_cons_of_pos (by simpa using e1)]
    simp [h1, cmpI_lt]
theorem swo_ltNDs_irrefl (s : St) : ltNDs s s = false := by
  have : lssS s.dig s.dig = false := by unfold lssS; rw [bytesLess_eq]; exact swo_ltStr.irrefl _
  simp [ltNDs, this]
theorem swo_cmpND : SWO (ltOf cmpND) := by
  have L : ∀ a b : ByteArray, lssS a b = ltStr a.toList b.toList := fun a b => by unfold lssS; rw [bytesLess_eq]; rfl
  refine ⟨fun x => ?_, fun x y z h1 h2 => ?_, fun x y z h1 h2 => ?_⟩
  · rw [ltND_of]; exact swo_ltNDs_irrefl _
  · rw [ltND_of] at *
    simp only [ltNDs, Bool.or_eq_true, Bool.and_eq_true, decide_eq_true_eq] at *
    rcases h1 with h1 | ⟨h1, k1⟩ <;> rcases h2 with h2 | ⟨h2, k2⟩
    · exact .inl (by omega)
    · exact .inl (by omega)
    · exact .inl (by omega)
    · refine .inr ⟨by omega, ?_⟩
      rw [L] at *
      exact swo_ltStr.trans _ _ _ k1 k2
  · rw [ltND_of] at *
    simp only [ltNDs, Bool.or_eq_false_iff, Bool.and_eq_false_iff, decide_eq_false_iff_not] at *
    refine ⟨by omega, ?_⟩
    by_cases e : x.1.number = z.1.number
    · right
      have e1 : x.1.number = y.1.number := by omega
      have e2 : y.1.number = z.1.number := by omega
      have k1 := h1.2.resolve_left (fun h => h e1)
      have k2 := h2.2.resolve_left (fun h => h e2)
      rw [L] at *
      exact swo_ltStr.ntrans _ _ _ k1 k2
    · exact .inl e
/-- One digest. -/
def sameDig (x y : St × Sv × Sv) : Bool := x.1.dig.toList == y.1.dig.toList
set_option maxHeartbeats 4000000 in
set_option maxRecDepth 100000 in
theorem linkCmp_any (x y : St × Sv × Sv) (w : World) : Calls Try.prog 43 #[.agg (linkE x).toArray, .agg (linkE y).toArray] w fun e w' => e = .returned (.int .i64 (cmpND x y)) ∧ ∃ q os', w' = grow (w.drewN q) os' := by
  obtain ⟨s, ⟨lo, ln, lc⟩, ⟨po, pn, pc⟩⟩ := x
  obtain ⟨t, ⟨lo', ln', lc'⟩, ⟨po', pn', pc'⟩⟩ := y
  simp only [linkE, Sv.v, cmpND]
  go_enter Try.func43, Try.ntmps43
  go_wp2_with fail
  go_region_held3 (fun w' => w'.cell? ⟨w.heap.size, 1, none⟩ = some (.int .i64 s.number) ∧ w'.cell? ⟨w.heap.size + 1, 1, none⟩ = some (.int .i64 t.number) ∧ w'.cell? ⟨w.heap.size, 13, none⟩ = some (.string s.dig) ∧ w'.cell? ⟨w.heap.size + 1, 13, none⟩ = some (.string t.dig)) (go_keep)
    (first
      | (go_at_call 45; refine (compare_any _ _ _).mono ?_; rintro e w' ⟨rfl, rfl⟩)
      | (go_at_call 46; refine (compareS_any _ _ _).mono ?_; rintro e w' ⟨rfl, rfl⟩)
      | (go_at_call 44; refine (cmpOr_any _ [cmpI s.number t.number, cmpS s.dig t.dig] _ (Ints.keep (Ints.lit [cmpI s.number t.number, cmpS s.dig t.dig] (by simp) rfl) (Ex.refl _ none _).drew (Nat.le_refl _)) (by simp)).mono ?_; rintro e w' ⟨rfl, rfl⟩))
  go_wp2
  go_ret
  refine ⟨rfl, ?_⟩
  exact ⟨1, #[_, _, _], by rw [alloc_eq_grow, alloc_eq_grow, alloc_eq_grow, grow_grow, grow_grow]; rfl⟩
set_option maxHeartbeats 1000000 in
theorem linkSame_any (x y : St × Sv × Sv) (w : World) : Calls Try.prog 48 #[.agg (linkE x).toArray, .agg (linkE y).toArray] w fun e w' => e = .returned (.bool (sameDig x y)) ∧ ∃ q os', w' = grow (w.drewN q) os' := by
  obtain ⟨s, ⟨lo, ln, lc⟩, ⟨po, pn, pc⟩⟩ := x
  obtain ⟨t, ⟨lo', ln', lc'⟩, ⟨po', pn', pc'⟩⟩ := y
  simp only [linkE, Sv.v, sameDig]
  go_enter Try.func48, Try.ntmps48
  go_wp2
  go_ret
  exact ⟨by simp, 0, #[_, _], by rw [alloc_eq_grow, alloc_eq_grow, grow_grow]; rfl⟩
end Go.Proofs.Ytaakacahblndcaa

namespace Go.Proofs.Ytaakacahblndcaa
open Go.RowKit Go.Sort

/-- By author, number and digest. -/
def cmpAND (x y : St × Sv × Sv) : Int := (([cmpI x.1.author y.1.author, cmpI x.1.number y.1.number, cmpS x.1.dig y.1.dig]).find? (· != 0)).getD 0
/-- The same, of the statements alone. -/
def cmpA (s t : St) : Int := (([cmpI s.author t.author, cmpI s.number t.number, cmpS s.dig t.dig]).find? (· != 0)).getD 0
/-- By author, number and digest: less. -/
def ltA (s t : St) : Bool := decide (s.author < t.author) || (decide (s.author = t.author) && ltNDs s t)
end Go.Proofs.Ytaakacahblndcaa

namespace Go.Proofs.Ytaakacahblndcaa
open Go.RowKit Go.Sort

theorem sortLink_none (p : Option Addr) (cap : Nat) (fv : Value) (w : World) : Calls Try.prog 42 #[.slice p 0 cap, fv] w fun e w' => e = .returned (.tuple #[]) ∧ w' = w :=
  AnyF.slices_SortFunc_none Try.pdqLink p cap fv w
theorem sortLink_any (g off cap n : Nat) (d : Array (St × Sv × Sv)) (w : World) (hH : HoldsK linkE 14 w g off d) (hg : g < w.heap.size) (hn : d.size = n) (hsz : n < 4611686018427387904) :
    Calls Try.prog 42 #[.slice (some ⟨g, off, none⟩) n cap, .func (.func 43) #[] #[]] w fun e w' =>
      e = .returned (.tuple #[]) ∧ ∃ d', HoldsK linkE 14 w' g off d' ∧ d'.size = n ∧ d'.toList.Perm d.toList ∧ SortedIn (ltOf cmpND) 0 d'.size d' ∧ Ex w.heap.size (some g) w w' := by
  subst hn
  refine (AnyQ.slices_SortFunc Try.pdqLink 14 Try.isAgg56 Try.sizeOf56 linkE linkE_len one_linkE cmpND swo_cmpND 43 #[] g off cap d w
    (enters_of Try.func43 (by kernel_rfl) rfl) (fun m os dk _ x y => linkCmp_any x y _) hH hg hsz).mono ?_
  rintro e w' ⟨rfl, d', n, os, hp, hs, rfl⟩
  exact ⟨rfl, d', holdsK_sortWorldK_c linkE 14 w g off d _ n os hH hg hp.1, hp.1, permIn_list hp, by rw [hp.1]; exact hs, ex_sortWorldK linkE 14 w g off n _ os⟩
set_option maxHeartbeats 1000000 in
theorem compactLink_none (p : Option Addr) (cap : Nat) (fv : Value) (w : World) : Calls Try.prog 47 #[.slice p 0 cap, fv] w fun e w' => e = .returned (.slice p 0 cap) ∧ w' = w := by
  go_enter Try.func47, Try.ntmps47
  go_wp2
  go_ret
  exact ⟨rfl, rfl⟩
theorem compactLinks_any (g cap n : Nat) (d : Array (St × Sv × Sv)) (w : World) (hH : HoldsK linkE 14 w g 0 d) (hg : g < w.heap.size) (hs : d.size = n) (hsz : n < 1000000000000) (hcap : n ≤ cap) :
    Calls Try.prog 47 #[.slice (some ⟨g, 0, none⟩) n cap, .func (.func 48) #[] #[]] w fun e w' =>
      e = .returned (.slice (some ⟨g, 0, none⟩) (cpt sameDig d n).length cap) ∧ HoldsK linkE 14 w' g 0 (cpt sameDig d n).toArray ∧ Ex w.heap.size (some g) w w' :=
  compactLink_any clayLink linkE linkE_len one_linkE sameDig 48 #[] (enters_of Try.func48 (by kernel_rfl) rfl) (fun w x y => linkSame_any x y w)
    Try.func47 _ Try.zeroValue56 rfl (by decide) Try.underlying57 Try.isAgg57 Try.sizeOf57
    g 0 cap n d w hH hg (by omega) (by omega) hs
end Go.Proofs.Ytaakacahblndcaa

namespace Go.Proofs.Ytaakacahblndcaa
open Go.RowKit Go.Sort

set_option maxHeartbeats 8000000 in
set_option maxRecDepth 100000 in
theorem copied_any {P : Nat → Prop} (s : St) (lo po : Option Addr) (ln lc pn pc : Nat) (w : World) (hs : Lies P w (s, ⟨lo, ln, lc⟩, ⟨po, pn, pc⟩)) (hm : s.list.length ≤ 1000000 ∧ s.pins.length ≤ 1000000) :
    Calls Try.prog 17 #[.agg #[.int .i64 s.author, .int .i64 s.number, .string s.prev, .int .i64 s.time, .int .i64 s.kind, .int .i64 s.a, .int .i64 s.b, .int .i64 s.c, .slice lo ln lc, .slice po pn pc, .string s.body, .int .i64 s.key, .string s.dig]] w fun e w' => ∃ (la : Option Addr) (na ca : Nat) (pa : Option Addr) (np cp : Nat), e = .returned (.agg #[.int .i64 s.author, .int .i64 s.number, .string s.prev, .int .i64 s.time, .int .i64 s.kind, .int .i64 s.a, .int .i64 s.b, .int .i64 s.c, .slice la na ca, .slice pa np cp, .string s.body, .int .i64 s.key, .string s.dig]) ∧ Lies (fun b => w.heap.size ≤ b) w' (s, ⟨la, na, ca⟩, ⟨pa, np, cp⟩) ∧ Ex w.heap.size none w w' := by
  have HLS := Lib.hid hs
  have HM := Lib.hid hm
  clear hs hm
  obtain ⟨w0, hw0⟩ : ∃ w0 : World, w0 = (w.alloc (.cells #[.int .i64 s.author, .int .i64 s.number, .string s.prev, .int .i64 s.time, .int .i64 s.kind, .int .i64 s.a, .int .i64 s.b, .int .i64 s.c, .slice lo ln lc, .slice po pn pc, .string s.body, .int .i64 s.key, .string s.dig] 33)).alloc (.cells #[.int .i64 0, .int .i64 0, .string ⟨#[]⟩, .int .i64 0, .int .i64 0, .int .i64 0, .int .i64 0, .int .i64 0, .slice none 0 0, .slice none 0 0, .string ⟨#[]⟩, .int .i64 0, .string ⟨#[]⟩] 33) := ⟨_, rfl⟩
  have hz0 : w0.heap.size = w.heap.size + 2 := by rw [hw0]; simp
  have HE0 : Hid (Ex w.heap.size none w w0) := by rw [hw0]; exact ex_two0 _ _
  have HB0 : Hid (w0.heap[w.heap.size]? = some (.cells #[.int .i64 s.author, .int .i64 s.number, .string s.prev, .int .i64 s.time, .int .i64 s.kind, .int .i64 s.a, .int .i64 s.b, .int .i64 s.c, .slice lo ln lc, .slice po pn pc, .string s.body, .int .i64 s.key, .string s.dig] 33 (0, 0)) ∧ w0.heap[w.heap.size + 1]? = some (.cells #[.int .i64 0, .int .i64 0, .string ⟨#[]⟩, .int .i64 0, .int .i64 0, .int .i64 0, .int .i64 0, .int .i64 0, .slice none 0 0, .slice none 0 0, .string ⟨#[]⟩, .int .i64 0, .string ⟨#[]⟩] 33 (0, 0))) := Lib.hid (by
    rw [hw0]
    exact ⟨((Ex.new _ _).block w.heap.size (by simp) (by simp)).trans (heap_alloc_new w _), by have := heap_alloc_new (w.alloc (.cells #[.int .i64 s.author, .int .i64 s.number, .string s.prev, .int .i64 s.time, .int .i64 s.kind, .int .i64 s.a, .int .i64 s.b, .int .i64 s.c, .slice lo ln lc, .slice po pn pc, .string s.body, .int .i64 s.key, .string s.dig] 33)) (.cells #[.int .i64 0, .int .i64 0, .string ⟨#[]⟩, .int .i64 0, .int .i64 0, .int .i64 0, .int .i64 0, .int .i64 0, .slice none 0 0, .slice none 0 0, .string ⟨#[]⟩, .int .i64 0, .string ⟨#[]⟩] 33); simpa using this⟩)
  go_enter Try.func17, Try.ntmps17
  go_upto_region 1 with (fail)
  rw [← hw0]
  clear hw0
  obtain ⟨⟨d0, d1, d2, d3, d4, d5, d6, d7, d8, d9, d10, d11, d12⟩, fz⟩ := st_block HB0.out.1
  go_region_law (first
    | (go_simp
       go_at_call 29
       refine (cloneInts_any lo ln lc s.list _ (by first | exact HLS.out.1.keep (by decide) (fun b _ hb => (HE0.out.drew).block b hb (by simp)) | exact HLS.out.1.keep (by decide) (fun b _ hb => ((HEP.out).drew).block b hb (by simp)) | exact HLS.out.1.keep (by decide) (fun b _ hb => HEP.out.block b hb (by simp))) HM.out.1).mono ?_
       rintro e wi ⟨la, na, ca, rfl, hli, hexi⟩
       have HLI := Lib.hid hli
       have HXI := Lib.hid hexi
       have zi : w.heap.size + 2 ≤ wi.heap.size := Nat.le_trans (by first | exact (Nat.le_of_eq hz0.symm) | exact zp) hexi.size
       have HEI : Hid (Ex w.heap.size none w wi) := (by first | exact (HE0.out.drew).trans hexi (by simp; omega) (by simp) | exact ((HEP.out).drew).trans hexi (by simp; omega) (by simp) | exact HEP.out.trans hexi (by omega) (by simp))
       have HBI : Hid (wi.heap[w.heap.size]? = w0.heap[w.heap.size]? ∧ wi.heap[w.heap.size + 1]? = w0.heap[w.heap.size + 1]?) := (by first | exact ⟨hexi.block w.heap.size (by simp; omega) (by simp), hexi.block (w.heap.size + 1) (by simp; omega) (by simp)⟩ | exact ⟨(hexi.block w.heap.size (by omega) (by simp)).trans HBP.out.1, (hexi.block (w.heap.size + 1) (by omega) (by simp)).trans HBP.out.2⟩)
       have bi := st_block (HBI.out.1.trans HB0.out.1)
       obtain ⟨⟨d0', d1', d2', d3', d4', d5', d6', d7', d8', d9', d10', d11', d12'⟩, fz'⟩ := bi
       clear hli hexi)
    | (go_simp
       go_at_call 30
       refine (clonePins_any po pn pc s.pins _ (by first | exact HLS.out.2.keep (by decide) (fun b _ hb => (HE0.out.drew).block b hb (by simp)) | exact HLS.out.2.keep (by decide) (fun b _ hb => ((HEI.out).drew).block b hb (by simp)) | exact HLS.out.2.keep (by decide) (fun b _ hb => HEI.out.block b hb (by simp))) HM.out.2).mono ?_
       rintro e wp ⟨pa, np, cp, rfl, hlp, hexp⟩
       have HLP := Lib.hid hlp
       have HXP := Lib.hid hexp
       have zp : w.heap.size + 2 ≤ wp.heap.size := Nat.le_trans (by first | exact (Nat.le_of_eq hz0.symm) | exact zi) hexp.size
       have HEP : Hid (Ex w.heap.size none w wp) := (by first | exact (HE0.out.drew).trans hexp (by simp; omega) (by simp) | exact ((HEI.out).drew).trans hexp (by simp; omega) (by simp) | exact HEI.out.trans hexp (by omega) (by simp))
       have HBP : Hid (wp.heap[w.heap.size]? = w0.heap[w.heap.size]? ∧ wp.heap[w.heap.size + 1]? = w0.heap[w.heap.size + 1]?) := (by first | exact ⟨hexp.block w.heap.size (by simp; omega) (by simp), hexp.block (w.heap.size + 1) (by simp; omega) (by simp)⟩ | exact ⟨(hexp.block w.heap.size (by omega) (by simp)).trans HBI.out.1, (hexp.block (w.heap.size + 1) (by omega) (by simp)).trans HBI.out.2⟩)
       have bp := st_block (HBP.out.1.trans HB0.out.1)
       obtain ⟨⟨d0', d1', d2', d3', d4', d5', d6', d7', d8', d9', d10', d11', d12'⟩, fz'⟩ := bp
       clear hlp hexp))
  all_goals
    have hLi : Sl intRep (fun b => w.heap.size + 2 ≤ b) wi (.slice la na ca) s.list := HLI.out.mono (by decide) (fun b hb _ => Nat.le_trans (by simp; omega) hb)
    have hLp : Sl pinRep (fun b => w.heap.size + 2 ≤ b) wp (.slice pa np cp) s.pins := HLP.out.mono (by decide) (fun b hb _ => Nat.le_trans zi hb)
    have hLi2 := hLi.keep (w' := (wp.setCell ⟨w.heap.size, 8, none⟩ (.slice la na ca)).setCell ⟨w.heap.size, 9, none⟩ (.slice pa np cp)) (by decide) (fun b hb hlt => set_far (by omega) (set_far (by omega) (HXP.out.block b hlt (by simp))))
    have hLp2 := hLp.keep (w' := (wp.setCell ⟨w.heap.size, 8, none⟩ (.slice la na ca)).setCell ⟨w.heap.size, 9, none⟩ (.slice pa np cp)) (by decide) (fun b hb hlt => set_far (by omega) (set_far (by omega) rfl))
    have hEW := (HEP.out.setCell 8 none (.slice la na ca) (.inr (Nat.le_refl _))).setCell 9 none (.slice pa np cp) (.inr (Nat.le_refl _))
    have hBW := fin_block la pa na ca np cp (HBP.out.1.trans HB0.out.1)
    have hBZ : ((wp.setCell ⟨w.heap.size, 8, none⟩ (.slice la na ca)).setCell ⟨w.heap.size, 9, none⟩ (.slice pa np cp)).heap[w.heap.size + 1]? = some (.cells #[.int .i64 0, .int .i64 0, .string ⟨#[]⟩, .int .i64 0, .int .i64 0, .int .i64 0, .int .i64 0, .int .i64 0, .slice none 0 0, .slice none 0 0, .string ⟨#[]⟩, .int .i64 0, .string ⟨#[]⟩] 33 (0, 0)) := by
      iterate 2 refine set_far (by omega) ?_
      exact HBP.out.2.trans HB0.out.2
    obtain ⟨W, hW⟩ : ∃ W, W = (wp.setCell ⟨w.heap.size, 8, none⟩ (.slice la na ca)).setCell ⟨w.heap.size, 9, none⟩ (.slice pa np cp) := ⟨_, rfl⟩
    rw [← hW] at hLi2 hLp2 hEW hBW hBZ ⊢
    clear hW hLi hLp HLI HLP HEP HXP HBP HBI HEI HXI d0' d1' d2' d3' d4' d5' d6' d7' d8' d9' d10' d11' d12' fz' d0 d1 d2 d3 d4 d5 d6 d7 d8 d9 d10 d11 d12 fz
    have HL4 : Hid (Lies (fun b => w.heap.size + 2 ≤ b) W (s, ⟨la, na, ca⟩, ⟨pa, np, cp⟩)) := Lib.hid ⟨hLi2, hLp2⟩
    have HE4 := Lib.hid hEW
    have HB4 : Hid (W.heap[w.heap.size + 1]? = some (.cells #[.int .i64 0, .int .i64 0, .string ⟨#[]⟩, .int .i64 0, .int .i64 0, .int .i64 0, .int .i64 0, .int .i64 0, .slice none 0 0, .slice none 0 0, .string ⟨#[]⟩, .int .i64 0, .string ⟨#[]⟩] 33 (0, 0))) := Lib.hid hBZ
    obtain ⟨⟨d0, d1, d2, d3, d4, d5, d6, d7, d8, d9, d10, d11, d12⟩, fz⟩ := st_block hBW
    clear hLi2 hLp2 hEW hBW hBZ
    go_wp2_with (first
      | (refine wpList_store_rowTo rfl 33 (.tmp 2) (.tmp 11) rfl rfl (w.heap.size + 1) #[.int .i64 s.author, .int .i64 s.number, .string s.prev, .int .i64 s.time, .int .i64 s.kind, .int .i64 s.a, .int .i64 s.b, .int .i64 s.c, .slice la na ca, .slice pa np cp, .string s.body, .int .i64 s.key, .string s.dig] (by rfl) (by rfl) 33 #[.int .i64 0, .int .i64 0, .string ⟨#[]⟩, .int .i64 0, .int .i64 0, .int .i64 0, .int .i64 0, .int .i64 0, .slice none 0 0, .slice none 0 0, .string ⟨#[]⟩, .int .i64 0, .string ⟨#[]⟩] HB4.out Try.sizeSt rfl (by simp [Value.oneCell']) ?_))
    obtain ⟨w5, hw5⟩ : ∃ w5 : World, w5 = W.setRow (w.heap.size + 1) #[.int .i64 s.author, .int .i64 s.number, .string s.prev, .int .i64 s.time, .int .i64 s.kind, .int .i64 s.a, .int .i64 s.b, .int .i64 s.c, .slice la na ca, .slice pa np cp, .string s.body, .int .i64 s.key, .string s.dig] := ⟨_, rfl⟩
    have HE5 : Hid (Ex w.heap.size none w w5) := Lib.hid (by
      rw [hw5]
      exact HE4.out.setRow _ _ (.inr (by omega)))
    have HL5 : Hid (Lies (fun b => w.heap.size + 2 ≤ b) w5 (s, ⟨la, na, ca⟩, ⟨pa, np, cp⟩)) := Lib.hid (by
      rw [hw5]
      exact HL4.out.keep fun b h1 _ => setRow_other _ _ _ _ (by omega))
    have hb5 : w5.heap[w.heap.size + 1]? = some (.cells #[.int .i64 s.author, .int .i64 s.number, .string s.prev, .int .i64 s.time, .int .i64 s.kind, .int .i64 s.a, .int .i64 s.b, .int .i64 s.c, .slice la na ca, .slice pa np cp, .string s.body, .int .i64 s.key, .string s.dig] 33 (0, 0)) := by rw [hw5]; exact setRow_heap _ _ _ _ _ _ HB4.out
    rw [← hw5]
    clear hw5 HB4 HL4 d0 d1 d2 d3 d4 d5 d6 d7 d8 d9 d10 d11 d12 fz
    obtain ⟨⟨d0, d1, d2, d3, d4, d5, d6, d7, d8, d9, d10, d11, d12⟩, fz⟩ := st_block hb5
    refine bodyPost_ret (v := .agg #[.int .i64 s.author, .int .i64 s.number, .string s.prev, .int .i64 s.time, .int .i64 s.kind, .int .i64 s.a, .int .i64 s.b, .int .i64 s.c, .slice la na ca, .slice pa np cp, .string s.body, .int .i64 s.key, .string s.dig]) (by simp [results, Try.results17, go_sem, d0, d1, d2, d3, d4, d5, d6, d7, d8, d9, d10, d11, d12]) rfl ?_
    exact ⟨la, na, ca, pa, np, cp, rfl, HL5.out.mono fun b h _ => by omega, HE5.out⟩
end Go.Proofs.Ytaakacahblndcaa

namespace Go.Proofs.Ytaakacahblndcaa
open Go.RowKit Go.Sort

end Go.Proofs.Ytaakacahblndcaa

namespace Go.Proofs.Ytaakacahblndcaa
open Go.RowKit Go.Sort

end Go.Proofs.Ytaakacahblndcaa

namespace Go.Proofs.Ytaakacahblndcaa
open Go.RowKit Go.Sort

/-- The first k have lists of their own, the others those of before. -/
def HalfS (P : Nat → Prop) (w0 w : World) (base g k : Nat) (xs ys : List (St × Sv × Sv)) : Prop :=
  (∀ j x, j < k → ys[j]? = some x → Lies (fun b => base ≤ b ∧ b ≠ g) w x) ∧ (∀ j, k ≤ j → ys[j]? = xs[j]?) ∧ (∀ x ∈ xs, Lies P w0 x)

end Go.Proofs.Ytaakacahblndcaa
