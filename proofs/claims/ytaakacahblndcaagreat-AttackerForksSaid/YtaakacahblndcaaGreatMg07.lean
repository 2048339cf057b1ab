/- Small functions of the mourning layer and the statement layer's. No statement of the seat. | statement.value, meant; slices.IndexFunc with the program's closure: contracts at whatever statement. No statement of the seat. | statement.pinned: a contract, no statement of the seat. | Links of a chain as data, and the two closures of chain.links. No statement of the seat. | shelf.Compare: the order of a store. No statement of the seat. | chain.copied: a contract, no statement of the seat. | shelf.Copy: statements that share no memory. No statement of the seat. | One element of an owned row of statements gets other lists. No statement of the seat. | shelf.Copy: statements that share no memory. No statement of the seat. | ref04.Follows: a contract, no statement of the seat. | slices.SortFunc and slices.CompactFunc at links: contracts, no statement of the seat. | store.Of: the statements of an author, copied. No statement of the seat. -/
import Derived.Test.YtaakacahblndcaaGreatSeal03G
import Derived.IntWalk
import Derived.Test.YtaakacahblndcaaGreatMg05
import Derived.Deep.Cut
import Derived.BigQuiet
import Derived.Test.YtaakacahblndcaaGreatMg00
import Derived.Test.YtaakacahblndcaaGreatMg01
import Derived.Sort.Grow
import Derived.Deep.RegionHeld3
import Derived.Deep.RegionLaw
import Derived.OwnWalk
import Derived.Outline
import Derived.Test.YtaakacahblndcaaGreatMg03
import Derived.Test.YtaakacahblndcaaGreatOnlyG
namespace Go.Proofs.YtaakacahblndcaaGreat
open Go.RowKit Go.Sort

set_option maxHeartbeats 1000000 in
theorem listsIn_any (n lo hi : Int) (w : World) : Calls Tryz.prog 75 #[.int .i64 n, .int .i64 lo, .int .i64 hi] w fun e w' => e = .returned (.bool (decide (lo ≤ n) && decide (n ≤ hi))) ∧ w = w' := by
  by_cases h1 : lo ≤ n
  · have d1 : decide (lo ≤ n) = true := decide_eq_true h1
    go_enter Tryz.func75, Tryz.ntmps75
    go_wp2
    go_ret
    exact ⟨by rw [d1, Bool.true_and]; rfl, rfl⟩
  · have d1 : decide (lo ≤ n) = false := decide_eq_false h1
    go_enter Tryz.func75, Tryz.ntmps75
    go_wp2
    go_ret
    exact ⟨rfl, rfl⟩
theorem listsIn_yes (n lo hi : Int) (w : World) (h : lo ≤ n ∧ n ≤ hi) : Calls Tryz.prog 75 #[.int .i64 n, .int .i64 lo, .int .i64 hi] w fun e w' => e = .returned (.bool true) ∧ w = w' :=
  (listsIn_any n lo hi w).mono fun _ _ h' => ⟨by rw [h'.1, decide_eq_true h.1, decide_eq_true h.2]; rfl, h'.2⟩
end Go.Proofs.YtaakacahblndcaaGreat

namespace Go.Proofs.YtaakacahblndcaaGreat
open Go.RowKit Go.Sort

theorem valueAny_any (n : Int) (w : World) : Calls Tryz.prog 76 #[.int .i64 n] w fun e w' => e = .returned (.bool (inB n 1099511627776)) ∧ w = w' := by
  go_enter Tryz.func76, Tryz.ntmps76
  go_wp2_with (go_at_call 75; refine (listsIn_any _ _ _ _).mono ?_; rintro e w' ⟨rfl, rfl⟩)
  go_ret
  exact ⟨rfl, rfl⟩

set_option maxHeartbeats 4000000 in
set_option maxRecDepth 100000 in
theorem meantP_any (s : St) (lo po : Option Addr) (ln lc pn pc : Nat) (w : World) :
    Calls Tryz.prog 77 #[.agg #[.int .i64 s.author, .int .i64 s.number, .string s.prev, .int .i64 s.time, .int .i64 s.kind, .int .i64 s.a, .int .i64 s.b, .int .i64 s.c, .slice lo ln lc, .slice po pn pc, .string s.body, .int .i64 s.key, .string s.dig]] w fun e w' => e = .returned (.bool (kindB s)) ∧ Ex w.heap.size none w w' := by
  by_cases k1 : s.kind = 1
  · have k1d : (s.kind == 1) = true := by simp [k1]
    cases h1 : (decide (0 ≤ s.a) && decide (s.a ≤ 63))
    case false =>
      have HK : Hid (kindB s = false) := by show _ = _; (try simp only [Bool.and_eq_false_iff, decide_eq_false_iff_not] at *); simp [kindB, keyB, k1] <;> omega
      clear k1
      go_enter Tryz.func77, Tryz.ntmps77
      go_wp2_with (first | (go_at_call 75; refine (listsIn_any _ _ _ _).mono ?_; (first | rw [h1] | skip); rintro e w' ⟨rfl, rfl⟩) | fail)
      go_ret
      exact ⟨by rw [HK.out]; rfl, Ex.new _ _⟩
    by_cases h2 : s.a = s.author
    case pos =>
      have h2d : (s.a != s.author) = false := by simp [h2]
      have HK : Hid (kindB s = false) := by show _ = _; (try simp only [Bool.and_eq_true, decide_eq_true_eq] at *); simp [kindB, keyB, k1, h2] <;> omega
      clear k1 h2
      go_enter Tryz.func77, Tryz.ntmps77
      go_wp2_with (first | (go_at_call 75; refine (listsIn_any _ _ _ _).mono ?_; (first | rw [h1] | skip); rintro e w' ⟨rfl, rfl⟩) | fail)
      go_ret
      exact ⟨by rw [HK.out]; rfl, Ex.new _ _⟩
    have h2d : (s.a != s.author) = true := by simp [h2]
    cases h3 : (decide (1 ≤ s.b) && decide (s.b ≤ 3))
    case false =>
      have HK : Hid (kindB s = false) := by show _ = _; (try simp only [Bool.and_eq_false_iff, Bool.and_eq_true, decide_eq_false_iff_not, decide_eq_true_eq] at *); simp [kindB, keyB, k1, h2] <;> omega
      clear k1 h2
      go_enter Tryz.func77, Tryz.ntmps77
      go_wp2_with (first | (go_at_call 75; refine (listsIn_any _ _ _ _).mono ?_; (first | rw [h1] | rw [h3] | skip); rintro e w' ⟨rfl, rfl⟩) | fail)
      go_ret
      exact ⟨by rw [HK.out]; rfl, Ex.new _ _⟩
    cases h4 : (decide (s.time ≤ s.c) && decide (s.c ≤ 2147483648))
    case false =>
      have HK : Hid (kindB s = false) := by show _ = _; (try simp only [Bool.and_eq_false_iff, Bool.and_eq_true, decide_eq_false_iff_not, decide_eq_true_eq] at *); simp [kindB, keyB, k1, h2] <;> omega
      clear k1 h2
      go_enter Tryz.func77, Tryz.ntmps77
      go_wp2_with (first | (go_at_call 75; refine (listsIn_any _ _ _ _).mono ?_; (first | rw [h1] | rw [h3] | rw [h4] | skip); rintro e w' ⟨rfl, rfl⟩) | fail)
      go_ret
      exact ⟨by rw [HK.out]; rfl, Ex.new _ _⟩
    case true =>
      have HK : Hid (kindB s = true) := by show _ = _; (try simp only [Bool.and_eq_true, decide_eq_true_eq] at *); simp [kindB, keyB, k1, h2] <;> omega
      clear k1 h2
      go_enter Tryz.func77, Tryz.ntmps77
      go_wp2_with (first | (go_at_call 75; refine (listsIn_any _ _ _ _).mono ?_; (first | rw [h1] | rw [h3] | rw [h4] | skip); rintro e w' ⟨rfl, rfl⟩) | fail)
      go_ret
      exact ⟨by rw [HK.out]; rfl, Ex.new _ _⟩
  have k1d : (s.kind == 1) = false := by simpa using k1
  by_cases k2 : s.kind = 2
  · have k2d : (s.kind == 2) = true := by simp [k2]
    cases h1 : (decide (0 ≤ s.a) && decide (s.a ≤ 199))
    case false =>
      have HK : Hid (kindB s = false) := by show _ = _; (try simp only [Bool.and_eq_false_iff, decide_eq_false_iff_not] at *); simp [kindB, inB, k2] <;> omega
      clear k2
      go_enter Tryz.func77, Tryz.ntmps77
      go_wp2_with (first | (go_at_call 75; refine (listsIn_any _ _ _ _).mono ?_; (first | rw [h1] | skip); rintro e w' ⟨rfl, rfl⟩) | fail)
      go_ret
      exact ⟨by rw [HK.out]; rfl, Ex.new _ _⟩
    by_cases h2 : s.b = 0
    case neg =>
      have h2d : (s.b == 0) = false := by simpa using h2
      have HK : Hid (kindB s = false) := by show _ = _; (try simp only [Bool.and_eq_true, decide_eq_true_eq] at *); simp [kindB, inB, k2, h2] <;> omega
      clear k2 h2
      go_enter Tryz.func77, Tryz.ntmps77
      go_wp2_with (first | (go_at_call 75; refine (listsIn_any _ _ _ _).mono ?_; (first | rw [h1] | skip); rintro e w' ⟨rfl, rfl⟩) | fail)
      go_ret
      exact ⟨by rw [HK.out]; rfl, Ex.new _ _⟩
    have h2d : (s.b == 0) = true := by simp [h2]
    by_cases h3 : s.c = 0
    case neg =>
      have h3d : (s.c == 0) = false := by simpa using h3
      have HK : Hid (kindB s = false) := by show _ = _; (try simp only [Bool.and_eq_true, decide_eq_true_eq] at *); simp [kindB, inB, k2, h2, h3] <;> omega
      clear k2 h2 h3
      go_enter Tryz.func77, Tryz.ntmps77
      go_wp2_with (first | (go_at_call 75; refine (listsIn_any _ _ _ _).mono ?_; (first | rw [h1] | skip); rintro e w' ⟨rfl, rfl⟩) | fail)
      go_ret
      exact ⟨by rw [HK.out]; rfl, Ex.new _ _⟩
    have h3d : (s.c == 0) = true := by simp [h3]
    have HK : Hid (kindB s = true) := by show _ = _; (try simp only [Bool.and_eq_true, decide_eq_true_eq] at *); simp [kindB, inB, k2, h2, h3] <;> omega
    clear k2 h2 h3
    go_enter Tryz.func77, Tryz.ntmps77
    go_wp2_with (first | (go_at_call 75; refine (listsIn_any _ _ _ _).mono ?_; (first | rw [h1] | skip); rintro e w' ⟨rfl, rfl⟩) | fail)
    go_ret
    exact ⟨by rw [HK.out]; rfl, Ex.new _ _⟩
  have k2d : (s.kind == 2) = false := by simpa using k2
  by_cases k3 : s.kind = 3
  · have k3d : (s.kind == 3) = true := by simp [k3]
    by_cases h1 : s.a = 0
    case neg =>
      have h1d : (s.a == 0) = false := by simpa using h1
      have HK : Hid (kindB s = false) := by show _ = _; (try simp only [Bool.and_eq_false_iff, Bool.and_eq_true, decide_eq_false_iff_not, decide_eq_true_eq] at *); simp [kindB, k3, h1] <;> omega
      clear k3 h1
      go_enter Tryz.func77, Tryz.ntmps77
      go_wp2_with (first | (go_at_call 75; refine (listsIn_any _ _ _ _).mono ?_; (first  | skip); rintro e w' ⟨rfl, rfl⟩) | fail)
      go_ret
      exact ⟨by rw [HK.out]; rfl, Ex.new _ _⟩
    have h1d : (s.a == 0) = true := by simp [h1]
    by_cases h2 : s.b = 0
    case neg =>
      have h2d : (s.b == 0) = false := by simpa using h2
      have HK : Hid (kindB s = false) := by show _ = _; (try simp only [Bool.and_eq_false_iff, Bool.and_eq_true, decide_eq_false_iff_not, decide_eq_true_eq] at *); simp [kindB, k3, h1, h2] <;> omega
      clear k3 h1 h2
      go_enter Tryz.func77, Tryz.ntmps77
      go_wp2_with (first | (go_at_call 75; refine (listsIn_any _ _ _ _).mono ?_; (first  | skip); rintro e w' ⟨rfl, rfl⟩) | fail)
      go_ret
      exact ⟨by rw [HK.out]; rfl, Ex.new _ _⟩
    have h2d : (s.b == 0) = true := by simp [h2]
    by_cases h3 : s.c = 0
    case neg =>
      have h3d : (s.c == 0) = false := by simpa using h3
      have HK : Hid (kindB s = false) := by show _ = _; (try simp only [Bool.and_eq_false_iff, Bool.and_eq_true, decide_eq_false_iff_not, decide_eq_true_eq] at *); simp [kindB, k3, h1, h2, h3] <;> omega
      clear k3 h1 h2 h3
      go_enter Tryz.func77, Tryz.ntmps77
      go_wp2_with (first | (go_at_call 75; refine (listsIn_any _ _ _ _).mono ?_; (first  | skip); rintro e w' ⟨rfl, rfl⟩) | fail)
      go_ret
      exact ⟨by rw [HK.out]; rfl, Ex.new _ _⟩
    have h3d : (s.c == 0) = true := by simp [h3]
    have HK : Hid (kindB s = true) := by show _ = _; (try simp only [Bool.and_eq_false_iff, Bool.and_eq_true, decide_eq_false_iff_not, decide_eq_true_eq] at *); simp [kindB, k3, h1, h2, h3] <;> omega
    clear k3 h1 h2 h3
    go_enter Tryz.func77, Tryz.ntmps77
    go_wp2_with (first | (go_at_call 75; refine (listsIn_any _ _ _ _).mono ?_; (first  | skip); rintro e w' ⟨rfl, rfl⟩) | fail)
    go_ret
    exact ⟨by rw [HK.out]; rfl, Ex.new _ _⟩
  have k3d : (s.kind == 3) = false := by simpa using k3
  have HK : Hid (kindB s = true) := by show _ = _; (try simp only [Bool.and_eq_false_iff, Bool.and_eq_true, decide_eq_false_iff_not, decide_eq_true_eq] at *); simp [kindB, k1, k2, k3] <;> omega
  clear k1 k2 k3
  go_enter Tryz.func77, Tryz.ntmps77
  go_wp2_with (first | (go_at_call 75; refine (listsIn_any _ _ _ _).mono ?_; (first  | skip); rintro e w' ⟨rfl, rfl⟩) | fail)
  go_ret
  exact ⟨by rw [HK.out]; rfl, Ex.new _ _⟩

/-- All numbers of a list can be said. -/
def saidB (xs : List Int) : Bool := xs.all (fun x => inB x 1099511627776)
set_option maxHeartbeats 1000000 in
theorem unsaid_any (n : Int) (w : World) : Calls Tryz.prog 79 #[.int .i64 n] w fun e w' => e = .returned (.bool (!inB n 1099511627776)) ∧ w = w' := by
  go_enter Tryz.func79, Tryz.ntmps79
  cases h : inB n 1099511627776 with
  | true =>
    go_wp2_with (first | (go_at_call 76; refine (asB (valueAny_any _ _) h).mono ?_; rintro e w' ⟨rfl, rfl⟩) | fail)
    go_ret
    exact ⟨rfl, rfl⟩
  | false =>
    go_wp2_with (first | (go_at_call 76; refine (asB (valueAny_any _ _) h).mono ?_; rintro e w' ⟨rfl, rfl⟩) | fail)
    go_ret
    exact ⟨rfl, rfl⟩
set_option maxHeartbeats 1000000 in
theorem indexUnsaid_any (v : Value) (xs : List Int) (w : World) (hv : Ints w v xs) (hm : xs.length ≤ 9223372036854775807) :
    Calls Tryz.prog 119 #[v, .func (.func 79) #[] #[]] w fun e w' => ∃ i : Int, e = .returned (.int .i64 i) ∧ Hid (0 ≤ i ↔ saidB xs = false) ∧ w = w' := by
  obtain ⟨ao, cap, rfl, hx⟩ := hv
  go_enter Tryz.func119, Tryz.ntmps119
  go_wp2
  go_loop [5, 8] (fun _ i => ∃ k : Nat, k ≤ xs.length ∧ i = .int .i64 k ∧ Hid (saidB (xs.take k) = true)) (fun _ i => xs.length - (intOf i).toNat)
  case atStart => exact ⟨0, Nat.zero_le _, rfl, Lib.hid rfl⟩
  case round =>
    obtain ⟨k, hk, rfl, HN⟩ := hrel
    by_cases hlt : k < xs.length
    · have hltI : (k : Int) < (xs.length : Int) := by omega
      obtain ⟨b, off, y, rfl, hck, HY⟩ := hx.get k hlt
      have HG : Hid (xs[k]? = some y) := by
        have := HY.out
        simp only [List.getD_eq_getElem?_getD, List.getElem?_eq_getElem hlt, Option.getD_some] at this
        show _ = _
        rw [List.getElem?_eq_getElem hlt, this]
      cases h : inB y 1099511627776 with
      | false =>
        have HR : Hid (saidB xs = false) := by
          show xs.all _ = _
          rw [List.all_eq_false]
          exact ⟨y, List.mem_of_getElem? HG.out, by simp [h]⟩
        go_wp2_with (first | (refine (unsaid_any y _).mono ?_; rw [h]; rintro e w' ⟨rfl, rfl⟩) | fail)
        go_ret
        exact ⟨_, rfl, (by rw [HR.out]; simp : _ ↔ _), rfl⟩
      | true =>
        have HR : Hid (saidB (xs.take (k + 1)) = true) := by
          show _ = _
          have hn := HN.out
          unfold saidB at hn ⊢
          rw [List.take_add_one, HG.out, List.all_append, hn]
          simp [h]
        go_wp2_with (first | (refine (unsaid_any y _).mono ?_; rw [h]; rintro e w' ⟨rfl, rfl⟩) | fail)
        go_round
        case rel => exact ⟨k + 1, by omega, by go_num, HR⟩
        case measure => simp [intOf] <;> omega
    · have hltI : ¬ (k : Int) < (xs.length : Int) := by omega
      have HR : Hid (saidB xs = true) := by
        have h := HN.out
        rwa [List.take_of_length_le (by omega)] at h
      go_wp2
      go_ret
      exact ⟨_, rfl, (by rw [HR.out]; simp : _ ↔ _), rfl⟩
set_option maxHeartbeats 1000000 in
theorem containsUnsaid_any (v : Value) (xs : List Int) (w : World) (hv : Ints w v xs) (hm : xs.length ≤ 9223372036854775807) :
    Calls Tryz.prog 78 #[v, .func (.func 79) #[] #[]] w fun e w' => e = .returned (.bool (!saidB xs)) ∧ w = w' := by
  obtain ⟨ao, cap, rfl, hx⟩ := hv
  go_enter Tryz.func78, Tryz.ntmps78
  go_wp2_with (go_at_call 119; refine (indexUnsaid_any _ xs _ ⟨_, _, rfl, hx⟩ hm).mono ?_; rintro e w' ⟨i, rfl, hi, rfl⟩)
  go_ret
  refine ⟨ret_bool ?_, rfl⟩
  have h := hi.out
  show decide (0 ≤ i) = _
  rw [Bool.eq_iff_iff, decide_eq_true_eq, h]
  simp
end Go.Proofs.YtaakacahblndcaaGreat

namespace Go.Proofs.YtaakacahblndcaaGreat
open Go.RowKit Go.Sort

set_option maxHeartbeats 8000000 in
set_option maxRecDepth 100000 in
theorem pinned_any {P : Nat → Prop} (v : Value) (l : List PinD) (w : World) (hv : Sl pinRep P w v l) (hm : l.length ≤ 9223372036854775807) :
    Calls Tryz.prog 80 #[v] w fun e w' => e = .returned (.bool (pinsB l)) ∧ Ex w.heap.size none w w' := by
  obtain ⟨ao, cap, rfl, hx⟩ := hv
  have HX := Lib.hid hx
  clear hx
  go_enter Tryz.func80, Tryz.ntmps80
  go_wp2
  go_loopw [3, 4, 7] (fun _ _ i wr => ∃ k : Nat, k ≤ l.length ∧ i = .int .i64 k ∧ Hid (pinsTo l k = true) ∧ Ex w.heap.size none w wr) (fun _ _ i _ => l.length - (intOf i).toNat)
  case atStart => exact ⟨0, Nat.zero_le _, rfl, rfl, Ex.refl _ _ _⟩
  case round =>
    obtain ⟨k, hk, rfl, HT, hex⟩ := hrel
    have hsz := hex.size
    by_cases hlt : k < l.length
    · obtain ⟨b, off, p, rfl, _, hb, c0, c1, c2, HP⟩ := pin_get (HX.out.keep (by decide) (fun b _ hb => hex.block b hb (by simp))) k hlt
      have HW := Lib.hid hex
      clear hex
      by_cases a1 : 0 ≤ p.1 ∧ p.1 ≤ 63
      case neg =>
        have h1 : (decide (0 ≤ p.1) && decide (p.1 ≤ 63)) = false := by simp; omega
        have hkb : keyB p.1 = false := by simp [keyB]; omega
        have HK : Hid (pinsB l = false) := pinsTo_no hlt (by unfold pinAt; rw [HP.out]; simp [hkb])
        go_wp2_with fail
        go_quiet ((go_at_call 75; refine (listsIn_any _ _ _ _).mono ?_; (first | rw [h1] | rw [h3] | skip); exact fun _ _ h => ⟨h.1, _, h.2.symm⟩))
        go_wp2
        go_ret
        exact ⟨by rw [HK.out]; rfl, by (repeat (first | exact HW.out | refine Ex.drewN ?_ | refine Ex.drew ?_ | refine Ex.setCell ?_ _ none _ (.inr hsz) | refine Ex.alloc ?_ hsz _))⟩
      case pos =>
        have h1 : (decide (0 ≤ p.1) && decide (p.1 ≤ 63)) = true := by simp [a1]
        have hkb : keyB p.1 = true := by simp [keyB]; omega
        by_cases h0 : k = 0
        · have h0d : decide (0 < k) = false := by simp [h0]
          have HZ := Lib.hid h0
          clear h0
          by_cases a3 : 1 ≤ p.2.1 ∧ p.2.1 ≤ 200
          · have h3 : (decide (1 ≤ p.2.1) && decide (p.2.1 ≤ 200)) = true := by simp [a3]
            by_cases h5 : p.2.2.size = 32
            · have h5d : (((p.2.2.size : Nat) : Int) != 32) = false := by simp [h5]
              have HK : Hid (pinAt l k = true) := (show _ = _ by unfold pinAt; rw [HP.out]; simp [hkb, HZ.out, a3, h5])
              go_wp2_with fail
              go_quiet ((go_at_call 75; refine (listsIn_any _ _ _ _).mono ?_; (first | rw [h1] | rw [h3] | skip); exact fun _ _ h => ⟨h.1, _, h.2.symm⟩))
              go_wp2
              go_roundw
              case rel => exact ⟨k + 1, by omega, by go_num, (show _ = _ by rw [pinsTo_succ, HT.out, HK.out]; rfl), by (repeat (first | exact HW.out | refine Ex.drewN ?_ | refine Ex.drew ?_ | refine Ex.setCell ?_ _ none _ (.inr hsz) | refine Ex.alloc ?_ hsz _))⟩
              case measure => simp [intOf] <;> omega
            · have h5d : (((p.2.2.size : Nat) : Int) != 32) = true := by simp; omega
              have HK : Hid (pinsB l = false) := pinsTo_no hlt (by unfold pinAt; rw [HP.out]; simp [hkb, HZ.out, a3, h5])
              go_wp2_with fail
              go_quiet ((go_at_call 75; refine (listsIn_any _ _ _ _).mono ?_; (first | rw [h1] | rw [h3] | skip); exact fun _ _ h => ⟨h.1, _, h.2.symm⟩))
              go_wp2
              go_ret
              exact ⟨by rw [HK.out]; rfl, by (repeat (first | exact HW.out | refine Ex.drewN ?_ | refine Ex.drew ?_ | refine Ex.setCell ?_ _ none _ (.inr hsz) | refine Ex.alloc ?_ hsz _))⟩
          · have h3 : (decide (1 ≤ p.2.1) && decide (p.2.1 ≤ 200)) = false := by simp; omega
            have HK : Hid (pinsB l = false) := pinsTo_no hlt (by unfold pinAt; rw [HP.out]; have hx : ¬ 1 ≤ p.2.1 ∨ ¬ p.2.1 ≤ 200 := (by omega); rcases hx with hx | hx <;> simp [hkb, HZ.out, hx])
            go_wp2_with fail
            go_quiet ((go_at_call 75; refine (listsIn_any _ _ _ _).mono ?_; (first | rw [h1] | rw [h3] | skip); exact fun _ _ h => ⟨h.1, _, h.2.symm⟩))
            go_wp2
            go_ret
            exact ⟨by rw [HK.out]; rfl, by (repeat (first | exact HW.out | refine Ex.drewN ?_ | refine Ex.drew ?_ | refine Ex.setCell ?_ _ none _ (.inr hsz) | refine Ex.alloc ?_ hsz _))⟩
        · have h0d : 0 < k := by omega
          obtain ⟨i, hi⟩ : ∃ i, i = k - 1 := ⟨_, rfl⟩
          have hw1 : IntKind.i64.wrap ((k : Int) - 1) = i := by rw [show (k : Int) - 1 = i by omega]; exact IntWalk.i64_in _ (by omega)
          have hik : (i : Int) < (l.length : Int) := by omega
          obtain ⟨b', off', q, e', _, hb', c0', _, _, HQ⟩ := pin_get (HX.out.keep (by decide) (fun b _ hb => HW.out.block b hb (by simp))) i (by omega)
          cases e'
          have HI : Hid (l[k - 1]? = some q) := by rw [← hi]; exact HQ
          clear hi
          by_cases h2 : q.1 < p.1
          · have h2d : decide (p.1 ≤ q.1) = false := decide_eq_false (by omega)
            by_cases a3 : 1 ≤ p.2.1 ∧ p.2.1 ≤ 200
            · have h3 : (decide (1 ≤ p.2.1) && decide (p.2.1 ≤ 200)) = true := by simp [a3]
              by_cases h5 : p.2.2.size = 32
              · have h5d : (((p.2.2.size : Nat) : Int) != 32) = false := by simp [h5]
                have HK : Hid (pinAt l k = true) := (show _ = _ by unfold pinAt; rw [HP.out]; simp [hkb, h0, HI.out, h2, a3, h5])
                go_wp2_with fail
                go_quiet ((go_at_call 75; refine (listsIn_any _ _ _ _).mono ?_; (first | rw [h1] | rw [h3] | skip); exact fun _ _ h => ⟨h.1, _, h.2.symm⟩))
                go_wp2
                go_roundw
                case rel => exact ⟨k + 1, by omega, by go_num, (show _ = _ by rw [pinsTo_succ, HT.out, HK.out]; rfl), by (repeat (first | exact HW.out | refine Ex.drewN ?_ | refine Ex.drew ?_ | refine Ex.setCell ?_ _ none _ (.inr hsz) | refine Ex.alloc ?_ hsz _))⟩
                case measure => simp [intOf] <;> omega
              · have h5d : (((p.2.2.size : Nat) : Int) != 32) = true := by simp; omega
                have HK : Hid (pinsB l = false) := pinsTo_no hlt (by unfold pinAt; rw [HP.out]; simp [hkb, h0, HI.out, h2, a3, h5])
                go_wp2_with fail
                go_quiet ((go_at_call 75; refine (listsIn_any _ _ _ _).mono ?_; (first | rw [h1] | rw [h3] | skip); exact fun _ _ h => ⟨h.1, _, h.2.symm⟩))
                go_wp2
                go_ret
                exact ⟨by rw [HK.out]; rfl, by (repeat (first | exact HW.out | refine Ex.drewN ?_ | refine Ex.drew ?_ | refine Ex.setCell ?_ _ none _ (.inr hsz) | refine Ex.alloc ?_ hsz _))⟩
            · have h3 : (decide (1 ≤ p.2.1) && decide (p.2.1 ≤ 200)) = false := by simp; omega
              have HK : Hid (pinsB l = false) := pinsTo_no hlt (by unfold pinAt; rw [HP.out]; have hx : ¬ 1 ≤ p.2.1 ∨ ¬ p.2.1 ≤ 200 := (by omega); rcases hx with hx | hx <;> simp [hkb, h0, HI.out, h2, hx])
              go_wp2_with fail
              go_quiet ((go_at_call 75; refine (listsIn_any _ _ _ _).mono ?_; (first | rw [h1] | rw [h3] | skip); exact fun _ _ h => ⟨h.1, _, h.2.symm⟩))
              go_wp2
              go_ret
              exact ⟨by rw [HK.out]; rfl, by (repeat (first | exact HW.out | refine Ex.drewN ?_ | refine Ex.drew ?_ | refine Ex.setCell ?_ _ none _ (.inr hsz) | refine Ex.alloc ?_ hsz _))⟩
          · have h2d : decide (p.1 ≤ q.1) = true := decide_eq_true (by omega)
            have HK : Hid (pinsB l = false) := pinsTo_no hlt (by unfold pinAt; rw [HP.out]; simp [hkb, h0, HI.out, h2])
            go_wp2_with fail
            go_quiet ((go_at_call 75; refine (listsIn_any _ _ _ _).mono ?_; (first | rw [h1] | rw [h3] | skip); exact fun _ _ h => ⟨h.1, _, h.2.symm⟩))
            go_wp2
            go_ret
            exact ⟨by rw [HK.out]; rfl, by (repeat (first | exact HW.out | refine Ex.drewN ?_ | refine Ex.drew ?_ | refine Ex.setCell ?_ _ none _ (.inr hsz) | refine Ex.alloc ?_ hsz _))⟩
    · obtain rfl : k = l.length := by omega
      go_wp2
      go_ret
      exact ⟨by rw [show pinsB l = true from HT.out]; rfl, hex⟩
end Go.Proofs.YtaakacahblndcaaGreat

namespace Go.Proofs.YtaakacahblndcaaGreat
open Go.RowKit Go.Sort

/-- The cells of a link: a statement and its digest. -/
def linkE (x : St × Sv × Sv) : List Value := [.int .i64 x.1.author, .int .i64 x.1.number, .string x.1.prev, .int .i64 x.1.time, .int .i64 x.1.kind, .int .i64 x.1.a, .int .i64 x.1.b, .int .i64 x.1.c, x.2.1.v, x.2.2.v, .string x.1.body, .int .i64 x.1.key, .string x.1.dig, .string x.1.dig]
theorem linkE_len (x : St × Sv × Sv) : (linkE x).length = 14 := rfl
theorem one_linkE : ∀ x, ∀ v ∈ linkE x, v.oneCell' = true := fun x v hv => by
  simp only [linkE, Sv.v, List.mem_cons, List.not_mem_nil, or_false] at hv
  rcases hv with rfl | rfl | rfl | rfl | rfl | rfl | rfl | rfl | rfl | rfl | rfl | rfl | rfl | rfl <;> rfl
/-- By number and digest. -/
def cmpND (x y : St × Sv × Sv) : Int := (([cmpI x.1.number y.1.number, cmpS x.1.dig y.1.dig]).find? (· != 0)).getD 0
/-- By number and digest: less. -/
def ltNDs (s t : St) : Bool := decide (s.number < t.number) || (decide (s.number = t.number) && lssS s.dig t.dig)
theorem cmpS_zero {x y : ByteArray} : cmpS x y = 0 ↔ x = y := by
  unfold cmpS
  rw [toListB]
  constructor
  · intro h
    split at h
    · cases h
    · split at h
      · rename_i h2; exact of_decide_eq_true h2
      · cases h
  · rintro rfl
    have : lssS x x = false := by unfold lssS; rw [bytesLess_eq]; exact swo_ltStr.irrefl _
    simp [this]
theorem ltND_of (x y : St × Sv × Sv) : ltOf cmpND x y = ltNDs x.1 y.1 := by
  unfold ltOf cmpND ltNDs
  by_cases h1 : x.1.number = y.1.number
  · have e1 : cmpI x.1.number y.1.number = 0 := cmpI_zero.2 h1
    rw [e1, List.find?_cons_of_neg (by simp)]
    by_cases h2 : cmpS x.1.dig y.1.dig = 0
    · rw [h2, List.find?_cons_of_neg (by simp)]
      have := cmpS_lt x.1.dig y.1.dig
      rw [h2] at this
      simp [h1, ← this]
    · rw [List.find?_cons_of_pos (by simpa using h2)]
      have := cmpS_lt x.1.dig y.1.dig
      simp [h1, ← this]
  · have e1 : ¬ cmpI x.1.number y.1.number = 0 := fun h => h1 (cmpI_zero.1 h)
    rw [List.find?_cons_of_pos (by simpa using e1)]
    simp [h1, cmpI_lt]
theorem swo_ltNDs_irrefl (s : St) : ltNDs s s = false := by
  have : lssS s.dig s.dig = false := by unfold lssS; rw [bytesLess_eq]; exact swo_ltStr.irrefl _
  simp [ltNDs, this]
theorem swo_cmpND : SWO (ltOf cmpND) := by
  have L : ∀ a b : ByteArray, lssS a b = ltStr a.toList b.toList := fun a b => by unfold lssS; rw [bytesLess_eq]; rfl
  refine ⟨fun x => ?_, fun x y z h1 h2 => ?_, fun x y z h1 h2 => ?_⟩
  · rw [ltND_of]; exact swo_ltNDs_irrefl _
  · rw [ltND_of] at *
    simp only [ltNDs, Bool.or_eq_true, Bool.and_eq_true, decide_eq_true_eq] at *
    rcases h1 with h1 | ⟨h1, k1⟩ <;> rcases h2 with h2 | ⟨h2, k2⟩
    · exact .inl (by omega)
    · exact .inl (by omega)
    · exact .inl (by omega)
    · refine .inr ⟨by omega, ?_⟩
      rw [L] at *
      exact swo_ltStr.trans _ _ _ k1 k2
  · rw [ltND_of] at *
    simp only [ltNDs, Bool.or_eq_false_iff, Bool.and_eq_false_iff, decide_eq_false_iff_not] at *
    refine ⟨by omega, ?_⟩
    by_cases e : x.1.number = z.1.number
    · right
      have e1 : x.1.number = y.1.number := by omega
      have e2 : y.1.number = z.1.number := by omega
      have k1 := h1.2.resolve_left (fun h => h e1)
      have k2 := h2.2.resolve_left (fun h => h e2)
      rw [L] at *
      exact swo_ltStr.ntrans _ _ _ k1 k2
    · exact .inl e
/-- One digest. -/
def sameDig (x y : St × Sv × Sv) : Bool := x.1.dig.toList == y.1.dig.toList
set_option maxHeartbeats 4000000 in
set_option maxRecDepth 100000 in
theorem linkCmp_any (x y : St × Sv × Sv) (w : World) : Calls Tryz.prog 179 #[.agg (linkE x).toArray, .agg (linkE y).toArray] w fun e w' => e = .returned (.int .i64 (cmpND x y)) ∧ ∃ q os', w' = grow (w.drewN q) os' := by
  obtain ⟨s, ⟨lo, ln, lc⟩, ⟨po, pn, pc⟩⟩ := x
  obtain ⟨t, ⟨lo', ln', lc'⟩, ⟨po', pn', pc'⟩⟩ := y
  simp only [linkE, Sv.v, cmpND]
  go_enter Tryz.func179, Tryz.ntmps179
  go_wp2_with fail
  go_region_held3 (fun w' => w'.cell? ⟨w.heap.size, 1, none⟩ = some (.int .i64 s.number) ∧ w'.cell? ⟨w.heap.size + 1, 1, none⟩ = some (.int .i64 t.number) ∧ w'.cell? ⟨w.heap.size, 13, none⟩ = some (.string s.dig) ∧ w'.cell? ⟨w.heap.size + 1, 13, none⟩ = some (.string t.dig)) (go_keep)
    (first
      | (go_at_call 92; refine (compare_any _ _ _).mono ?_; rintro e w' ⟨rfl, rfl⟩)
      | (go_at_call 171; refine (compareS_any _ _ _).mono ?_; rintro e w' ⟨rfl, rfl⟩)
      | (go_at_call 91; refine (cmpOr_any _ [cmpI s.number t.number, cmpS s.dig t.dig] _ (Ints.keep (Ints.lit [cmpI s.number t.number, cmpS s.dig t.dig] (by simp) rfl) (Ex.refl _ none _).drew (Nat.le_refl _)) (by simp)).mono ?_; rintro e w' ⟨rfl, rfl⟩))
  go_wp2
  go_ret
  refine ⟨rfl, ?_⟩
  exact ⟨1, #[_, _, _], by rw [alloc_eq_grow, alloc_eq_grow, alloc_eq_grow, grow_grow, grow_grow]; rfl⟩
set_option maxHeartbeats 1000000 in
theorem linkSame_any (x y : St × Sv × Sv) (w : World) : Calls Tryz.prog 181 #[.agg (linkE x).toArray, .agg (linkE y).toArray] w fun e w' => e = .returned (.bool (sameDig x y)) ∧ ∃ q os', w' = grow (w.drewN q) os' := by
  obtain ⟨s, ⟨lo, ln, lc⟩, ⟨po, pn, pc⟩⟩ := x
  obtain ⟨t, ⟨lo', ln', lc'⟩, ⟨po', pn', pc'⟩⟩ := y
  simp only [linkE, Sv.v, sameDig]
  go_enter Tryz.func181, Tryz.ntmps181
  go_wp2
  go_ret
  exact ⟨by simp, 0, #[_, _], by rw [alloc_eq_grow, alloc_eq_grow, grow_grow]; rfl⟩
end Go.Proofs.YtaakacahblndcaaGreat

namespace Go.Proofs.YtaakacahblndcaaGreat
open Go.RowKit Go.Sort

/-- By author, number and digest. -/
def cmpAND (x y : St × Sv × Sv) : Int := (([cmpI x.1.author y.1.author, cmpI x.1.number y.1.number, cmpS x.1.dig y.1.dig]).find? (· != 0)).getD 0
/-- The same, of the statements alone. -/
def cmpA (s t : St) : Int := (([cmpI s.author t.author, cmpI s.number t.number, cmpS s.dig t.dig]).find? (· != 0)).getD 0
/-- By author, number and digest: less. -/
def ltA (s t : St) : Bool := decide (s.author < t.author) || (decide (s.author = t.author) && ltNDs s t)
theorem cmpA_or (s t : St) : cmpA s t = if s.author = t.author then cmpND (s, ⟨none, 0, 0⟩, ⟨none, 0, 0⟩) (t, ⟨none, 0, 0⟩, ⟨none, 0, 0⟩) else cmpI s.author t.author := by
  unfold cmpA cmpND
  by_cases h1 : s.author = t.author
  · rw [cmpI_zero.2 h1, List.find?_cons_of_neg (by simp), if_pos h1]
  · rw [List.find?_cons_of_pos (by simpa using fun h => h1 (cmpI_zero.1 h)), if_neg h1]; rfl
theorem ltA_of (s t : St) : decide (cmpA s t < 0) = ltA s t := by
  rw [cmpA_or]
  unfold ltA
  by_cases h1 : s.author = t.author
  · rw [if_pos h1]
    have := ltND_of (s, ⟨none, 0, 0⟩, ⟨none, 0, 0⟩) (t, ⟨none, 0, 0⟩, ⟨none, 0, 0⟩)
    unfold ltOf at this
    rw [this]; simp [h1]
  · rw [if_neg h1]; simp [h1, cmpI_lt]
theorem cmpND_zero' (x y : St × Sv × Sv) : cmpND x y = 0 ↔ x.1.number = y.1.number ∧ x.1.dig = y.1.dig := by
  unfold cmpND
  by_cases h1 : x.1.number = y.1.number
  · rw [cmpI_zero.2 h1, List.find?_cons_of_neg (by simp)]
    by_cases h2 : x.1.dig = y.1.dig
    · rw [cmpS_zero.2 h2, List.find?_cons_of_neg (by simp)]; simp [h1, h2]
    · have : ¬ cmpS x.1.dig y.1.dig = 0 := fun h => h2 (cmpS_zero.1 h)
      rw [List.find?_cons_of_pos (by simpa using this)]; simp [h2, this]
  · have : ¬ cmpI x.1.number y.1.number = 0 := fun h => h1 (cmpI_zero.1 h)
    rw [List.find?_cons_of_pos (by simpa using this)]; simp [h1, this]
theorem cmpA_zero {s t : St} : cmpA s t = 0 ↔ s.author = t.author ∧ s.number = t.number ∧ s.dig = t.dig := by
  rw [cmpA_or]
  split
  · next h => rw [cmpND_zero']; simp [h]
  · next h => rw [cmpI_zero]; simp [h]
theorem ltA_irrefl (s : St) : ltA s s = false := by simp [ltA, swo_ltNDs_irrefl]
theorem ltA_trans {a b c : St} (h1 : ltA a b = true) (h2 : ltA b c = true) : ltA a c = true := by
  simp only [ltA, Bool.or_eq_true, Bool.and_eq_true, decide_eq_true_eq] at *
  rcases h1 with h1 | ⟨h1, k1⟩ <;> rcases h2 with h2 | ⟨h2, k2⟩
  · exact .inl (by omega)
  · exact .inl (by omega)
  · exact .inl (by omega)
  · refine .inr ⟨by omega, ?_⟩
    have := swo_cmpND.trans (a, ⟨none, 0, 0⟩, ⟨none, 0, 0⟩) (b, ⟨none, 0, 0⟩, ⟨none, 0, 0⟩) (c, ⟨none, 0, 0⟩, ⟨none, 0, 0⟩)
    rw [ltND_of, ltND_of, ltND_of] at this
    exact this k1 k2
theorem ltA_tri {s t : St} (h1 : ltA s t = false) (h2 : ltA t s = false) : s.author = t.author ∧ s.number = t.number ∧ s.dig = t.dig := by
  have k1 := ltA_of s t
  have k2 := ltA_of t s
  rw [h1] at k1; rw [h2] at k2
  have k1 := of_decide_eq_false k1
  have k2 := of_decide_eq_false k2
  simp only [ltA, ltNDs, Bool.or_eq_false_iff, Bool.and_eq_false_iff, decide_eq_false_iff_not] at h1 h2
  have e1 : s.author = t.author := by omega
  have e2 : s.number = t.number := by
    have := h1.2.resolve_left (fun h => h e1)
    have := h2.2.resolve_left (fun h => h e1.symm)
    omega
  refine ⟨e1, e2, ?_⟩
  have a1 := ((h1.2.resolve_left (fun h => h e1)).2).resolve_left (fun h => h e2)
  have a2 := ((h2.2.resolve_left (fun h => h e1.symm)).2).resolve_left (fun h => h e2.symm)
  have L : ∀ a b : ByteArray, lssS a b = ltStr a.toList b.toList := fun a b => by unfold lssS; rw [bytesLess_eq]; rfl
  rw [L] at a1 a2
  unfold ltStr at a1 a2
  have e : s.dig.toList = t.dig.toList := List.le_antisymm (List.not_lt.1 (of_decide_eq_false a2)) (List.not_lt.1 (of_decide_eq_false a1))
  have := toListB s.dig t.dig
  rw [e] at this
  simpa using this
set_option maxHeartbeats 4000000 in
set_option maxRecDepth 100000 in
theorem shelfCmp_raw (x y : St × Sv × Sv) (w : World) : Calls Tryz.prog 120 #[.agg (stE x).toArray, .agg (stE y).toArray] w fun e w' => e = .returned (.int .i64 (cmpAND x y)) ∧ ∃ q os', w' = grow (w.drewN q) os' := by
  obtain ⟨s, ⟨lo, ln, lc⟩, ⟨po, pn, pc⟩⟩ := x
  obtain ⟨t, ⟨lo', ln', lc'⟩, ⟨po', pn', pc'⟩⟩ := y
  simp only [stE, Sv.v, cmpAND]
  go_enter Tryz.func120, Tryz.ntmps120
  go_wp2_with fail
  go_region_held3 (fun w' => w'.cell? ⟨w.heap.size, 0, none⟩ = some (.int .i64 s.author) ∧ w'.cell? ⟨w.heap.size + 1, 0, none⟩ = some (.int .i64 t.author) ∧ w'.cell? ⟨w.heap.size, 1, none⟩ = some (.int .i64 s.number) ∧ w'.cell? ⟨w.heap.size + 1, 1, none⟩ = some (.int .i64 t.number) ∧ w'.cell? ⟨w.heap.size, 12, none⟩ = some (.string s.dig) ∧ w'.cell? ⟨w.heap.size + 1, 12, none⟩ = some (.string t.dig)) (go_keep)
    (first
      | (go_at_call 92; refine (compare_any _ _ _).mono ?_; rintro e w' ⟨rfl, rfl⟩)
      | (go_at_call 171; refine (compareS_any _ _ _).mono ?_; rintro e w' ⟨rfl, rfl⟩)
      | (go_at_call 91; refine (cmpOr_any _ [cmpI s.author t.author, cmpI s.number t.number, cmpS s.dig t.dig] _ (Ints.keep (Ints.lit [cmpI s.author t.author, cmpI s.number t.number, cmpS s.dig t.dig] (by simp) rfl) (Ex.refl _ none _).drew (Nat.le_refl _)) (by simp)).mono ?_; rintro e w' ⟨rfl, rfl⟩))
  go_wp2
  go_ret
  refine ⟨rfl, ?_⟩
  exact ⟨1, #[_, _, _], by rw [alloc_eq_grow, alloc_eq_grow, alloc_eq_grow, grow_grow, grow_grow]; rfl⟩
end Go.Proofs.YtaakacahblndcaaGreat

namespace Go.Proofs.YtaakacahblndcaaGreat
open Go.RowKit Go.Sort

set_option maxHeartbeats 8000000 in
set_option maxRecDepth 100000 in
theorem copied_any {P : Nat → Prop} (s : St) (lo po : Option Addr) (ln lc pn pc : Nat) (w : World) (hs : Lies P w (s, ⟨lo, ln, lc⟩, ⟨po, pn, pc⟩)) (hm : s.list.length ≤ 1000000 ∧ s.pins.length ≤ 1000000) :
    Calls Tryz.prog 140 #[.agg #[.int .i64 s.author, .int .i64 s.number, .string s.prev, .int .i64 s.time, .int .i64 s.kind, .int .i64 s.a, .int .i64 s.b, .int .i64 s.c, .slice lo ln lc, .slice po pn pc, .string s.body, .int .i64 s.key, .string s.dig]] w fun e w' => ∃ (la : Option Addr) (na ca : Nat) (pa : Option Addr) (np cp : Nat), e = .returned (.agg #[.int .i64 s.author, .int .i64 s.number, .string s.prev, .int .i64 s.time, .int .i64 s.kind, .int .i64 s.a, .int .i64 s.b, .int .i64 s.c, .slice la na ca, .slice pa np cp, .string s.body, .int .i64 s.key, .string s.dig]) ∧ Lies (fun b => w.heap.size ≤ b) w' (s, ⟨la, na, ca⟩, ⟨pa, np, cp⟩) ∧ Ex w.heap.size none w w' := by
  have HLS := Lib.hid hs
  have HM := Lib.hid hm
  clear hs hm
  obtain ⟨w0, hw0⟩ : ∃ w0 : World, w0 = (w.alloc (.cells #[.int .i64 s.author, .int .i64 s.number, .string s.prev, .int .i64 s.time, .int .i64 s.kind, .int .i64 s.a, .int .i64 s.b, .int .i64 s.c, .slice lo ln lc, .slice po pn pc, .string s.body, .int .i64 s.key, .string s.dig] 37)).alloc (.cells #[.int .i64 0, .int .i64 0, .string ⟨#[]⟩, .int .i64 0, .int .i64 0, .int .i64 0, .int .i64 0, .int .i64 0, .slice none 0 0, .slice none 0 0, .string ⟨#[]⟩, .int .i64 0, .string ⟨#[]⟩] 37) := ⟨_, rfl⟩
  have hz0 : w0.heap.size = w.heap.size + 2 := by rw [hw0]; simp
  have HE0 : Hid (Ex w.heap.size none w w0) := by rw [hw0]; exact ex_two0 _ _
  have HB0 : Hid (w0.heap[w.heap.size]? = some (.cells #[.int .i64 s.author, .int .i64 s.number, .string s.prev, .int .i64 s.time, .int .i64 s.kind, .int .i64 s.a, .int .i64 s.b, .int .i64 s.c, .slice lo ln lc, .slice po pn pc, .string s.body, .int .i64 s.key, .string s.dig] 37 (0, 0)) ∧ w0.heap[w.heap.size + 1]? = some (.cells #[.int .i64 0, .int .i64 0, .string ⟨#[]⟩, .int .i64 0, .int .i64 0, .int .i64 0, .int .i64 0, .int .i64 0, .slice none 0 0, .slice none 0 0, .string ⟨#[]⟩, .int .i64 0, .string ⟨#[]⟩] 37 (0, 0))) := Lib.hid (by
    rw [hw0]
    exact ⟨((Ex.new _ _).block w.heap.size (by simp) (by simp)).trans (heap_alloc_new w _), by have := heap_alloc_new (w.alloc (.cells #[.int .i64 s.author, .int .i64 s.number, .string s.prev, .int .i64 s.time, .int .i64 s.kind, .int .i64 s.a, .int .i64 s.b, .int .i64 s.c, .slice lo ln lc, .slice po pn pc, .string s.body, .int .i64 s.key, .string s.dig] 37)) (.cells #[.int .i64 0, .int .i64 0, .string ⟨#[]⟩, .int .i64 0, .int .i64 0, .int .i64 0, .int .i64 0, .int .i64 0, .slice none 0 0, .slice none 0 0, .string ⟨#[]⟩, .int .i64 0, .string ⟨#[]⟩] 37); simpa using this⟩)
  go_enter Tryz.func140, Tryz.ntmps140
  go_upto_region 1 with (fail)
  rw [← hw0]
  clear hw0
  obtain ⟨⟨d0, d1, d2, d3, d4, d5, d6, d7, d8, d9, d10, d11, d12⟩, fz⟩ := st_block HB0.out.1
  go_region_law (first
    | (go_simp
       go_at_call 36
       refine (cloneInts_any lo ln lc s.list _ (by first | exact HLS.out.1.keep (by decide) (fun b _ hb => (HE0.out.drew).block b hb (by simp)) | exact HLS.out.1.keep (by decide) (fun b _ hb => ((HEP.out).drew).block b hb (by simp)) | exact HLS.out.1.keep (by decide) (fun b _ hb => HEP.out.block b hb (by simp))) HM.out.1).mono ?_
       rintro e wi ⟨la, na, ca, rfl, hli, hexi⟩
       have HLI := Lib.hid hli
       have HXI := Lib.hid hexi
       have zi : w.heap.size + 2 ≤ wi.heap.size := Nat.le_trans (by first | exact (Nat.le_of_eq hz0.symm) | exact zp) hexi.size
       have HEI : Hid (Ex w.heap.size none w wi) := (by first | exact (HE0.out.drew).trans hexi (by simp; omega) (by simp) | exact ((HEP.out).drew).trans hexi (by simp; omega) (by simp) | exact HEP.out.trans hexi (by omega) (by simp))
       have HBI : Hid (wi.heap[w.heap.size]? = w0.heap[w.heap.size]? ∧ wi.heap[w.heap.size + 1]? = w0.heap[w.heap.size + 1]?) := (by first | exact ⟨hexi.block w.heap.size (by simp; omega) (by simp), hexi.block (w.heap.size + 1) (by simp; omega) (by simp)⟩ | exact ⟨(hexi.block w.heap.size (by omega) (by simp)).trans HBP.out.1, (hexi.block (w.heap.size + 1) (by omega) (by simp)).trans HBP.out.2⟩)
       have bi := st_block (HBI.out.1.trans HB0.out.1)
       obtain ⟨⟨d0', d1', d2', d3', d4', d5', d6', d7', d8', d9', d10', d11', d12'⟩, fz'⟩ := bi
       clear hli hexi)
    | (go_simp
       go_at_call 37
       refine (clonePins_any po pn pc s.pins _ (by first | exact HLS.out.2.keep (by decide) (fun b _ hb => (HE0.out.drew).block b hb (by simp)) | exact HLS.out.2.keep (by decide) (fun b _ hb => ((HEI.out).drew).block b hb (by simp)) | exact HLS.out.2.keep (by decide) (fun b _ hb => HEI.out.block b hb (by simp))) HM.out.2).mono ?_
       rintro e wp ⟨pa, np, cp, rfl, hlp, hexp⟩
       have HLP := Lib.hid hlp
       have HXP := Lib.hid hexp
       have zp : w.heap.size + 2 ≤ wp.heap.size := Nat.le_trans (by first | exact (Nat.le_of_eq hz0.symm) | exact zi) hexp.size
       have HEP : Hid (Ex w.heap.size none w wp) := (by first | exact (HE0.out.drew).trans hexp (by simp; omega) (by simp) | exact ((HEI.out).drew).trans hexp (by simp; omega) (by simp) | exact HEI.out.trans hexp (by omega) (by simp))
       have HBP : Hid (wp.heap[w.heap.size]? = w0.heap[w.heap.size]? ∧ wp.heap[w.heap.size + 1]? = w0.heap[w.heap.size + 1]?) := (by first | exact ⟨hexp.block w.heap.size (by simp; omega) (by simp), hexp.block (w.heap.size + 1) (by simp; omega) (by simp)⟩ | exact ⟨(hexp.block w.heap.size (by omega) (by simp)).trans HBI.out.1, (hexp.block (w.heap.size + 1) (by omega) (by simp)).trans HBI.out.2⟩)
       have bp := st_block (HBP.out.1.trans HB0.out.1)
       obtain ⟨⟨d0', d1', d2', d3', d4', d5', d6', d7', d8', d9', d10', d11', d12'⟩, fz'⟩ := bp
       clear hlp hexp))
  all_goals
    have hLi : Sl intRep (fun b => w.heap.size + 2 ≤ b) wi (.slice la na ca) s.list := HLI.out.mono (by decide) (fun b hb _ => Nat.le_trans (by simp; omega) hb)
    have hLp : Sl pinRep (fun b => w.heap.size + 2 ≤ b) wp (.slice pa np cp) s.pins := HLP.out.mono (by decide) (fun b hb _ => Nat.le_trans zi hb)
    have hLi2 := hLi.keep (w' := (wp.setCell ⟨w.heap.size, 8, none⟩ (.slice la na ca)).setCell ⟨w.heap.size, 9, none⟩ (.slice pa np cp)) (by decide) (fun b hb hlt => set_far (by omega) (set_far (by omega) (HXP.out.block b hlt (by simp))))
    have hLp2 := hLp.keep (w' := (wp.setCell ⟨w.heap.size, 8, none⟩ (.slice la na ca)).setCell ⟨w.heap.size, 9, none⟩ (.slice pa np cp)) (by decide) (fun b hb hlt => set_far (by omega) (set_far (by omega) rfl))
    have hEW := (HEP.out.setCell 8 none (.slice la na ca) (.inr (Nat.le_refl _))).setCell 9 none (.slice pa np cp) (.inr (Nat.le_refl _))
    have hBW := fin_block la pa na ca np cp (HBP.out.1.trans HB0.out.1)
    have hBZ : ((wp.setCell ⟨w.heap.size, 8, none⟩ (.slice la na ca)).setCell ⟨w.heap.size, 9, none⟩ (.slice pa np cp)).heap[w.heap.size + 1]? = some (.cells #[.int .i64 0, .int .i64 0, .string ⟨#[]⟩, .int .i64 0, .int .i64 0, .int .i64 0, .int .i64 0, .int .i64 0, .slice none 0 0, .slice none 0 0, .string ⟨#[]⟩, .int .i64 0, .string ⟨#[]⟩] 37 (0, 0)) := by
      iterate 2 refine set_far (by omega) ?_
      exact HBP.out.2.trans HB0.out.2
    obtain ⟨W, hW⟩ : ∃ W, W = (wp.setCell ⟨w.heap.size, 8, none⟩ (.slice la na ca)).setCell ⟨w.heap.size, 9, none⟩ (.slice pa np cp) := ⟨_, rfl⟩
    rw [← hW] at hLi2 hLp2 hEW hBW hBZ ⊢
    clear hW hLi hLp HLI HLP HEP HXP HBP HBI HEI HXI d0' d1' d2' d3' d4' d5' d6' d7' d8' d9' d10' d11' d12' fz' d0 d1 d2 d3 d4 d5 d6 d7 d8 d9 d10 d11 d12 fz
    have HL4 : Hid (Lies (fun b => w.heap.size + 2 ≤ b) W (s, ⟨la, na, ca⟩, ⟨pa, np, cp⟩)) := Lib.hid ⟨hLi2, hLp2⟩
    have HE4 := Lib.hid hEW
    have HB4 : Hid (W.heap[w.heap.size + 1]? = some (.cells #[.int .i64 0, .int .i64 0, .string ⟨#[]⟩, .int .i64 0, .int .i64 0, .int .i64 0, .int .i64 0, .int .i64 0, .slice none 0 0, .slice none 0 0, .string ⟨#[]⟩, .int .i64 0, .string ⟨#[]⟩] 37 (0, 0))) := Lib.hid hBZ
    obtain ⟨⟨d0, d1, d2, d3, d4, d5, d6, d7, d8, d9, d10, d11, d12⟩, fz⟩ := st_block hBW
    clear hLi2 hLp2 hEW hBW hBZ
    go_wp2_with (first
      | (refine wpList_store_rowTo rfl 37 (.tmp 2) (.tmp 11) rfl rfl (w.heap.size + 1) #[.int .i64 s.author, .int .i64 s.number, .string s.prev, .int .i64 s.time, .int .i64 s.kind, .int .i64 s.a, .int .i64 s.b, .int .i64 s.c, .slice la na ca, .slice pa np cp, .string s.body, .int .i64 s.key, .string s.dig] (by rfl) (by rfl) 37 #[.int .i64 0, .int .i64 0, .string ⟨#[]⟩, .int .i64 0, .int .i64 0, .int .i64 0, .int .i64 0, .int .i64 0, .slice none 0 0, .slice none 0 0, .string ⟨#[]⟩, .int .i64 0, .string ⟨#[]⟩] HB4.out Tryz.sizeSt rfl (by simp [Value.oneCell']) ?_))
    obtain ⟨w5, hw5⟩ : ∃ w5 : World, w5 = W.setRow (w.heap.size + 1) #[.int .i64 s.author, .int .i64 s.number, .string s.prev, .int .i64 s.time, .int .i64 s.kind, .int .i64 s.a, .int .i64 s.b, .int .i64 s.c, .slice la na ca, .slice pa np cp, .string s.body, .int .i64 s.key, .string s.dig] := ⟨_, rfl⟩
    have HE5 : Hid (Ex w.heap.size none w w5) := Lib.hid (by
      rw [hw5]
      exact HE4.out.setRow _ _ (.inr (by omega)))
    have HL5 : Hid (Lies (fun b => w.heap.size + 2 ≤ b) w5 (s, ⟨la, na, ca⟩, ⟨pa, np, cp⟩)) := Lib.hid (by
      rw [hw5]
      exact HL4.out.keep fun b h1 _ => setRow_other _ _ _ _ (by omega))
    have hb5 : w5.heap[w.heap.size + 1]? = some (.cells #[.int .i64 s.author, .int .i64 s.number, .string s.prev, .int .i64 s.time, .int .i64 s.kind, .int .i64 s.a, .int .i64 s.b, .int .i64 s.c, .slice la na ca, .slice pa np cp, .string s.body, .int .i64 s.key, .string s.dig] 37 (0, 0)) := by rw [hw5]; exact setRow_heap _ _ _ _ _ _ HB4.out
    rw [← hw5]
    clear hw5 HB4 HL4 d0 d1 d2 d3 d4 d5 d6 d7 d8 d9 d10 d11 d12 fz
    obtain ⟨⟨d0, d1, d2, d3, d4, d5, d6, d7, d8, d9, d10, d11, d12⟩, fz⟩ := st_block hb5
    refine bodyPost_ret (v := .agg #[.int .i64 s.author, .int .i64 s.number, .string s.prev, .int .i64 s.time, .int .i64 s.kind, .int .i64 s.a, .int .i64 s.b, .int .i64 s.c, .slice la na ca, .slice pa np cp, .string s.body, .int .i64 s.key, .string s.dig]) (by simp [results, Tryz.results140, go_sem, d0, d1, d2, d3, d4, d5, d6, d7, d8, d9, d10, d11, d12]) rfl ?_
    exact ⟨la, na, ca, pa, np, cp, rfl, HL5.out.mono fun b h _ => by omega, HE5.out⟩
end Go.Proofs.YtaakacahblndcaaGreat

namespace Go.Proofs.YtaakacahblndcaaGreat
open Go.RowKit Go.Sort

/-- The elements of a slice of statements that came in, as append takes them. -/
theorem st_src {P : Nat → Prop} {w : World} {ao : Option Addr} {ms : List St} (h : SlAt stRep P w ao ms) : ∃ xs : List (St × Sv × Sv), xs.map (·.1) = ms ∧ (∀ x ∈ xs, Lies P w x) ∧ (xs.length = 0 ∨ ∃ ad, ao = some ad ∧ ∀ (j : Nat) (v : Value), (flatL stE xs)[j]? = some v → w.cell? (ad.add j) = some v) := by
  rcases Nat.eq_zero_or_pos ms.length with h0 | h0
  · have : ms = [] := List.eq_nil_of_length_eq_zero h0
    subst this
    exact ⟨[], rfl, (fun x hx => by cases hx), .inl rfl⟩
  · obtain ⟨b, off, _, e, _⟩ := h 0 h0
    subst e
    have key : ∀ n, n ≤ ms.length → ∃ xs : List (St × Sv × Sv), xs.map (·.1) = ms.take n ∧ (flatL stE xs).length = n * 13 ∧ (∀ (j : Nat) (v : Value), (flatL stE xs)[j]? = some v → w.cell? ⟨b, off + j, none⟩ = some v) ∧ ∀ x ∈ xs, Lies P w x := by
      intro n
      induction n with
      | zero => intro _; exact ⟨[], rfl, rfl, fun j v hj => by simp [flatL] at hj, fun x hx => by cases hx⟩
      | succ n ih =>
        intro hn
        obtain ⟨xs, h1, hl, h2, h3⟩ := ih (by omega)
        obtain ⟨b', off', cs, e, _, hr, hR⟩ := h n (by omega)
        cases e
        obtain ⟨l, p, hc, hl1, hl2⟩ := hR
        refine ⟨xs ++ [(ms[n], l, p)], ?_, ?_, ?_, ?_⟩
        · rw [List.map_append, h1, List.take_add_one, List.getElem?_eq_getElem (by omega)]; rfl
        · rw [show flatL stE (xs ++ [(ms[n], l, p)]) = flatL stE xs ++ stE (ms[n], l, p) from by simp [flatL], List.length_append, hl, stE_len]; omega
        · intro j v hj
          rw [show flatL stE (xs ++ [(ms[n], l, p)]) = flatL stE xs ++ stE (ms[n], l, p) from by simp [flatL]] at hj
          by_cases hjn : j < n * 13
          · rw [List.getElem?_append_left (by omega)] at hj
            exact h2 j v hj
          · rw [List.getElem?_append_right (by omega), hl] at hj
            have := hr (j - n * 13) v (by rw [hc]; exact hj)
            rw [show off + j = off + n * stRep.k + (j - n * 13) from by show off + j = off + n * 13 + (j - n * 13); omega]
            exact this
        · intro x hx
          rcases List.mem_append.1 hx with hx | hx
          · exact h3 x hx
          · rw [List.mem_singleton.1 hx]; exact ⟨hl1, hl2⟩
    obtain ⟨xs, h1, _, h2, h3⟩ := key ms.length (Nat.le_refl _)
    rw [List.take_length] at h1
    exact ⟨xs, h1, h3, .inr ⟨_, rfl, fun j v hj => by rw [Addr.add_lit]; exact h2 j v hj⟩⟩
set_option maxHeartbeats 4000000 in
set_option maxRecDepth 100000 in
/-- slices.Clone at statements: the row is new, the lists are shared. -/
theorem cloneSt_any {P : Nat → Prop} (v : Value) (l : List St) (w : World) (hv : Sl stRep P w v l) (hm : l.length ≤ 100000) :
    Calls Tryz.prog 123 #[v] w fun e w' => ∃ ro n rc, e = .returned (.slice ro n rc) ∧ ∃ xs : List (St × Sv × Sv), xs.map (·.1) = l ∧ xs.length = n ∧ (∀ x ∈ xs, Lies P w x) ∧ OwnE stE 13 37 w' w.heap.size ro rc xs ∧ Ex w.heap.size none w w' := by
  obtain ⟨ao, cap, rfl, hx⟩ := hv
  obtain ⟨xs, hxs, hlies, hsrc⟩ : ∃ xs : List (St × Sv × Sv), xs.map (·.1) = l ∧ (∀ x ∈ xs, Lies P w x) ∧ (xs.length = 0 ∨ ∃ ad, ao = some ad ∧ ∀ (j : Nat) (v : Value), (flatL stE xs)[j]? = some v → w.cell? (ad.add j) = some v) := st_src hx
  have hl : xs.length = l.length := by rw [← hxs, List.length_map]
  have q : ∀ (w : World) (a : Option Addr) (n c n' c' : Nat), (binOp .eql 27 (.slice a n c) (.slice none n' c')).run Tryz.prog w = .ok (.bool a.isNone) w := fun w a n c n' c' => Lib.run_eql_slice_nil w _ _ a n c n' c' Tryz.underlying27
  obtain ⟨n, hn⟩ : ∃ n, n = l.length := ⟨_, rfl⟩
  rw [← hn] at hl hm ⊢
  have HS := Lib.hid hsrc
  have HXL := Lib.hid hl
  have HXS := Lib.hid (And.intro hxs hlies)
  clear hsrc hl hn hx hxs hlies
  cases ao with
  | none =>
    have h0 : xs = [] := by
      rcases HS.out with h | ⟨ad, e, _⟩
      · exact List.eq_nil_of_length_eq_zero h
      · cases e
    have e0 : (none : Option Addr).isNone = true := rfl
    go_enter Tryz.func123, Tryz.ntmps123
    go_wp2
    go_ret
    subst h0
    exact ⟨none, 0, 0, rfl, [], HXS.out.1, rfl, by simp, OwnE.nil _ _ _ _ _, Ex.refl _ _ _⟩
  | some ad =>
    have e0 : (some ad).isNone = false := rfl
    go_enter Tryz.func123, Tryz.ntmps123
    go_wp2_with (at_builtin; refine wpList_appE2 rfl (.tmp 5) (.tmp 6) _ 37 (by rfl) Tryz.underlying27 _ 13 160 Tryz.infoSt rfl (by decide) (by decide) stE stE_len one_stE w.heap.size (some ⟨w.heap.size, 0, none⟩) 0 0 [] rfl (by rfl) (some ad) n cap (by rfl) xs HXL.out (World.ownsRow_lit w #[] 0 (Nat.le_refl _) (by decide) rfl) (HS.out.imp id fun ⟨ad, e, h⟩ => ⟨ad, e, fun j v hv => (World.cell?_of_block (w := w) ((Ex.new w _).block _ (World.block_lt_of_cell? w _ (h j v hv)) (by simp))).trans (h j v hv)⟩) (by omega) (by simp) n (by omega) ?_; intro ro rc w1 hown hex _ _)
    go_ret
    exact ⟨ro, n, rc, rfl, xs, HXS.out.1, HXL.out, HXS.out.2, by simpa using hown, (Ex.new w _).trans hex (Nat.le_refl _) (by simp)⟩
end Go.Proofs.YtaakacahblndcaaGreat

namespace Go.Proofs.YtaakacahblndcaaGreat
open Go.RowKit Go.Sort

theorem map_set_same {ys : List (St × Sv × Sv)} {k : Nat} {s : St} {L K L' K' : Sv} (h : ys[k]? = some (s, L, K)) : (ys.set k (s, L', K')).map (·.1) = ys.map (·.1) := by
  obtain ⟨hk, he⟩ := List.getElem?_eq_some_iff.1 h
  apply List.ext_getElem?
  intro j
  rw [List.getElem?_map, List.getElem?_map, List.getElem?_set]
  split
  · rename_i e
    subst e
    rw [h]; rfl
  · rfl
theorem own_set2 {w : World} {base g cap : Nat} {ys : List (St × Sv × Sv)} (h : OwnE stE 13 37 w base (some ⟨g, 0, none⟩) cap ys) (i : Nat) (s : St) (L K L' K' : Sv) (hi : ys[i]? = some (s, L, K)) :
    OwnE stE 13 37 ((w.setCell ⟨g, i * 13 + 8, none⟩ L'.v).setCell ⟨g, i * 13 + 9, none⟩ K'.v) base (some ⟨g, 0, none⟩) cap (ys.set i (s, L', K')) := by
  obtain ⟨hil, hie⟩ := List.getElem?_eq_some_iff.1 hi
  obtain ⟨h1, h2⟩ := h
  rcases h2 with ⟨hv, _⟩ | ⟨g', cap', cur, hv, hb, hh, hn, hcm, hcs, htk⟩
  · cases hv
  · simp only [Value.slice.injEq, Option.some.injEq, Addr.mk.injEq] at hv
    obtain ⟨⟨rfl, _, _⟩, _, rfl⟩ := hv
    refine ⟨by rw [flatL_len stE_len], .inr ⟨g, cap, (cur.setIfInBounds (i * 13 + 8) L'.v).setIfInBounds (i * 13 + 9) K'.v, rfl, hb, heap_setCell_same _ _ _ _ _ _ (heap_setCell_same _ _ _ _ _ _ hh), by rw [List.length_set]; exact hn, hcm, by simp [hcs], ?_⟩⟩
    apply List.ext_getElem?
    intro j
    rw [List.getElem?_take, List.length_set]
    by_cases hj : j < ys.length * 13
    · rw [if_pos hj]
      have hm : j / 13 * 13 + j % 13 = j := Nat.div_add_mod' j 13
      have hq : j / 13 < ys.length := by omega
      have hc : j % 13 < 13 := Nat.mod_lt _ (by decide)
      have e1 := flatL_get stE_len (ys.set i (s, L', K')) (j / 13) (j % 13) (by simpa using hq) hc
      have e0 := flatL_get stE_len ys (j / 13) (j % 13) hq hc
      rw [hm] at e0 e1
      rw [e1]
      have ec : cur[j]? = (stE ys[j / 13])[j % 13]? := by
        rw [← e0, ← htk, List.getElem?_take, if_pos hj, Array.getElem?_toList]
      have hjs : j < cur.size := by
        have : (stE ys[j / 13])[j % 13]? ≠ none := by simp [stE_len]; omega
        rw [← ec] at this
        exact Classical.byContradiction fun c => this (Array.getElem?_eq_none (by omega))
      rw [Array.getElem?_toList, Array.getElem?_setIfInBounds, Array.getElem?_setIfInBounds]
      by_cases hqi : j / 13 = i
      · have ey : ys[j / 13] = (s, L, K) := by rw [← hie]; congr 1
        have ez : (ys.set i (s, L', K'))[j / 13]'(by simpa using hq) = (s, L', K') := by simp [hqi]
        rw [ez, ec, ey]
        by_cases h9 : j % 13 = 9
        · rw [if_pos (by omega), if_pos (by simp; omega), h9]; rfl
        · rw [if_neg (by omega)]
          by_cases h8 : j % 13 = 8
          · rw [if_pos (by omega), if_pos (by omega), h8]; rfl
          · rw [if_neg (by omega)]
            rcases (by omega : j % 13 = 0 ∨ j % 13 = 1 ∨ j % 13 = 2 ∨ j % 13 = 3 ∨ j % 13 = 4 ∨ j % 13 = 5 ∨ j % 13 = 6 ∨ j % 13 = 7 ∨ j % 13 = 10 ∨ j % 13 = 11 ∨ j % 13 = 12) with h | h | h | h | h | h | h | h | h | h | h <;> (rw [h]; rfl)
      · have ez : (ys.set i (s, L', K'))[j / 13]'(by simpa using hq) = ys[j / 13] := by rw [List.getElem_set_ne (Ne.symm hqi)]
        rw [ez, if_neg (by omega), if_neg (by omega), ec]
    · rw [if_neg hj]
      symm
      apply List.getElem?_eq_none
      rw [flatL_len stE_len, List.length_set]; omega
end Go.Proofs.YtaakacahblndcaaGreat

namespace Go.Proofs.YtaakacahblndcaaGreat
open Go.RowKit Go.Sort

/-- The first k have lists of their own, the others those of before. -/
def HalfS (P : Nat → Prop) (w0 w : World) (base g k : Nat) (xs ys : List (St × Sv × Sv)) : Prop :=
  (∀ j x, j < k → ys[j]? = some x → Lies (fun b => base ≤ b ∧ b ≠ g) w x) ∧ (∀ j, k ≤ j → ys[j]? = xs[j]?) ∧ (∀ x ∈ xs, Lies P w0 x)

set_option maxHeartbeats 8000000 in
set_option maxRecDepth 100000 in
theorem shelfCopy_any {P : Nat → Prop} (v : Value) (l : List St) (w : World) (hv : Sl stRep P w v l) (hm : l.length ≤ 100000) (hL : LightL 1000000 l) :
    Calls Tryz.prog 83 #[v] w fun e w' => ∃ ro n rc, e = .returned (.slice ro n rc) ∧ n = l.length ∧ OwnS w' w.heap.size ro rc l ∧ Ex w.heap.size none w w' := by
  have HV := Lib.hid hv
  have HLL := Lib.hid hL
  clear hv hL
  go_enter Tryz.func83, Tryz.ntmps83
  go_wp2_with (first
    | (go_at_call 123
       refine (cloneSt_any v l w HV.out hm).mono ?_
       rintro e w1 ⟨ro, n, rc, rfl, xs, hxs, hn, hlies, hown, hex⟩
       have H1 : Hid (xs.map (·.1) = l ∧ xs.length = n ∧ (∀ x ∈ xs, Lies P w x) ∧ OwnE stE 13 37 w1 w.heap.size ro rc xs ∧ Ex w.heap.size none w w1) := Lib.hid ⟨hxs, hn, hlies, hown, hex⟩
       have hz1 : w.heap.size ≤ w1.heap.size := hex.size
       clear hxs hn hlies hown hex)
    | fail)
  have HNL : Hid (l.length = n) := Lib.hid (by rw [← H1.out.1, List.length_map]; exact H1.out.2.1)
  have hn5 : n ≤ 100000 := by rw [← HNL.out]; exact hm
  go_loopw [10] (fun i wr => ∃ (k : Nat) (ys : List (St × Sv × Sv)), i = .int .i64 k ∧ k ≤ n ∧ Hid (ys.map (·.1) = l ∧ ys.length = n ∧ (∀ g, ro = some ⟨g, 0, none⟩ → HalfS P w wr w.heap.size g k xs ys)) ∧ OwnE stE 13 37 wr w.heap.size ro rc ys ∧ Ex w.heap.size none w wr) (fun i _ => n - (intOf i).toNat)
  case atStart => exact ⟨0, xs, rfl, by omega, Lib.hid ⟨H1.out.1, H1.out.2.1, fun g _ => ⟨fun j x hj => by omega, fun j _ => rfl, H1.out.2.2.1⟩⟩, H1.out.2.2.2.1, H1.out.2.2.2.2⟩
  case round =>
    obtain ⟨k, ys, rfl, hk, HY, hown, hex⟩ := hrel
    have hsz := hex.size
    have HO := Lib.hid hown
    have HEX := Lib.hid hex
    clear hown hex
    by_cases hlt : k < n
    · have hltI : (k : Int) < (n : Int) := by omega
      rcases HO.out.cases with ⟨_, _, e3⟩ | ⟨g, rfl, hg1, hg2, hg3⟩
      · exact absurd hlt (by have := HY.out.2.1; rw [e3] at this; simp at this; omega)
      have hkl : k < ys.length := by rw [HY.out.2.1]; exact hlt
      obtain ⟨⟨s, ⟨lo, ln, lc⟩, ⟨po, pn, pc⟩⟩, hyk⟩ : ∃ x, ys[k]? = some x := ⟨_, List.getElem?_eq_getElem hkl⟩
      have HYK := Lib.hid hyk
      have HLP0 : Hid (Lies P w (s, ⟨lo, ln, lc⟩, ⟨po, pn, pc⟩)) := Lib.hid ((HY.out.2.2 g rfl).2.2 _ (List.mem_of_getElem? (by rw [← (HY.out.2.2 g rfl).2.1 k (Nat.le_refl _)]; exact hyk)))
      have HLS : Hid (Lies P wr (s, ⟨lo, ln, lc⟩, ⟨po, pn, pc⟩)) := Lib.hid (HLP0.out.keep fun b _ hb => HEX.out.block b hb (by simp))
      have HM : Hid (s.list.length ≤ 1000000 ∧ s.pins.length ≤ 1000000) := Lib.hid (HLL.out s (by rw [← HY.out.1]; exact List.mem_map.2 ⟨_, List.mem_of_getElem? hyk, rfl⟩))
      have HR : Hid (wr.rangeAt g (k * 13) (stE (s, ⟨lo, ln, lc⟩, ⟨po, pn, pc⟩)) ∧ ∀ o, wr.frozen? ⟨g, o, none⟩ = false) := Lib.hid (by
        have hh := holdsK_range stE_len (HO.out.holds stE_len) k (by simpa using hkl)
        rw [getElem!_pos ys.toArray k (by simpa using hkl), List.getElem_toArray] at hh
        have ek : ys[k] = (s, ⟨lo, ln, lc⟩, ⟨po, pn, pc⟩) := by rw [List.getElem?_eq_getElem hkl] at hyk; exact Option.some.inj hyk
        rw [ek, Nat.zero_add] at hh
        exact ⟨hh, fun o => by have := own_frozen HO.out o; rwa [Nat.zero_add] at this⟩)
      have HRW : Hid (∀ w', Ex wr.heap.size none wr w' → w'.cell? ⟨g, k * 13 + 8, none⟩ = some (.slice lo ln lc) ∧ w'.cell? ⟨g, k * 13 + 9, none⟩ = some (.slice po pn pc) ∧ w'.frozen? ⟨g, k * 13 + 8, none⟩ = false ∧ w'.frozen? ⟨g, k * 13 + 9, none⟩ = false) := Lib.hid (fun w' h => by
        have e := h.block g hg2 (by simp)
        have hc := st_at (rangeAt_keep HR.out.1 e)
        exact ⟨hc.2.2.2.2.2.2.2.2.1, hc.2.2.2.2.2.2.2.2.2.1, by have := HR.out.2 (k * 13 + 8); simpa [World.frozen?, e] using this, by have := HR.out.2 (k * 13 + 9); simpa [World.frozen?, e] using this⟩)
      have hc := st_at HR.out.1
      simp only [Sv.v] at hc
      obtain ⟨c0, c1, c2, c3, c4, c5, c6, c7, c8, c9, c10, c11, c12⟩ := hc
      clear hyk
      go_upto_region 5 with (fail)
      obtain ⟨ws, hws⟩ : ∃ ws : World, ws = wr.alloc (.cells #[.int .i64 s.author, .int .i64 s.number, .string s.prev, .int .i64 s.time, .int .i64 s.kind, .int .i64 s.a, .int .i64 s.b, .int .i64 s.c, .slice lo ln lc, .slice po pn pc, .string s.body, .int .i64 s.key, .string s.dig] 37) := ⟨_, rfl⟩
      have HEs : Hid (Ex wr.heap.size none wr ws) := Lib.hid (by rw [hws]; exact Ex.new wr _)
      have hzs : ws.heap.size = wr.heap.size + 1 := by rw [hws]; simp
      have HBs : Hid (ws.heap[wr.heap.size]? = some (.cells #[.int .i64 s.author, .int .i64 s.number, .string s.prev, .int .i64 s.time, .int .i64 s.kind, .int .i64 s.a, .int .i64 s.b, .int .i64 s.c, .slice lo ln lc, .slice po pn pc, .string s.body, .int .i64 s.key, .string s.dig] 37 (0, 0))) := Lib.hid (by rw [hws]; exact heap_alloc_new wr _)
      rw [← hws]
      clear hws c0 c1 c2 c3 c4 c5 c6 c7 c8 c9 c10 c11 c12
      obtain ⟨⟨d0, d1, d2, d3, d4, d5, d6, d7, d8, d9, d10, d11, d12⟩, fz⟩ := st_block HBs.out
      obtain ⟨q8, q9, f8, f9⟩ := HRW.out _ HEs.out
      go_region_law (first
          | (go_simp
             go_at_call 36
             refine (cloneInts_any lo ln lc s.list _ (by first | exact HLS.out.1.keep (by decide) (fun b _ hb => (HEs.out.drew).block b hb (by simp)) | exact HLS.out.1.keep (by decide) (fun b _ hb => ((HEP.out).drew).block b hb (by simp)) | exact HLS.out.1.keep (by decide) (fun b _ hb => HEP.out.block b hb (by simp))) HM.out.1).mono ?_
             rintro e wi ⟨la, na, ca, rfl, hli, hexi⟩
             have HLI := Lib.hid hli
             have HXI := Lib.hid hexi
             have zi : wr.heap.size + 1 ≤ wi.heap.size := Nat.le_trans (by first | exact (Nat.le_of_eq hzs.symm) | exact zp) hexi.size
             have HEI : Hid (Ex wr.heap.size none wr wi) := (by first | exact (HEs.out.drew).trans hexi (by simp; omega) (by simp) | exact ((HEP.out).drew).trans hexi (by simp; omega) (by simp) | exact HEP.out.trans hexi (by omega) (by simp))
             have HBI : Hid (wi.heap[wr.heap.size]? = ws.heap[wr.heap.size]?) := (by first | exact hexi.block wr.heap.size (by simp; omega) (by simp) | exact (hexi.block wr.heap.size (by omega) (by simp)).trans HBP.out)
             have bi := (st_block (HBI.out.trans HBs.out)).1
             obtain ⟨g0', g1', g2', g3', g4', g5', g6', g7', g8', g9', g10', g11', g12'⟩ := bi
             obtain ⟨q8, q9, f8, f9⟩ := HRW.out _ HEI.out
             clear hli hexi)
          | (go_simp
             go_at_call 37
             refine (clonePins_any po pn pc s.pins _ (by first | exact HLS.out.2.keep (by decide) (fun b _ hb => (HEs.out.drew).block b hb (by simp)) | exact HLS.out.2.keep (by decide) (fun b _ hb => ((HEI.out).drew).block b hb (by simp)) | exact HLS.out.2.keep (by decide) (fun b _ hb => HEI.out.block b hb (by simp))) HM.out.2).mono ?_
             rintro e wp ⟨pa, np, cp, rfl, hlp, hexp⟩
             have HLP := Lib.hid hlp
             have HXP := Lib.hid hexp
             have zp : wr.heap.size + 1 ≤ wp.heap.size := Nat.le_trans (by first | exact (Nat.le_of_eq hzs.symm) | exact zi) hexp.size
             have HEP : Hid (Ex wr.heap.size none wr wp) := (by first | exact (HEs.out.drew).trans hexp (by simp; omega) (by simp) | exact ((HEI.out).drew).trans hexp (by simp; omega) (by simp) | exact HEI.out.trans hexp (by omega) (by simp))
             have HBP : Hid (wp.heap[wr.heap.size]? = ws.heap[wr.heap.size]?) := (by first | exact hexp.block wr.heap.size (by simp; omega) (by simp) | exact (hexp.block wr.heap.size (by omega) (by simp)).trans HBI.out)
             have bp := (st_block (HBP.out.trans HBs.out)).1
             obtain ⟨g0', g1', g2', g3', g4', g5', g6', g7', g8', g9', g10', g11', g12'⟩ := bp
             obtain ⟨q8, q9, f8, f9⟩ := HRW.out _ HEP.out
             clear hlp hexp))
      all_goals
        have hLi : Sl intRep (fun b => wr.heap.size + 1 ≤ b) wi (.slice la na ca) s.list := HLI.out.mono (by decide) (fun b hb _ => Nat.le_trans (by simp; omega) hb)
        have hLp : Sl pinRep (fun b => wr.heap.size + 1 ≤ b) wp (.slice pa np cp) s.pins := HLP.out.mono (by decide) (fun b hb _ => Nat.le_trans zi hb)
        have hLi2 := hLi.keep (w' := ((wp.setCell ⟨g, k * 13 + 8, none⟩ (.slice la na ca)).setCell ⟨g, k * 13 + 9, none⟩ (.slice pa np cp))) (by decide) (fun b hb hlt => set_far (by omega) (set_far (by omega) (HXP.out.block b hlt (by simp))))
        have hLp2 := hLp.keep (w' := ((wp.setCell ⟨g, k * 13 + 8, none⟩ (.slice la na ca)).setCell ⟨g, k * 13 + 9, none⟩ (.slice pa np cp))) (by decide) (fun b hb hlt => set_far (by omega) (set_far (by omega) rfl))
        have hEW : Ex w.heap.size none w ((wp.setCell ⟨g, k * 13 + 8, none⟩ (.slice la na ca)).setCell ⟨g, k * 13 + 9, none⟩ (.slice pa np cp)) := ((HEX.out.trans HEP.out hsz (by simp)).setCell _ none _ (.inr hg1)).setCell _ none _ (.inr hg1)
        have hOW : OwnE stE 13 37 ((wp.setCell ⟨g, k * 13 + 8, none⟩ (.slice la na ca)).setCell ⟨g, k * 13 + 9, none⟩ (.slice pa np cp)) w.heap.size (some ⟨g, 0, none⟩) rc (ys.set k (s, (⟨la, na, ca⟩ : Sv), (⟨pa, np, cp⟩ : Sv))) := own_set2 (HO.out.keep HEP.out (Nat.le_refl _) (by simp)) k s ⟨lo, ln, lc⟩ ⟨po, pn, pc⟩ ⟨la, na, ca⟩ ⟨pa, np, cp⟩ HYK.out
        have hOld : ∀ b, b < wr.heap.size → b ≠ g → ((wp.setCell ⟨g, k * 13 + 8, none⟩ (.slice la na ca)).setCell ⟨g, k * 13 + 9, none⟩ (.slice pa np cp)).heap[b]? = wr.heap[b]? := fun b hb hne => set_far hne (set_far hne (HEP.out.block b hb (by simp)))
        obtain ⟨W, hW⟩ : ∃ W, W = ((wp.setCell ⟨g, k * 13 + 8, none⟩ (.slice la na ca)).setCell ⟨g, k * 13 + 9, none⟩ (.slice pa np cp)) := ⟨_, rfl⟩
        rw [← hW] at hLi2 hLp2 hEW hOW hOld ⊢
        have HLW : Hid (Lies (fun b => wr.heap.size + 1 ≤ b) W (s, (⟨la, na, ca⟩ : Sv), (⟨pa, np, cp⟩ : Sv))) := Lib.hid ⟨hLi2, hLp2⟩
        have HEW := Lib.hid hEW
        have HOW := Lib.hid hOW
        have HOLD := Lib.hid hOld
        clear hW hLi hLp hLi2 hLp2 hEW hOW hOld g0' g1' g2' g3' g4' g5' g6' g7' g8' g9' g10' g11' g12' d0 d1 d2 d3 d4 d5 d6 d7 d8 d9 d10 d11 d12 fz q8 q9 f8 f9
        go_wp2
        go_roundw
        case rel => exact ⟨k + 1, ys.set k (s, (⟨la, na, ca⟩ : Sv), (⟨pa, np, cp⟩ : Sv)), by go_num, by omega, Lib.hid ⟨by rw [map_set_same HYK.out]; exact HY.out.1, by rw [List.length_set]; exact HY.out.2.1, fun g' e => by
          cases e
          refine ⟨fun j x hj hx => ?_, fun j hj => ?_, H1.out.2.2.1⟩
          · by_cases c : j = k
            · subst c
              rw [List.getElem?_set_self hkl] at hx
              cases hx
              exact HLW.out.mono fun b hb _ => ⟨by omega, by omega⟩
            · rw [List.getElem?_set_ne (Ne.symm c)] at hx
              exact Lies.keep (w := wr) ((HY.out.2.2 g rfl).1 j x (by omega) hx) fun b hb hlt => HOLD.out b hlt hb.2
          · rw [List.getElem?_set_ne (by omega)]; exact (HY.out.2.2 g rfl).2.1 j (by omega)⟩, HOW.out, HEW.out⟩
        case measure => simp [intOf] <;> omega
    · obtain rfl : k = n := by omega
      go_wp2
      go_ret
      refine ⟨ro, k, rc, rfl, HNL.out.symm, ⟨ys, HY.out.1, HO.out, fun x hx => ?_⟩, HEX.out⟩
      obtain ⟨j, hj⟩ := List.mem_iff_getElem?.1 hx
      have hjl : j < k := by have := (List.getElem?_eq_some_iff.1 hj).1; rw [HY.out.2.1] at this; exact this
      rcases HO.out.cases with ⟨_, _, e3⟩ | ⟨g, rfl, _, _, _⟩
      · rw [e3] at hx; cases hx
      · exact ((HY.out.2.2 g rfl).1 j x hjl hj).mono fun b hb _ => ⟨hb.1, fun e => hb.2 (by simpa [rowOf] using e.symm)⟩
end Go.Proofs.YtaakacahblndcaaGreat

namespace Go.Proofs.YtaakacahblndcaaGreat
open Go.RowKit Go.Sort

/-- t follows s. -/
def followsB (s t : St) : Bool := decide (t.author = s.author) && decide (s.number < t.number) && decide (t.number = wrap64 (s.number + 1)) && decide (t.prev = sha (stB s)) && decide (s.time ≤ t.time)
theorem followsB_iff {s t : St} : followsB s t = true ↔ t.author = s.author ∧ s.number < t.number ∧ t.number = wrap64 (s.number + 1) ∧ t.prev = sha (stB s) ∧ s.time ≤ t.time := by
  simp only [followsB, Bool.and_eq_true, decide_eq_true_eq, and_assoc]
set_option maxHeartbeats 8000000 in
set_option maxRecDepth 100000 in
theorem follows04_any {P : Nat → Prop} (s t : St) (lo po lo' po' : Option Addr) (ln lc pn pc ln' lc' pn' pc' : Nat) (w : World) (hs : Lies P w (s, ⟨lo, ln, lc⟩, ⟨po, pn, pc⟩)) (ht : Tame s) :
    Calls Tryz.prog 15 #[.agg #[.int .i64 s.author, .int .i64 s.number, .string s.prev, .int .i64 s.time, .int .i64 s.kind, .int .i64 s.a, .int .i64 s.b, .int .i64 s.c, .slice lo ln lc, .slice po pn pc, .string s.body, .int .i64 s.key, .string s.dig], .agg #[.int .i64 t.author, .int .i64 t.number, .string t.prev, .int .i64 t.time, .int .i64 t.kind, .int .i64 t.a, .int .i64 t.b, .int .i64 t.c, .slice lo' ln' lc', .slice po' pn' pc', .string t.body, .int .i64 t.key, .string t.dig]] w fun e w' => e = .returned (.bool (followsB s t)) ∧ Ex w.heap.size none w w' := by
  have HT := Lib.hid ht
  have HLS := Lib.hid hs
  clear hs ht
  obtain ⟨w0, hw0⟩ : ∃ w0 : World, w0 = (w.alloc (.cells #[.int .i64 s.author, .int .i64 s.number, .string s.prev, .int .i64 s.time, .int .i64 s.kind, .int .i64 s.a, .int .i64 s.b, .int .i64 s.c, .slice lo ln lc, .slice po pn pc, .string s.body, .int .i64 s.key, .string s.dig] 37)).alloc (.cells #[.int .i64 t.author, .int .i64 t.number, .string t.prev, .int .i64 t.time, .int .i64 t.kind, .int .i64 t.a, .int .i64 t.b, .int .i64 t.c, .slice lo' ln' lc', .slice po' pn' pc', .string t.body, .int .i64 t.key, .string t.dig] 37) := ⟨_, rfl⟩
  have hz0 : w0.heap.size = w.heap.size + 2 := by rw [hw0]; simp
  have HE0 : Hid (Ex w.heap.size none w w0) := by rw [hw0]; exact ex_two0 _ _
  have HB0 : Hid (w0.heap[w.heap.size]? = some (.cells #[.int .i64 s.author, .int .i64 s.number, .string s.prev, .int .i64 s.time, .int .i64 s.kind, .int .i64 s.a, .int .i64 s.b, .int .i64 s.c, .slice lo ln lc, .slice po pn pc, .string s.body, .int .i64 s.key, .string s.dig] 37 (0, 0)) ∧ w0.heap[w.heap.size + 1]? = some (.cells #[.int .i64 t.author, .int .i64 t.number, .string t.prev, .int .i64 t.time, .int .i64 t.kind, .int .i64 t.a, .int .i64 t.b, .int .i64 t.c, .slice lo' ln' lc', .slice po' pn' pc', .string t.body, .int .i64 t.key, .string t.dig] 37 (0, 0))) := Lib.hid (by
    rw [hw0]
    exact ⟨((Ex.new _ _).block w.heap.size (by simp) (by simp)).trans (heap_alloc_new w _), by have := heap_alloc_new (w.alloc (.cells #[.int .i64 s.author, .int .i64 s.number, .string s.prev, .int .i64 s.time, .int .i64 s.kind, .int .i64 s.a, .int .i64 s.b, .int .i64 s.c, .slice lo ln lc, .slice po pn pc, .string s.body, .int .i64 s.key, .string s.dig] 37)) (.cells #[.int .i64 t.author, .int .i64 t.number, .string t.prev, .int .i64 t.time, .int .i64 t.kind, .int .i64 t.a, .int .i64 t.b, .int .i64 t.c, .slice lo' ln' lc', .slice po' pn' pc', .string t.body, .int .i64 t.key, .string t.dig] 37); simpa using this⟩)
  have hq := fun p0 : ExW w0 => (st_block ((p0.ex.block w.heap.size (by omega) (by simp)).trans HB0.out.1)).1
  have hq' := fun p0 : ExW w0 => (st_block ((p0.ex.block (w.heap.size + 1) (by omega) (by simp)).trans HB0.out.2)).1
  have HD : Hid (∀ p0 : ExW w0, Calls Tryz.prog 43 #[.agg #[.int .i64 s.author, .int .i64 s.number, .string s.prev, .int .i64 s.time, .int .i64 s.kind, .int .i64 s.a, .int .i64 s.b, .int .i64 s.c, .slice lo ln lc, .slice po pn pc, .string s.body, .int .i64 s.key, .string s.dig]] p0.w' fun e w' => e = .returned (.string (sha (stB s))) ∧ Ex p0.w'.heap.size none p0.w' w') := fun p0 => digest03_any s lo po ln lc pn pc _ (HLS.out.keep fun b _ hb => (HE0.out.trans p0.ex (by omega) (by simp)).block b hb (by simp)) HT.out
  have HQ := Lib.hid hq
  have HQ' := Lib.hid hq'
  clear hq hq'
  go_enter Tryz.func15, Tryz.ntmps15
  go_upto_region 1 with (fail)
  rw [← hw0]
  clear hw0
  have hq := HQ.out
  have hq' := HQ'.out
  by_cases c1 : t.author = s.author
  · have c1d : (t.author == s.author) = true := by simp [c1]
    have Kc1 : Hid (decide (t.author = s.author) = true) := Lib.hid (decide_eq_true c1)
    clear c1
    by_cases c2 : s.number < t.number
    · have c2d : decide (s.number < t.number) = true := decide_eq_true c2
      have Kc2 : Hid (decide (s.number < t.number) = true) := Lib.hid (decide_eq_true c2)
      clear c2
      by_cases c3 : t.number = wrap64 (s.number + 1)
      · have c3d : (t.number == wrap64 (s.number + 1)) = true := by rw [c3]; simp
        have Kc3 : Hid (decide (t.number = wrap64 (s.number + 1)) = true) := Lib.hid (decide_eq_true c3)
        clear c3
        by_cases c4 : t.prev = sha (stB s)
        · have c4d : (t.prev.toList == (sha (stB s)).toList) = true := (bytes_beq c4).2
          have Kc4 : Hid (decide (t.prev = sha (stB s)) = true) := Lib.hid (decide_eq_true c4)
          clear c4
          have HR : Hid (followsB s t = decide (s.time ≤ t.time)) := Lib.hid (by simp only [followsB, Kc1.out, Kc2.out, Kc3.out, Kc4.out, Bool.true_and, Bool.and_true])
          refine wp_region_quiet_ex (by kernel_rfl) (by kernel_rfl) ?_
          repeat (go_big_quiet_step ((go_at_call 43; refine calls_ex_of (HD.out _))))
          refine wpQuiet_nil ?_
          intro _ hw'
          obtain ⟨p9, hw''⟩ := hw'
          subst hw''
          clear hq hq'
          go_wp2
          go_ret
          exact ⟨by rw [HR.out]; rfl, HE0.out.trans p9.ex (by omega) (by simp)⟩
        · have c4d : (t.prev.toList == (sha (stB s)).toList) = false := (bytes_nbeq c4).2
          have Kc4 : Hid (decide (t.prev = sha (stB s)) = false) := Lib.hid (decide_eq_false c4)
          clear c4
          have HR : Hid (followsB s t = false) := Lib.hid (by simp only [followsB, Kc1.out, Kc2.out, Kc3.out, Kc4.out, Bool.and_true, Bool.false_and, Bool.and_false])
          refine wp_region_quiet_ex (by kernel_rfl) (by kernel_rfl) ?_
          repeat (go_big_quiet_step ((go_at_call 43; refine calls_ex_of (HD.out _))))
          refine wpQuiet_nil ?_
          intro _ hw'
          obtain ⟨p9, hw''⟩ := hw'
          subst hw''
          clear hq hq'
          go_wp2
          go_ret
          exact ⟨by rw [HR.out]; rfl, HE0.out.trans p9.ex (by omega) (by simp)⟩
      · have c3d : (t.number == wrap64 (s.number + 1)) = false := by simp [c3]
        have Kc3 : Hid (decide (t.number = wrap64 (s.number + 1)) = false) := Lib.hid (decide_eq_false c3)
        clear c3
        have HR : Hid (followsB s t = false) := Lib.hid (by simp only [followsB, Kc1.out, Kc2.out, Kc3.out, Bool.and_true, Bool.false_and, Bool.and_false])
        refine wp_region_quiet_ex (by kernel_rfl) (by kernel_rfl) ?_
        repeat (go_big_quiet_step (fail))
        refine wpQuiet_nil ?_
        intro _ hw'
        obtain ⟨p9, hw''⟩ := hw'
        subst hw''
        clear hq hq'
        go_wp2
        go_ret
        exact ⟨by rw [HR.out]; rfl, HE0.out.trans p9.ex (by omega) (by simp)⟩
    · have c2d : decide (s.number < t.number) = false := decide_eq_false c2
      have Kc2 : Hid (decide (s.number < t.number) = false) := Lib.hid (decide_eq_false c2)
      clear c2
      have HR : Hid (followsB s t = false) := Lib.hid (by simp only [followsB, Kc1.out, Kc2.out, Bool.false_and, Bool.and_false])
      refine wp_region_quiet_ex (by kernel_rfl) (by kernel_rfl) ?_
      repeat (go_big_quiet_step (fail))
      refine wpQuiet_nil ?_
      intro _ hw'
      obtain ⟨p9, hw''⟩ := hw'
      subst hw''
      clear hq hq'
      go_wp2
      go_ret
      exact ⟨by rw [HR.out]; rfl, HE0.out.trans p9.ex (by omega) (by simp)⟩
  · have c1d : (t.author == s.author) = false := by simp [c1]
    have Kc1 : Hid (decide (t.author = s.author) = false) := Lib.hid (decide_eq_false c1)
    clear c1
    have HR : Hid (followsB s t = false) := Lib.hid (by simp only [followsB, Kc1.out, Bool.false_and])
    refine wp_region_quiet_ex (by kernel_rfl) (by kernel_rfl) ?_
    repeat (go_big_quiet_step (fail))
    refine wpQuiet_nil ?_
    intro _ hw'
    obtain ⟨p9, hw''⟩ := hw'
    subst hw''
    clear hq hq'
    go_wp2
    go_ret
    exact ⟨by rw [HR.out]; rfl, HE0.out.trans p9.ex (by omega) (by simp)⟩
end Go.Proofs.YtaakacahblndcaaGreat

namespace Go.Proofs.YtaakacahblndcaaGreat
open Go.RowKit Go.Sort

theorem sortLink_none (p : Option Addr) (cap : Nat) (fv : Value) (w : World) : Calls Tryz.prog 178 #[.slice p 0 cap, fv] w fun e w' => e = .returned (.tuple #[]) ∧ w' = w :=
  AnyF.slices_SortFunc_none Tryz.pdqLink p cap fv w
theorem sortLink_any (g off cap n : Nat) (d : Array (St × Sv × Sv)) (w : World) (hH : HoldsK linkE 14 w g off d) (hg : g < w.heap.size) (hn : d.size = n) (hsz : n < 4611686018427387904) :
    Calls Tryz.prog 178 #[.slice (some ⟨g, off, none⟩) n cap, .func (.func 179) #[] #[]] w fun e w' =>
      e = .returned (.tuple #[]) ∧ ∃ d', HoldsK linkE 14 w' g off d' ∧ d'.size = n ∧ d'.toList.Perm d.toList ∧ SortedIn (ltOf cmpND) 0 d'.size d' ∧ Ex w.heap.size (some g) w w' := by
  subst hn
  refine (AnyQ.slices_SortFunc Tryz.pdqLink 14 Tryz.isAgg169 Tryz.sizeOf169 linkE linkE_len one_linkE cmpND swo_cmpND 179 #[] g off cap d w
    (enters_of Tryz.func179 (by kernel_rfl) rfl) (fun m os dk _ x y => linkCmp_any x y _) hH hg hsz).mono ?_
  rintro e w' ⟨rfl, d', n, os, hp, hs, rfl⟩
  exact ⟨rfl, d', holdsK_sortWorldK_c linkE 14 w g off d _ n os hH hg hp.1, hp.1, permIn_list hp, by rw [hp.1]; exact hs, ex_sortWorldK linkE 14 w g off n _ os⟩
set_option maxHeartbeats 1000000 in
theorem compactLink_none (p : Option Addr) (cap : Nat) (fv : Value) (w : World) : Calls Tryz.prog 180 #[.slice p 0 cap, fv] w fun e w' => e = .returned (.slice p 0 cap) ∧ w' = w := by
  go_enter Tryz.func180, Tryz.ntmps180
  go_wp2
  go_ret
  exact ⟨rfl, rfl⟩
theorem compactLinks_any (g cap n : Nat) (d : Array (St × Sv × Sv)) (w : World) (hH : HoldsK linkE 14 w g 0 d) (hg : g < w.heap.size) (hs : d.size = n) (hsz : n < 1000000000000) (hcap : n ≤ cap) :
    Calls Tryz.prog 180 #[.slice (some ⟨g, 0, none⟩) n cap, .func (.func 181) #[] #[]] w fun e w' =>
      e = .returned (.slice (some ⟨g, 0, none⟩) (cpt sameDig d n).length cap) ∧ HoldsK linkE 14 w' g 0 (cpt sameDig d n).toArray ∧ Ex w.heap.size (some g) w w' :=
  compactLink_any clayLink linkE linkE_len one_linkE sameDig 181 #[] (enters_of Tryz.func181 (by kernel_rfl) rfl) (fun w x y => linkSame_any x y w)
    Tryz.func180 _ Tryz.zeroValue169 rfl (by decide) Tryz.underlying203 Tryz.isAgg203 Tryz.sizeOf203
    g 0 cap n d w hH hg (by omega) (by omega) hs
end Go.Proofs.YtaakacahblndcaaGreat

namespace Go.Proofs.YtaakacahblndcaaGreat
open Go.RowKit Go.Sort

/-- An author's. -/
def authB (a : Int) (s : St) : Bool := s.author == a
theorem authB_light {a : Int} {l : List St} {m : Nat} (h : LightL m l) : LightL m (l.filter (authB a)) := fun s hs => h s (List.mem_filter.1 hs).1
set_option maxHeartbeats 2000000 in
set_option maxRecDepth 100000 in
theorem ofP_any {P : Nat → Prop} (ao : Option Addr) (cap n : Nat) (l : List St) (a : Int) (w : World) (hn : l.length = n) (hx : SlAt stRep P w ao l) (hm : n ≤ 100000) (hL : LightL 1000000 l) :
    Calls Tryz.prog 88 #[.agg #[.slice ao n cap], .int .i64 a] w fun e w' => ∃ ro m rc, e = .returned (.slice ro m rc) ∧ m = (l.filter (authB a)).length ∧ OwnS w' w.heap.size ro rc (l.filter (authB a)) ∧ Ex w.heap.size none w w' := by
  have HX : Hid (SlAt stRep (fun b => b < w.heap.size) w ao l) := Lib.hid (hx.mono (by decide) fun b _ hb => hb)
  have HLL := Lib.hid hL
  have HN := Lib.hid hn
  clear hx hL hn
  obtain ⟨w0, hw0⟩ : ∃ w0 : World, w0 = w.alloc (.cells #[.slice ao n cap] 29) := ⟨_, rfl⟩
  have hz0 : w0.heap.size = w.heap.size + 1 := by rw [hw0]; simp
  have HE0 : Hid (Ex w.heap.size none w w0) := Lib.hid (by rw [hw0]; exact Ex.new w _)
  have HB0 : Hid (∀ w', Ex w0.heap.size none w0 w' → w'.cell? ⟨w.heap.size, 0, none⟩ = some (.slice ao n cap)) := Lib.hid (fun w' h => by rw [cell_of_row _ _ _ _ _ _ ((h.block _ (by omega) (by simp)).trans (by rw [hw0]; exact heap_alloc_new w _))]; rfl)
  have HX0 : Hid (∀ w', Ex w0.heap.size none w0 w' → SlAt stRep (fun b => b < w.heap.size) w' ao l) := Lib.hid (fun w' h => (HX.out.keep (by decide) fun b _ hb => (h.block b (by omega) (by simp)).trans (HE0.out.block b hb (by simp))))
  have d0 := HB0.out w0 (Ex.refl _ _ _)
  go_enter Tryz.func88, Tryz.ntmps88
  go_upto_region 1 with (fail)
  rw [← hw0]
  clear hw0
  go_wp2_with (first
    | (go_at_call 135
       have hp := part_any ao cap l a w0 (HX0.out w0 (Ex.refl _ _ _)) (by rw [HN.out]; exact hm)
       rw [HN.out] at hp
       refine hp.mono ?_
       rintro e w1 ⟨u, rfl, hu, hex⟩
       have H1 : Hid (Sl stRep (fun b => b < w.heap.size ∨ w0.heap.size ≤ b) w1 u (l.filter (authB a)) ∧ Ex w0.heap.size none w0 w1) := Lib.hid ⟨hu, hex⟩
       have hz1 : w0.heap.size ≤ w1.heap.size := hex.size
       clear hu hex d0)
    | (go_at_call 83
       refine (shelfCopy_any u (l.filter (authB a)) w1 H1.out.1 (by have := List.length_filter_le (authB a) l; have := HN.out; omega) (authB_light HLL.out)).mono ?_
       rintro e w2 ⟨ro, m, rc, rfl, hm2, hown, hex2⟩
       have HM2 := Lib.hid hm2
       clear hm2)
    | fail)
  go_ret
  refine ⟨ro, m, rc, rfl, HM2.out, ?_, (HE0.out.trans H1.out.2 (by omega) (by simp)).trans hex2 (by omega) (by simp)⟩
  obtain ⟨xs, e1, e2, e3⟩ := hown
  exact ⟨xs, e1, OwnE.lowerE e2 (by omega), fun x hx => (e3 x hx).mono fun b hb _ => ⟨by omega, hb.2⟩⟩
end Go.Proofs.YtaakacahblndcaaGreat
