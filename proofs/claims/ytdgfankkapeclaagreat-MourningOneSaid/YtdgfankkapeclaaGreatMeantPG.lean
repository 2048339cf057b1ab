/- statement.value, meant; slices.IndexFunc with the program's closure: contracts at whatever statement. No statement of the seat. -/
import Derived.Test.YtdgfankkapeclaaGreatMg08
import Derived.Test.YtdgfankkapeclaaGreatMg06
import Derived.Deep.Cut
namespace Go.Proofs.YtdgfankkapeclaaGreat
open Go.RowKit Go.Sort

theorem valueAny_any (n : Int) (w : World) : Calls Tryz.prog 152 #[.int .i64 n] w fun e w' => e = .returned (.bool (inB n 1099511627776)) ∧ w = w' := by
  go_enter Tryz.func152, Tryz.ntmps152
  go_wp2_with (go_at_call 151; refine (listsIn_any _ _ _ _).mono ?_; rintro e w' ⟨rfl, rfl⟩)
  go_ret
  exact ⟨rfl, rfl⟩

set_option maxHeartbeats 4000000 in
set_option maxRecDepth 100000 in
theorem meantP_any (s : St) (lo po : Option Addr) (ln lc pn pc : Nat) (w : World) :
    Calls Tryz.prog 153 #[.agg #[.int .i64 s.author, .int .i64 s.number, .string s.prev, .int .i64 s.time, .int .i64 s.kind, .int .i64 s.a, .int .i64 s.b, .int .i64 s.c, .slice lo ln lc, .slice po pn pc, .string s.body, .int .i64 s.key, .string s.dig]] w fun e w' => e = .returned (.bool (kindB s)) ∧ Ex w.heap.size none w w' := by
  by_cases k1 : s.kind = 1
  · have k1d : (s.kind == 1) = true := by simp [k1]
    cases h1 : (decide (0 ≤ s.a) && decide (s.a ≤ 63))
    case false =>
      have HK : Hid (kindB s = false) := by show _ = _; (try simp only [Bool.and_eq_false_iff, decide_eq_false_iff_not] at *); simp [kindB, keyB, k1] <;> omega
      clear k1
      go_enter Tryz.func153, Tryz.ntmps153
      go_wp2_with (first | (go_at_call 151; refine (listsIn_any _ _ _ _).mono ?_; (first | rw [h1] | skip); rintro e w' ⟨rfl, rfl⟩) | fail)
      go_ret
      exact ⟨by rw [HK.out]; rfl, Ex.new _ _⟩
    by_cases h2 : s.a = s.author
    case pos =>
      have h2d : (s.a != s.author) = false := by simp [h2]
      have HK : Hid (kindB s = false) := by show _ = _; (try simp only [Bool.and_eq_true, decide_eq_true_eq] at *); simp [kindB, keyB, k1, h2] <;> omega
      clear k1 h2
      go_enter Tryz.func153, Tryz.ntmps153
      go_wp2_with (first | (go_at_call 151; refine (listsIn_any _ _ _ _).mono ?_; (first | rw [h1] | skip); rintro e w' ⟨rfl, rfl⟩) | fail)
      go_ret
      exact ⟨by rw [HK.out]; rfl, Ex.new _ _⟩
    have h2d : (s.a != s.author) = true := by simp [h2]
    cases h3 : (decide (1 ≤ s.b) && decide (s.b ≤ 3))
    case false =>
      have HK : Hid (kindB s = false) := by show _ = _; (try simp only [Bool.and_eq_false_iff, Bool.and_eq_true, decide_eq_false_iff_not, decide_eq_true_eq] at *); simp [kindB, keyB, k1, h2] <;> omega
      clear k1 h2
      go_enter Tryz.func153, Tryz.ntmps153
      go_wp2_with (first | (go_at_call 151; refine (listsIn_any _ _ _ _).mono ?_; (first | rw [h1] | rw [h3] | skip); rintro e w' ⟨rfl, rfl⟩) | fail)
      go_ret
      exact ⟨by rw [HK.out]; rfl, Ex.new _ _⟩
    cases h4 : (decide (s.time ≤ s.c) && decide (s.c ≤ 2147483648))
    case false =>
      have HK : Hid (kindB s = false) := by show _ = _; (try simp only [Bool.and_eq_false_iff, Bool.and_eq_true, decide_eq_false_iff_not, decide_eq_true_eq] at *); simp [kindB, keyB, k1, h2] <;> omega
      clear k1 h2
      go_enter Tryz.func153, Tryz.ntmps153
      go_wp2_with (first | (go_at_call 151; refine (listsIn_any _ _ _ _).mono ?_; (first | rw [h1] | rw [h3] | rw [h4] | skip); rintro e w' ⟨rfl, rfl⟩) | fail)
      go_ret
      exact ⟨by rw [HK.out]; rfl, Ex.new _ _⟩
    case true =>
      have HK : Hid (kindB s = true) := by show _ = _; (try simp only [Bool.and_eq_true, decide_eq_true_eq] at *); simp [kindB, keyB, k1, h2] <;> omega
      clear k1 h2
      go_enter Tryz.func153, Tryz.ntmps153
      go_wp2_with (first | (go_at_call 151; refine (listsIn_any _ _ _ _).mono ?_; (first | rw [h1] | rw [h3] | rw [h4] | skip); rintro e w' ⟨rfl, rfl⟩) | fail)
      go_ret
      exact ⟨by rw [HK.out]; rfl, Ex.new _ _⟩
  have k1d : (s.kind == 1) = false := by simpa using k1
  by_cases k2 : s.kind = 2
  · have k2d : (s.kind == 2) = true := by simp [k2]
    cases h1 : (decide (0 ≤ s.a) && decide (s.a ≤ 199))
    case false =>
      have HK : Hid (kindB s = false) := by show _ = _; (try simp only [Bool.and_eq_false_iff, decide_eq_false_iff_not] at *); simp [kindB, inB, k2] <;> omega
      clear k2
      go_enter Tryz.func153, Tryz.ntmps153
      go_wp2_with (first | (go_at_call 151; refine (listsIn_any _ _ _ _).mono ?_; (first | rw [h1] | skip); rintro e w' ⟨rfl, rfl⟩) | fail)
      go_ret
      exact ⟨by rw [HK.out]; rfl, Ex.new _ _⟩
    by_cases h2 : s.b = 0
    case neg =>
      have h2d : (s.b == 0) = false := by simpa using h2
      have HK : Hid (kindB s = false) := by show _ = _; (try simp only [Bool.and_eq_true, decide_eq_true_eq] at *); simp [kindB, inB, k2, h2] <;> omega
      clear k2 h2
      go_enter Tryz.func153, Tryz.ntmps153
      go_wp2_with (first | (go_at_call 151; refine (listsIn_any _ _ _ _).mono ?_; (first | rw [h1] | skip); rintro e w' ⟨rfl, rfl⟩) | fail)
      go_ret
      exact ⟨by rw [HK.out]; rfl, Ex.new _ _⟩
    have h2d : (s.b == 0) = true := by simp [h2]
    by_cases h3 : s.c = 0
    case neg =>
      have h3d : (s.c == 0) = false := by simpa using h3
      have HK : Hid (kindB s = false) := by show _ = _; (try simp only [Bool.and_eq_true, decide_eq_true_eq] at *); simp [kindB, inB, k2, h2, h3] <;> omega
      clear k2 h2 h3
      go_enter Tryz.func153, Tryz.ntmps153
      go_wp2_with (first | (go_at_call 151; refine (listsIn_any _ _ _ _).mono ?_; (first | rw [h1] | skip); rintro e w' ⟨rfl, rfl⟩) | fail)
      go_ret
      exact ⟨by rw [HK.out]; rfl, Ex.new _ _⟩
    have h3d : (s.c == 0) = true := by simp [h3]
    have HK : Hid (kindB s = true) := by show _ = _; (try simp only [Bool.and_eq_true, decide_eq_true_eq] at *); simp [kindB, inB, k2, h2, h3] <;> omega
    clear k2 h2 h3
    go_enter Tryz.func153, Tryz.ntmps153
    go_wp2_with (first | (go_at_call 151; refine (listsIn_any _ _ _ _).mono ?_; (first | rw [h1] | skip); rintro e w' ⟨rfl, rfl⟩) | fail)
    go_ret
    exact ⟨by rw [HK.out]; rfl, Ex.new _ _⟩
  have k2d : (s.kind == 2) = false := by simpa using k2
  by_cases k3 : s.kind = 3
  · have k3d : (s.kind == 3) = true := by simp [k3]
    by_cases h1 : s.a = 0
    case neg =>
      have h1d : (s.a == 0) = false := by simpa using h1
      have HK : Hid (kindB s = false) := by show _ = _; (try simp only [Bool.and_eq_false_iff, Bool.and_eq_true, decide_eq_false_iff_not, decide_eq_true_eq] at *); simp [kindB, k3, h1] <;> omega
      clear k3 h1
      go_enter Tryz.func153, Tryz.ntmps153
      go_wp2_with (first | (go_at_call 151; refine (listsIn_any _ _ _ _).mono ?_; (first  | skip); rintro e w' ⟨rfl, rfl⟩) | fail)
      go_ret
      exact ⟨by rw [HK.out]; rfl, Ex.new _ _⟩
    have h1d : (s.a == 0) = true := by simp [h1]
    by_cases h2 : s.b = 0
    case neg =>
      have h2d : (s.b == 0) = false := by simpa using h2
      have HK : Hid (kindB s = false) := by show _ = _; (try simp only [Bool.and_eq_false_iff, Bool.and_eq_true, decide_eq_false_iff_not, decide_eq_true_eq] at *); simp [kindB, k3, h1, h2] <;> omega
      clear k3 h1 h2
      go_enter Tryz.func153, Tryz.ntmps153
      go_wp2_with (first | (go_at_call 151; refine (listsIn_any _ _ _ _).mono ?_; (first  | skip); rintro e w' ⟨rfl, rfl⟩) | fail)
      go_ret
      exact ⟨by rw [HK.out]; rfl, Ex.new _ _⟩
    have h2d : (s.b == 0) = true := by simp [h2]
    by_cases h3 : s.c = 0
    case neg =>
      have h3d : (s.c == 0) = false := by simpa using h3
      have HK : Hid (kindB s = false) := by show _ = _; (try simp only [Bool.and_eq_false_iff, Bool.and_eq_true, decide_eq_false_iff_not, decide_eq_true_eq] at *); simp [kindB, k3, h1, h2, h3] <;> omega
      clear k3 h1 h2 h3
      go_enter Tryz.func153, Tryz.ntmps153
      go_wp2_with (first | (go_at_call 151; refine (listsIn_any _ _ _ _).mono ?_; (first  | skip); rintro e w' ⟨rfl, rfl⟩) | fail)
      go_ret
      exact ⟨by rw [HK.out]; rfl, Ex.new _ _⟩
    have h3d : (s.c == 0) = true := by simp [h3]
    have HK : Hid (kindB s = true) := by show _ = _; (try simp only [Bool.and_eq_false_iff, Bool.and_eq_true, decide_eq_false_iff_not, decide_eq_true_eq] at *); simp [kindB, k3, h1, h2, h3] <;> omega
    clear k3 h1 h2 h3
    go_enter Tryz.func153, Tryz.ntmps153
    go_wp2_with (first | (go_at_call 151; refine (listsIn_any _ _ _ _).mono ?_; (first  | skip); rintro e w' ⟨rfl, rfl⟩) | fail)
    go_ret
    exact ⟨by rw [HK.out]; rfl, Ex.new _ _⟩
  have k3d : (s.kind == 3) = false := by simpa using k3
  have HK : Hid (kindB s = true) := by show _ = _; (try simp only [Bool.and_eq_false_iff, Bool.and_eq_true, decide_eq_false_iff_not, decide_eq_true_eq] at *); simp [kindB, k1, k2, k3] <;> omega
  clear k1 k2 k3
  go_enter Tryz.func153, Tryz.ntmps153
  go_wp2_with (first | (go_at_call 151; refine (listsIn_any _ _ _ _).mono ?_; (first  | skip); rintro e w' ⟨rfl, rfl⟩) | fail)
  go_ret
  exact ⟨by rw [HK.out]; rfl, Ex.new _ _⟩

/-- All numbers of a list can be said. -/
def saidB (xs : List Int) : Bool := xs.all (fun x => inB x 1099511627776)
set_option maxHeartbeats 1000000 in
theorem unsaid_any (n : Int) (w : World) : Calls Tryz.prog 155 #[.int .i64 n] w fun e w' => e = .returned (.bool (!inB n 1099511627776)) ∧ w = w' := by
  go_enter Tryz.func155, Tryz.ntmps155
  cases h : inB n 1099511627776 with
  | true =>
    go_wp2_with (first | (go_at_call 152; refine (asB (valueAny_any _ _) h).mono ?_; rintro e w' ⟨rfl, rfl⟩) | fail)
    go_ret
    exact ⟨rfl, rfl⟩
  | false =>
    go_wp2_with (first | (go_at_call 152; refine (asB (valueAny_any _ _) h).mono ?_; rintro e w' ⟨rfl, rfl⟩) | fail)
    go_ret
    exact ⟨rfl, rfl⟩
set_option maxHeartbeats 1000000 in
theorem indexUnsaid_any (v : Value) (xs : List Int) (w : World) (hv : Ints w v xs) (hm : xs.length ≤ 9223372036854775807) :
    Calls Tryz.prog 123 #[v, .func (.func 155) #[] #[]] w fun e w' => ∃ i : Int, e = .returned (.int .i64 i) ∧ Hid (0 ≤ i ↔ saidB xs = false) ∧ w = w' := by
  obtain ⟨ao, cap, rfl, hx⟩ := hv
  go_enter Tryz.func123, Tryz.ntmps123
  go_wp2
  go_loop [5, 8] (fun _ i => ∃ k : Nat, k ≤ xs.length ∧ i = .int .i64 k ∧ Hid (saidB (xs.take k) = true)) (fun _ i => xs.length - (intOf i).toNat)
  case atStart => exact ⟨0, Nat.zero_le _, rfl, Lib.hid rfl⟩
  case round =>
    obtain ⟨k, hk, rfl, HN⟩ := hrel
    by_cases hlt : k < xs.length
    · have hltI : (k : Int) < (xs.length : Int) := by omega
      obtain ⟨b, off, y, rfl, hck, HY⟩ := hx.get k hlt
      have HG : Hid (xs[k]? = some y) := by
        have := HY.out
        simp only [List.getD_eq_getElem?_getD, List.getElem?_eq_getElem hlt, Option.getD_some] at this
        show _ = _
        rw [List.getElem?_eq_getElem hlt, this]
      cases h : inB y 1099511627776 with
      | false =>
        have HR : Hid (saidB xs = false) := by
          show xs.all _ = _
          rw [List.all_eq_false]
          exact ⟨y, List.mem_of_getElem? HG.out, by simp [h]⟩
        go_wp2_with (first | (refine (unsaid_any y _).mono ?_; rw [h]; rintro e w' ⟨rfl, rfl⟩) | fail)
        go_ret
        exact ⟨_, rfl, (by rw [HR.out]; simp : _ ↔ _), rfl⟩
      | true =>
        have HR : Hid (saidB (xs.take (k + 1)) = true) := by
          show _ = _
          have hn := HN.out
          unfold saidB at hn ⊢
          rw [List.take_add_one, HG.out, List.all_append, hn]
          simp [h]
        go_wp2_with (first | (refine (unsaid_any y _).mono ?_; rw [h]; rintro e w' ⟨rfl, rfl⟩) | fail)
        go_round
        case rel => exact ⟨k + 1, by omega, by go_num, HR⟩
        case measure => simp [intOf] <;> omega
    · have hltI : ¬ (k : Int) < (xs.length : Int) := by omega
      have HR : Hid (saidB xs = true) := by
        have h := HN.out
        rwa [List.take_of_length_le (by omega)] at h
      go_wp2
      go_ret
      exact ⟨_, rfl, (by rw [HR.out]; simp : _ ↔ _), rfl⟩
set_option maxHeartbeats 1000000 in
theorem containsUnsaid_any (v : Value) (xs : List Int) (w : World) (hv : Ints w v xs) (hm : xs.length ≤ 9223372036854775807) :
    Calls Tryz.prog 154 #[v, .func (.func 155) #[] #[]] w fun e w' => e = .returned (.bool (!saidB xs)) ∧ w = w' := by
  obtain ⟨ao, cap, rfl, hx⟩ := hv
  go_enter Tryz.func154, Tryz.ntmps154
  go_wp2_with (go_at_call 123; refine (indexUnsaid_any _ xs _ ⟨_, _, rfl, hx⟩ hm).mono ?_; rintro e w' ⟨i, rfl, hi, rfl⟩)
  go_ret
  refine ⟨ret_bool ?_, rfl⟩
  have h := hi.out
  show decide (0 ≤ i) = _
  rw [Bool.eq_iff_iff, decide_eq_true_eq, h]
  simp
end Go.Proofs.YtdgfankkapeclaaGreat
