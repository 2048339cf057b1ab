/- Plain Lean functions on lists of ints: what the Go functions of the Quota laws compute. No program in sight. -/
import Derived.PlainAid
namespace Go.Proofs.Ytdmchekkcmjafaa

def hasI (xs : List Int) (x : Int) : Bool := xs.contains x
theorem hasI_nil (x : Int) : hasI [] x = false := rfl
theorem hasI_iff {xs : List Int} {x : Int} : hasI xs x = true ↔ x ∈ xs := by simp [hasI]
theorem hasI_not {xs : List Int} {x : Int} : hasI xs x = false ↔ x ∉ xs := by simp [hasI]
theorem hasI_snoc (xs : List Int) (y x : Int) : hasI (xs ++ [y]) x = (hasI xs x || y == x) := by
  unfold hasI; rw [Bool.eq_iff_iff]; simp [List.contains_iff_mem, List.mem_append, Bool.or_eq_true, @eq_comm _ x y]
theorem hasI_take_none {xs : List Int} {x : Int} (h : hasI (xs.take xs.length) x = false) : hasI xs x = false := by simpa using h
theorem hasI_get {xs : List Int} {x : Int} {k : Nat} (hk : k < xs.length) (h : xs.getD k 0 = x) : hasI xs x = true := by
  rw [hasI_iff]; subst h; simp [List.getD, hk]
theorem take_snoc (xs : List Int) (k : Nat) (h : k < xs.length) : xs.take (k + 1) = xs.take k ++ [xs.getD k 0] := by
  rw [List.take_add_one, List.getElem?_eq_getElem h]; simp [List.getD, h]
theorem hasI_take_succ {xs : List Int} {x : Int} {k : Nat} (hk : k < xs.length) (h : hasI (xs.take k) x = false) (hne : xs.getD k 0 ≠ x) : hasI (xs.take (k + 1)) x = false := by
  rw [take_snoc xs k hk, hasI_snoc, h]; simpa using hne

/-- 0 .. n-1 for which c holds. -/
def keysTo (c : Int → Bool) : Nat → List Int
  | 0 => []
  | k + 1 => keysTo c k ++ (if c k then [(k : Int)] else [])
theorem keysTo_le (c : Int → Bool) (k : Nat) : (keysTo c k).length ≤ k := by
  induction k with
  | zero => simp [keysTo]
  | succ k ih => simp only [keysTo, List.length_append]; split <;> simp <;> omega
theorem mem_keysTo {c : Int → Bool} {n : Nat} {x : Int} : x ∈ keysTo c n ↔ 0 ≤ x ∧ x < n ∧ c x = true := by
  induction n with
  | zero => simp [keysTo]; omega
  | succ k ih =>
    simp only [keysTo, List.mem_append, ih]
    constructor
    · rintro (⟨a, b, d⟩ | h)
      · exact ⟨a, by omega, d⟩
      · split at h
        · simp at h; subst h; refine ⟨by omega, by omega, ?_⟩; assumption
        · simp at h
    · rintro ⟨a, b, d⟩
      by_cases e : x < k
      · exact Or.inl ⟨a, e, d⟩
      · have : x = k := by omega
        subst this; right; simp [d]
def joinI (a b : List Int) : List Int := keysTo (fun k => hasI a k || hasI b k) 64
def minusI (a b : List Int) : List Int := keysTo (fun k => hasI a k && !hasI b k) 64

/-- n modulo m, from 0 on. -/
def modI (n m : Int) : Int := if m < 1 then 0 else n % m
theorem modI_pos {n m : Int} (h : 1 ≤ m) : modI n m = n % m := by unfold modI; rw [if_neg (by omega)]
theorem modI_bd {n m : Int} (h : 1 ≤ m) : 0 ≤ modI n m ∧ modI n m < m := by
  rw [modI_pos h]; exact ⟨Int.emod_nonneg _ (by omega), Int.emod_lt_of_pos _ (by omega)⟩

/-- Dice: the numbers that are left. -/
def dVal (d : List Int) (n : Int) : Int := match d with | [] => 0 | x :: _ => modI x n
theorem dVal_bd {d : List Int} {n : Int} (h : 1 ≤ n) : 0 ≤ dVal d n ∧ dVal d n < n := by
  cases d with
  | nil => simp [dVal]; omega
  | cons x r => exact modI_bd h
def someTo (d : List Int) : Nat → List Int × List Int
  | 0 => ([], d)
  | k + 1 => ((someTo d k).1 ++ (if dVal (someTo d k).2 3 = 0 then [(k : Int)] else []), (someTo d k).2.tail)
theorem someTo_le (d : List Int) (k : Nat) : (someTo d k).1.length ≤ k := by
  induction k with
  | zero => simp [someTo]
  | succ k ih => simp only [someTo, List.length_append]; split <;> simp <;> omega
/-- Some keys below n, at least one: the keys, and what is left of the dice. -/
def keysD (d : List Int) (n : Int) : List Int × List Int :=
  if (someTo d n.toNat).1 = [] then ([dVal (someTo d n.toNat).2 n], (someTo d n.toNat).2.tail) else someTo d n.toNat

/-- The first newcomers of an order. -/
def newcTo (xs old : List Int) (q : Int) : Nat → List Int
  | 0 => []
  | k + 1 => if ((newcTo xs old q k).length : Int) < q ∧ hasI old (xs.getD k 0) = false ∧ hasI (newcTo xs old q k) (xs.getD k 0) = false then newcTo xs old q k ++ [xs.getD k 0] else newcTo xs old q k
def newc (xs old : List Int) (q : Int) : List Int := newcTo xs old q xs.length
theorem newcTo_le (xs old : List Int) (q : Int) (k : Nat) : (newcTo xs old q k).length ≤ k := by
  induction k with
  | zero => simp [newcTo]
  | succ k ih =>
    rw [newcTo]; split
    · rw [List.length_append]; simp; omega
    · omega
/-- When there are enough, nobody comes any more. -/
theorem newcTo_full {xs old : List Int} {q : Int} {k : Nat} (h : q ≤ ((newcTo xs old q k).length : Int)) (j : Nat) (hj : k ≤ j) : newcTo xs old q j = newcTo xs old q k := by
  induction j with
  | zero => have : k = 0 := by omega
            subst this; rfl
  | succ j ih =>
    by_cases e : k = j + 1
    · subst e; rfl
    · have := ih (by omega)
      rw [newcTo, this, if_neg (by omega)]
def fitsI (old next : List Int) (q : Int) : Bool := decide (((newc next old next.length).length : Int) ≤ q)
def thereTo (g ks : List Int) : Nat → Nat
  | 0 => 0
  | k + 1 => thereTo g ks k + (if hasI g (ks.getD k 0) then 1 else 0)
theorem thereTo_le (g ks : List Int) (k : Nat) : thereTo g ks k ≤ k := by
  induction k with
  | zero => simp [thereTo]
  | succ k ih => simp only [thereTo]; split <;> omega
def mostI (g ks : List Int) (e q : Int) : Int := min (ks.length : Int) (thereTo g ks ks.length + e * q)
end Go.Proofs.Ytdmchekkcmjafaa
