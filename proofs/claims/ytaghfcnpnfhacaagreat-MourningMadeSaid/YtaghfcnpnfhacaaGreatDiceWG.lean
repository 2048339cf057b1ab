/- Dice without its numbers: contracts that tell bounds alone. No statement of the seat. -/
import Derived.Test.YtaghfcnpnfhacaaGreatMg05
import Derived.Test.YtaghfcnpnfhacaaGreatMg04
import Derived.Test.YtaghfcnpnfhacaaGreatMg03
import Derived.Test.YtaghfcnpnfhacaaGreatBlock01G
import Derived.Deep.Cut
namespace Go.Proofs.YtaghfcnpnfhacaaGreat
open Go.RowKit Go.Sort

/-- Block p is a Dice, with whatever numbers left. -/
def DiceOK (N : Nat) (w : World) (p : Nat) : Prop := ∃ d, DiceAt N w p d
theorem DiceOK.keep {N : Nat} {w w' : World} {p B : Nat} (h : DiceOK N w p) (hx : Ex B none w w') (hB : N ≤ B) : DiceOK N w' p := by
  obtain ⟨d, h⟩ := h
  exact ⟨d, h.keep hx hB⟩
theorem DiceOK.lt {N : Nat} {w : World} {p : Nat} (h : DiceOK N w p) : p < N := by
  obtain ⟨d, h⟩ := h
  exact h.lt
theorem next_w (N p : Nat) (n : Int) (w : World) (hd : DiceOK N w p) (h1 : 1 ≤ n) (hn : n ≤ 4611686018427387904) :
    Calls Tryz.prog 38 #[.pointer (some ⟨p, 0, none⟩), .int .i64 n] w fun e w' => ∃ k : Nat, e = .returned (.int .i64 k) ∧ (k : Int) < n ∧ DiceOK N w' p ∧ Ex w.heap.size (some p) w w' := by
  obtain ⟨d, hd⟩ := hd
  obtain ⟨k, hk, hkl⟩ := dVal_nat (d := d) (n := n) h1
  exact (next_any N p d n w hd hn).mono fun e w' ⟨he, h2, h3⟩ => ⟨k, by rw [he, hk], hkl, ⟨_, h2⟩, h3⟩
theorem of_w (N p : Nat) (v : Value) (xs : List Int) (w : World) (hd : DiceOK N w p) (hv : IntsO p w v xs) (h1 : 1 ≤ xs.length) (hm : xs.length ≤ 100000) :
    Calls Tryz.prog 15 #[.pointer (some ⟨p, 0, none⟩), v] w fun e w' => ∃ y : Int, e = .returned (.int .i64 y) ∧ y ∈ xs ∧ DiceOK N w' p ∧ Ex w.heap.size (some p) w w' := by
  obtain ⟨d, hd⟩ := hd
  obtain ⟨k, hk, hkl⟩ := dVal_nat (d := d) (n := xs.length) (by omega)
  refine (ofD_any N p d v xs w hd hv h1 hm).mono fun e w' ⟨he, h2, h3⟩ => ⟨_, he, ?_, ⟨_, h2⟩, h3⟩
  rw [hk]
  have hkl' : k < xs.length := by omega
  simp only [Int.toNat_natCast, List.getD_eq_getElem?_getD, List.getElem?_eq_getElem hkl', Option.getD_some]
  exact List.getElem_mem _
theorem IntsO.lit {p : Nat} {w : World} (xs : List Int) {n g : Nat} (hg : g = w.heap.size) (hn : n = xs.length) (hp : p < g) : IntsO p (w.alloc (.cells (xs.map (Value.int .i64)).toArray 3)) (.slice (some ⟨g, 0, none⟩) n n) xs := by
  subst hn hg
  exact ⟨_, _, rfl, IntsAt.lit w xs, fun _ a ha => by cases ha; show w.heap.size ≠ p; omega⟩
theorem OwnB.keepP {w w' : World} {base B : Nat} {p : Option Nat} {ao : Option Addr} {cap : Nat} {xs : List UInt8} (h : OwnB w base ao cap xs) (hx : Ex B p w w') (hB : w.heap.size ≤ B) (hp : ∀ q, p = some q → q < base) : OwnB w' base ao cap xs := OwnE.keep h hx hB hp
theorem made32 : (madeCells (Value.int .u8 0).cells (32 * 1)).toList = flatL byE (List.replicate 32 0) := by
  rw [flat_byE, show (Value.int .u8 0).cells = #[.int .u8 0] from rfl, toList_madeCells_one]; rfl
end Go.Proofs.YtaghfcnpnfhacaaGreat
