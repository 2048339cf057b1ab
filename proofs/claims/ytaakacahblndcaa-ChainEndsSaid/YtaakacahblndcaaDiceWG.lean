/- Dice without its numbers: contracts that tell bounds alone. No statement of the seat. -/
import Derived.Test.YtaakacahblndcaaMg03
import Derived.Test.YtaakacahblndcaaMg02
import Derived.Test.YtaakacahblndcaaMg01
import Derived.Test.YtaakacahblndcaaBlock01G
import Derived.Deep.Cut
namespace Go.Proofs.Ytaakacahblndcaa
open Go.RowKit Go.Sort

/-- Block p is a Dice, with whatever numbers left. -/
def DiceOK (N : Nat) (w : World) (p : Nat) : Prop := ∃ d, DiceAt N w p d
theorem DiceOK.keep {N : Nat} {w w' : World} {p B : Nat} (h : DiceOK N w p) (hx : Ex B none w w') (hB : N ≤ B) : DiceOK N w' p := by
  obtain ⟨d, h⟩ := h
  exact ⟨d, h.keep hx hB⟩
theorem next_w (N p : Nat) (n : Int) (w : World) (hd : DiceOK N w p) (h1 : 1 ≤ n) (hn : n ≤ 4611686018427387904) :
    Calls Try.prog 7 #[.pointer (some ⟨p, 0, none⟩), .int .i64 n] w fun e w' => ∃ k : Nat, e = .returned (.int .i64 k) ∧ (k : Int) < n ∧ DiceOK N w' p ∧ Ex w.heap.size (some p) w w' := by
  obtain ⟨d, hd⟩ := hd
  obtain ⟨k, hk, hkl⟩ := dVal_nat (d := d) (n := n) h1
  exact (next_any N p d n w hd hn).mono fun e w' ⟨he, h2, h3⟩ => ⟨k, by rw [he, hk], hkl, ⟨_, h2⟩, h3⟩
end Go.Proofs.Ytaakacahblndcaa
