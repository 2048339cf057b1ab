/- ref03.Same: words for its contract, no statement of the seat. -/
import Derived.Test.YtdmchekkcmjafaaSame03
namespace Go.Proofs.Ytdmchekkcmjafaa
open Go.RowKit Go.Sort

theorem seal_eql (k l : Int) (d e : ByteArray) : ∀ w, (binOp .eql 28 (.agg #[.int .i64 k, .string d]) (.agg #[.int .i64 l, .string e])).run Try.prog w = .ok (.bool (decide (k = l) && decide (d = e))) w := fun w => by
  simp [go_sem, bytes_inj]
  by_cases h1 : k = l <;> by_cases h2 : d = e <;> simp [h1, h2]
theorem bytes_beq {a b : ByteArray} (h : a = b) : (a == b) = true ∧ (a.toList == b.toList) = true := by
  subst h
  refine ⟨?_, by simp⟩
  rw [beq_toListBytes]; simp
theorem bytes_nbeq {a b : ByteArray} (h : ¬ a = b) : (a == b) = false ∧ (a.toList == b.toList) = false := by
  have h2 : (a.toList == b.toList) = false := by
    rw [Bool.eq_false_iff]; intro h'
    exact h (bytes_inj.1 (by simpa using h'))
  exact ⟨by rw [beq_toListBytes]; exact h2, h2⟩
theorem ex_two {w : World} (o1 o2 : Obj) : Ex w.heap.size none w ((w.alloc o1).alloc o2) := (Ex.new w o1).trans ((Ex.new _ o2).mono (by simp)) (Nat.le_refl _) (by simp)
end Go.Proofs.Ytdmchekkcmjafaa
