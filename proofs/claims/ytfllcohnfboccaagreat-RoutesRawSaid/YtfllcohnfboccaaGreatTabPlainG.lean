/- The table of a key is its places in the reference's order by insertion. Plain. No statement of the seat. -/
import Derived.Test.YtfllcohnfboccaaGreatMg11
import Derived.Test.YtfllcohnfboccaaGreatOrderPlainG
namespace Go.Proofs.YtfllcohnfboccaaGreat
open Go.RowKit Go.Sort

theorem sortP_order (l : List PlD) : sortP l = orderI (ltOf byDig) l := by
  obtain ⟨h1, h2⟩ := insertionSort_holds swo_byDig l.toArray 0 l.length (Nat.zero_le _) (by simp)
  obtain ⟨r1, r2⟩ := orderI_spec swo_byDig l
  refine rises_uniq swo_byDig _ _ ?_ r1 fun p hp => ?_
  · refine List.pairwise_iff_getElem.2 fun i j hi hj hij => ?_
    have hs : (Sort.insertionSort (ltOf byDig) l.toArray 0 l.length).size = l.length := by rw [h1.1]; simp
    have hi' : i < (Sort.insertionSort (ltOf byDig) l.toArray 0 l.length).size := by simpa [sortP] using hi
    have hj' : j < (Sort.insertionSort (ltOf byDig) l.toArray 0 l.length).size := by simpa [sortP] using hj
    have := h2 i j (Nat.zero_le _) hij (by omega)
    rw [getElem!_pos _ j hj', getElem!_pos _ i hi'] at this
    simpa [sortP] using this
  · rw [r2 p hp]
    exact insertionSort_filter hp l.toArray 0 l.length (by simp)
theorem ltOf_byDig (x y : PlD) : ltOf byDig x y = lssS x.2 y.2 := by
  unfold ltOf byDig
  exact cmpS_lt _ _
/-- What is put in by now. -/
def ordP (salt : ByteArray) (key : Int) (l : List Int) : List PlD := orderI (ltOf byDig) (placesL salt key l)
theorem ordP_len (salt : ByteArray) (key : Int) (l : List Int) : (ordP salt key l).length = l.length := by unfold ordP; rw [orderI_len, placesL_len]
theorem ordP_tab (salt : ByteArray) (es : List EdD) (key : Int) : (ordP salt key (nbI es key)).map (·.1) = tabI salt es key := by unfold ordP tabI; rw [sortP_order]
theorem ordP_up {salt : ByteArray} {key : Int} {l : List Int} {k : Nat} {y : Int} (hk : k < l.length) (h : l.getD k 0 = y) : ordP salt key (l.take (k + 1)) = insI (ltOf byDig) (ordP salt key (l.take k)) (y, rankB salt key y) := by
  unfold ordP
  rw [placesL_up hk h]
  unfold orderI
  rw [List.foldl_append]
  rfl
/-- An insertion at the place that the reference finds. -/
theorem insI_at {α : Type} {lt : α → α → Bool} {l : List α} {x : α} {k : Nat} (h : posI lt l x l.length = k) : insI lt l x = l.take k ++ [x] ++ l.drop k := by
  unfold insI
  rw [h, List.append_assoc]
  rfl
end Go.Proofs.YtfllcohnfboccaaGreat
