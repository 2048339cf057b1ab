/- The program's mourning.Follow: a contract, no statement of the seat. -/
import Derived.Test.YtagciffmacolfaaHeirSorted
import Derived.Test.YtagciffmacolfaaFollow
import Derived.Test.YtagciffmacolfaaContains
namespace Go.Proofs.Ytagciffmacolfaa
open Go.RowKit Go.Sort

theorem heirI_mem {d : List (Int × Int)} (h : Rising d) {i : Nat} {x y : Int} (hi : d[i]? = some (x, y)) : heirI d x = some y := by
  unfold heirI
  cases e : d.find? (fun z => z.1 == x) with
  | none =>
    rw [List.find?_eq_none] at e
    have := e _ (List.mem_of_getElem? hi)
    simp at this
  | some z =>
    have h1 := List.mem_of_find?_eq_some e
    have h2 := List.find?_some e
    obtain ⟨j, hj⟩ := List.getElem?_of_mem h1
    simp at h2
    rcases Nat.lt_trichotomy i j with h' | h' | h'
    · have := h i j _ _ h' hi hj; simp at this; omega
    · subst h'; rw [hi] at hj; cases hj; rfl
    · have := h j i _ _ h' hj hi; simp at this; omega
theorem heirI_not {d : List (Int × Int)} {x : Int} (h : ∀ a ∈ d, a.1 ≠ x) : heirI d x = none := by
  unfold heirI
  rw [List.find?_eq_none.2 (fun a ha => by simpa using h a ha)]; rfl

/-- The search's answer in two parts. -/
theorem found_cases {d : List (Int × Int)} (hr : Rising d) {x : Int} {e : Ending} (h : Found d x e) : (∃ (i : Nat) (y : Int), e = .returned (.tuple #[.int .i64 i, .bool true]) ∧ i < d.length ∧ heirI d x = some y ∧ d[i]? = some (x, y)) ∨ (∃ i, e = .returned (.tuple #[.int .i64 i, .bool false]) ∧ heirI d x = none) := by
  rcases h with ⟨i, y, h1, h2, h3⟩ | ⟨i, h1, h2⟩
  · refine Or.inl ⟨i.toNat, y, by rw [h1, Int.toNat_of_nonneg h2], (List.getElem?_eq_some_iff.1 h3).1, heirI_mem hr h3, h3⟩
  · exact Or.inr ⟨i, h1, heirI_not h2⟩

set_option maxHeartbeats 1000000 in
set_option maxRecDepth 100000 in
theorem follow_any {P : Nat → Prop} {v : Value} {hs : List (Int × Int)} (k : Int) (w : World) (hv : Sl heirRep P w v hs) (hm : hs.length ≤ 1000000) :
    Calls Try.prog 19 #[v, .int .i64 k] w fun e w' => e = .returned (.int .i64 (followI (heirI hs) k)) ∧ Ex w.heap.size none w w' := by
  obtain ⟨v0, hv0⟩ : ∃ x, x = v := ⟨_, rfl⟩
  subst hv0
  go_enter Try.func19, Try.ntmps19
  go_wp2_with fail
  refine (sorted_any w hv hm).mono ?_
  rintro e w1 ⟨g, d, dc, rfl, hgw, hH, hR, hdl, hE, hex0⟩
  have HH := Lib.hid hH
  have HR := Lib.hid hR
  have HE : Hid (∀ k, heirI d k = heirI hs k) := hE
  clear hH hR hE hv
  have hsz0 := hex0.size
  have hgl : d.length = 0 ∨ g < w1.heap.size := by
    rcases Nat.eq_zero_or_pos d.length with h0 | h0
    · exact Or.inl h0
    · right
      have := (HoldsK.cell HH.out (i := 0) (c := 0) (by simpa using h0) (by omega)).1
      exact World.block_lt_of_cell? w1 _ this
  go_wp2
  go_loopw [6, 7] (fun v a wr => ∃ (met : List Int) (ro : Option Addr) (rc : Nat) (y : Int), v = .slice ro met.length rc ∧ a = .int .i64 y ∧ Hid (met.getD (met.length - 1) 0 = y) ∧ OwnI wr w1.heap.size ro rc met ∧ Ex w1.heap.size none w1 wr ∧ 1 ≤ met.length ∧ met.length ≤ 17 ∧ Hid (followF (heirI hs) k (18 - met.length) met = followI (heirI hs) k)) (fun v _ _ => 18 - (match v with | .slice _ n _ => n | _ => 0))
  case atStart => exact ⟨[k], some ⟨w1.heap.size, 0, none⟩, 1, k, rfl, rfl, rfl, World.ownsRow_lit w1 #[.int .i64 k] 1 (Nat.le_refl _) (by decide) rfl, Ex.new _ _, by simp, by simp, rfl⟩
  case round =>
    obtain ⟨met, ro, rc, y, rfl, rfl, HY, hown, hex, h1, h17, HF⟩ := hrel
    have hsz := hex.size
    have hi := hown.v
    have fH : HoldsK encH 2 wr g 0 d.toArray := by
      rcases hgl with h0 | h0
      · obtain rfl : d = [] := List.eq_nil_of_length_eq_zero h0
        intro j hj; simp [flatK] at hj
      · exact holdsK_ex HH.out (hex.block g h0 (by simp))
    have fv : Sl heirRep (fun _ => True) wr (.slice (some ⟨g, 0, none⟩) d.length dc) d := ⟨_, _, rfl, sl_holdsK trivial fH⟩
    have HHr := Lib.hid fH
    clear fH
    go_wp2_with fail
    refine (heirSearch_any y wr fv (by omega) HR.out).mono ?_
    rintro e w2 ⟨hfd, hex2⟩
    have hsz2 := hex2.size
    have hown2 := hown.keep hex2 (Nat.le_refl _) (by simp)
    have hE2 := hex.trans hex2 hsz (by simp)
    rcases found_cases HR.out hfd with ⟨i, x, rfl, hlt, hx, hget⟩ | ⟨i, rfl, hx⟩
    · have hc1 : w2.cell? ⟨g, 0 + i * 2 + 1, none⟩ = some (.int .i64 x) := by
        have h0 := HoldsK.cell HHr.out (i := i) (c := 1) (by simpa using hlt) (by omega)
        have hg2 := World.block_lt_of_cell? wr _ h0.1
        rw [← World.cell?_of_block (w := wr) (w' := w2) (a := ⟨g, 0 + i * 2 + 1, none⟩) (hex2.block g hg2 (by simp))] at h0
        rw [h0.1]
        have : d.toArray[i]! = (y, x) := by
          rw [getElem!_pos d.toArray i (by simpa using hlt), List.getElem_toArray]
          exact (List.getElem?_eq_some_iff.1 hget).2
        rw [this]; rfl
      rw [Nat.zero_add] at hc1
      have HX : Hid (heirI hs y = some x) := by have := HE.out y; rw [hx] at this; exact this.symm
      clear hx hget hfd
      have hiz : (i : Int) < d.length := by omega
      have hi2 := hown2.v
      by_cases h2 : hasI met x = true
      · have HRR := Lib.hid (followF_stop (k := k) (n := 18 - met.length) HY.out HX.out (Or.inl h2))
        go_wp2_with fail
        refine (asB (contains_any _ _ _ _ hi2 (by omega)) h2).mono ?_
        rintro e w' ⟨rfl, rfl⟩
        go_wp2
        go_ret
        exact ⟨ret_int (by rw [← HF.out, HRR.out]), hex0.trans hE2 hsz0 (by simp)⟩
      · have h2' : hasI met x = false := Bool.eq_false_iff.2 h2
        by_cases h3 : (16 : Int) < met.length
        · have HRR := Lib.hid (followF_stop (k := k) (n := 18 - met.length) HY.out HX.out (Or.inr (by omega)))
          have hd : decide ((16 : Int) < met.length) = true := decide_eq_true h3
          go_wp2_with fail
          refine (asB (contains_any _ _ _ _ hi2 (by omega)) h2').mono ?_
          rintro e w' ⟨rfl, rfl⟩
          go_wp2
          go_ret
          exact ⟨ret_int (by rw [← HF.out, HRR.out]), hex0.trans hE2 hsz0 (by simp)⟩
        · have HRR := Lib.hid (followF_step (k := k) (n := 18 - met.length) HY.out HX.out (by rw [h2']; simp; omega) (by omega))
          have hd : decide ((16 : Int) < met.length) = false := decide_eq_false h3
          go_wp2_with fail
          refine (asB (contains_any _ _ _ _ hi2 (by omega)) h2').mono ?_
          rintro e w' ⟨rfl, rfl⟩
          go_wp2_with (at_builtin; refine wpList_appI (w0 := w2) rfl _ _ _ rfl Try.underlying25 Try.infoInt w1.heap.size ro rc _ w2.heap.size x rfl rfl hown2 (Ex.new _ _) (by go_simp) (by omega) (by omega) ?_; intro ro' rc' w3 hown3 hex3)
          go_roundw
          case rel => exact ⟨met ++ [x], ro', rc', x, by rw [List.length_append]; rfl, rfl, by show _ = _; simp, hown3, hE2.trans hex3 (Nat.le_refl _) (by simp), by simp, by simp; omega, by
            show _ = _
            rw [show 18 - (met ++ [x]).length = 18 - met.length - 1 by simp; omega, ← HRR.out, HF.out]⟩
          case measure => simp <;> omega
    · have HX : Hid (heirI hs y = none) := by have := HE.out y; rw [hx] at this; exact this.symm
      have HRR := Lib.hid (followF_end (k := k) HY.out HX.out (show 0 < 18 - met.length by omega))
      clear hx hfd
      go_wp2
      go_ret
      exact ⟨ret_int (by rw [← HF.out, HRR.out]), hex0.trans hE2 hsz0 (by simp)⟩
end Go.Proofs.Ytagciffmacolfaa
