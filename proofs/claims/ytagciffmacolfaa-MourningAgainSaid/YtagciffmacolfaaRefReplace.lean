/- ref35.Replace: a contract, no statement of the seat. -/
import Derived.Test.YtagciffmacolfaaFollow
namespace Go.Proofs.Ytagciffmacolfaa
open Go.RowKit

/-- What the keys among the first k numbers lead to. -/
def replTo (f : Int → Option Int) (l : List Int) : Nat → List Int
  | 0 => []
  | k + 1 => if 0 ≤ l.getD k 0 ∧ l.getD k 0 < 64 then replTo f l k ++ [followI f (l.getD k 0)] else replTo f l k
theorem replTo_le (f : Int → Option Int) (l : List Int) (k : Nat) : (replTo f l k).length ≤ k := by
  induction k with
  | zero => simp [replTo]
  | succ k ih =>
    rw [replTo]; split
    · rw [List.length_append]; simp; omega
    · omega
theorem replTo_yes {f : Int → Option Int} {l : List Int} {k : Nat} {y : Int} (hy : l.getD k 0 = y) (h0 : 0 ≤ y) (h1 : y < 64) : replTo f l (k + 1) = replTo f l k ++ [followI f y] := by rw [replTo, hy, if_pos ⟨h0, h1⟩]
theorem replTo_no {f : Int → Option Int} {l : List Int} {k : Nat} {y : Int} (hy : l.getD k 0 = y) (h : ¬ (0 ≤ y ∧ y < 64)) : replTo f l (k + 1) = replTo f l k := by rw [replTo, hy, if_neg h]
def replI (f : Int → Option Int) (l : List Int) : List Int := joinI (replTo f l l.length) []

set_option maxHeartbeats 1000000 in
theorem refReplace_any {P : Nat → Prop} {v u : Value} {hs : List (Int × Int)} {l : List Int} (w : World) (hu : Ints w u l) (hv : Sl heirRep P w v hs) (hm : hs.length ≤ 1000000) (hl : l.length ≤ 1000000) :
    Calls Try.prog 23 #[u, v] w fun e w' => ∃ ro rc, e = .returned (.slice ro (replI (heirI hs) l).length rc) ∧ OwnI w' w.heap.size ro rc (replI (heirI hs) l) ∧ Ex w.heap.size none w w' := by
  have hv0 := hv
  obtain ⟨ho, hcap, rfl, hx⟩ := hv
  obtain ⟨ao, cap, rfl, hli⟩ := hu
  clear hx
  go_enter Try.func23, Try.ntmps23
  go_wp2
  go_loopw [5, 6] (fun v i wr => ∃ (k : Nat) (ro : Option Addr) (rc : Nat), k ≤ l.length ∧ i = .int .i64 k ∧ v = .slice ro (replTo (heirI hs) l k).length rc ∧ OwnI wr w.heap.size ro rc (replTo (heirI hs) l k) ∧ Ex w.heap.size none w wr) (fun _ i _ => l.length - (intOf i).toNat)
  case atStart => exact ⟨0, none, 0, by omega, rfl, rfl, OwnI.nil _ _, Ex.refl _ _ _⟩
  case round =>
    obtain ⟨k, ro, rc, hk, rfl, rfl, hown, hex⟩ := hrel
    have hle := replTo_le (heirI hs) l k
    have hsz := hex.size
    have hx1 := hli.keep hex (Nat.le_refl _) (by simp)
    have fv := hv0.keep (by decide) (fun b _ hb => hex.block b hb (by simp))
    by_cases hlt : k < l.length
    · obtain ⟨b, off, y, rfl, hck, HY⟩ := hx1.get k hlt
      by_cases h0 : 0 ≤ y
      · by_cases h1 : y < 64
        · have HK := Lib.hid (replTo_yes (f := heirI hs) HY.out h0 h1)
          have d0 : decide ((0 : Int) ≤ y) = true := decide_eq_true h0
          have d1 : decide (y < 64) = true := decide_eq_true h1
          go_wp2_with (first
            | (go_at_call 20; refine (refFollow_any _ _ fv hm).mono ?_; rintro e w2 ⟨rfl, hex2⟩; have hsz2 := hex2.size; have hown2 := hown.keep hex2 (Nat.le_refl _) (by simp))
            | (at_builtin; refine wpList_appI (w0 := w2) rfl _ _ _ rfl Try.underlying25 Try.infoInt w.heap.size ro rc _ w2.heap.size (followI (heirI hs) y) rfl rfl hown2 (Ex.new _ _) (by go_simp) (by omega) (by omega) ?_; intro ro' rc' w1 hown1 hex1))
          go_roundw
          case rel => exact ⟨k + 1, ro', rc', by omega, by go_num, by rw [HK.out, List.length_append]; rfl, by rw [HK.out]; exact hown1, (hex.trans hex2 (by omega) (by simp)).trans hex1 (Nat.le_refl _) (by simp)⟩
          case measure => simp [intOf] <;> omega
        · have HK := Lib.hid (replTo_no (f := heirI hs) HY.out (fun h => h1 h.2))
          have d0 : decide ((0 : Int) ≤ y) = true := decide_eq_true h0
          have d1 : decide (y < 64) = false := decide_eq_false h1
          go_wp2_with fail
          go_roundw
          case rel => exact ⟨k + 1, ro, rc, by omega, by go_num, by rw [HK.out], by rw [HK.out]; exact hown, hex⟩
          case measure => simp [intOf] <;> omega
      · have HK := Lib.hid (replTo_no (f := heirI hs) HY.out (fun h => h0 h.1))
        have d0 : decide ((0 : Int) ≤ y) = false := decide_eq_false h0
        go_wp2_with fail
        go_roundw
        case rel => exact ⟨k + 1, ro, rc, by omega, by go_num, by rw [HK.out], by rw [HK.out]; exact hown, hex⟩
        case measure => simp [intOf] <;> omega
    · obtain rfl : k = l.length := by omega
      go_wp2_with (go_at_call 52; refine (join_any _ _ _ _ _ hown.v (Ints.nil _) (by omega) (by simp)).mono ?_; rintro e w2 ⟨so, sc, rfl, hown2, hex2⟩)
      go_ret
      exact ⟨so, sc, rfl, ⟨hown2.1, by
        rcases hown2.2 with h | ⟨g, c, cur, a1, a2, a3⟩
        · exact Or.inl h
        · exact Or.inr ⟨g, c, cur, a1, by omega, a3⟩⟩, hex.trans hex2 hsz (by simp)⟩
end Go.Proofs.Ytagciffmacolfaa
