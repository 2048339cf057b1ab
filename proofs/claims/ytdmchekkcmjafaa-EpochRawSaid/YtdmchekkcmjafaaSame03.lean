/- ref03.SameInts, SamePins: contracts, no statement of the seat. -/
import Derived.Test.YtdmchekkcmjafaaStm
import Derived.Test.YtdmchekkcmjafaaPlain
namespace Go.Proofs.Ytdmchekkcmjafaa
open Go.RowKit Go.Sort

theorem same_take3 {xs ys : List Int} {k : Nat} (h : xs.take k = ys.take k) (h1 : k < xs.length) (h2 : k < ys.length) (he : xs.getD k 0 = ys.getD k 0) : xs.take (k + 1) = ys.take (k + 1) := by
  rw [take_snoc xs k h1, take_snoc ys k h2, h, he]
theorem same_takeG {α : Type} {xs ys : List α} {k : Nat} {x y : α} (h : xs.take k = ys.take k) (h1 : xs[k]? = some x) (h2 : ys[k]? = some y) (he : x = y) : xs.take (k + 1) = ys.take (k + 1) := by
  rw [List.take_add_one, List.take_add_one, h, h1, h2, he]

set_option maxHeartbeats 400000 in
theorem same03Ints_any (v1 v2 : Value) (xs ys : List Int) (w : World) (hv1 : Ints w v1 xs) (hv2 : Ints w v2 ys) (hm : xs.length ≤ 9223372036854775807) :
    Calls Try.prog 44 #[v1, v2] w fun e w' => e = .returned (.bool (decide (xs = ys))) ∧ Ex w.heap.size none w w' := by
  obtain ⟨ao, cap, rfl, hx⟩ := hv1
  obtain ⟨bo, cbp, rfl, hy⟩ := hv2
  by_cases hl : xs.length = ys.length
  · have hl1 : ((xs.length : Int) != ys.length) = false := by simp [hl]
    have HL := Lib.hid hl
    go_enter Try.func44, Try.ntmps44
    clear hl
    go_wp2
    clear hl1
    go_loopw [5] (fun i wr => ∃ k : Nat, k ≤ xs.length ∧ i = .int .i64 k ∧ xs.take k = ys.take k ∧ ∃ n, w.drewN n = wr) (fun i _ => xs.length - (intOf i).toNat)
    case atStart => exact ⟨0, Nat.zero_le _, rfl, by simp, 0, rfl⟩
    case round =>
      obtain ⟨k, hk, rfl, ht, n, rfl⟩ := hrel
      have HT := Lib.hid ht
      clear ht
      by_cases hlt : k < xs.length
      · have hlt2 : k < ys.length := by have := HL.out; omega
        obtain ⟨b, off, y, rfl, hck, HY⟩ := hx.get k hlt
        obtain ⟨b', off', z, rfl, hcz, HZ⟩ := hy.get k hlt2
        by_cases he : y = z
        · have hb : (y != z) = false := by simpa using he
          have HR := Lib.hid (same_take3 HT.out hlt hlt2 (by rw [HY.out, HZ.out, he]))
          clear he
          go_wp2
          go_quiet (fail)
          go_wp2
          go_roundw
          case rel => exact ⟨k + 1, by omega, by go_num, HR.out, _, rfl⟩
          case measure => simp [intOf]; omega
        · have hb : (y != z) = true := by simpa using he
          have HR : Hid (xs ≠ ys) := fun h => he (by rw [← HY.out, ← HZ.out, h])
          clear he
          go_wp2
          go_quiet (fail)
          go_wp2
          go_ret
          exact ⟨ret_bool (by simp [HR.out]), by repeat (first | exact Ex.refl _ _ _ | refine Ex.drewN ?_)⟩
      · have HR : Hid (xs = ys) := by
          have h := HT.out
          have := HL.out
          rwa [List.take_of_length_le (by omega), List.take_of_length_le (by omega)] at h
        go_wp2
        go_ret
        exact ⟨ret_bool (by simp [HR.out]), by repeat (first | exact Ex.refl _ _ _ | refine Ex.drewN ?_)⟩
  · have hl1 : ((xs.length : Int) != ys.length) = true := by simp; omega
    have HR : Hid (xs ≠ ys) := fun h => hl (by rw [h])
    clear hl
    go_enter Try.func44, Try.ntmps44
    go_wp2
    go_ret
    exact ⟨ret_bool (by simp [HR.out]), Ex.refl _ _ _⟩

theorem bytes_inj {a b : ByteArray} : a.toList = b.toList ↔ a = b := by
  constructor
  · intro h
    rw [ByteArray.toList_eq, ByteArray.toList_eq] at h
    obtain ⟨⟨x⟩⟩ := a
    obtain ⟨⟨y⟩⟩ := b
    simp at h; subst h; rfl
  · rintro rfl; rfl
theorem pins_neq (y z : PinD) : ∀ w, (binOp .neq 66 (.agg (pinE y).toArray) (.agg (pinE z).toArray)).run Try.prog w = .ok (.bool (!decide (y = z))) w := fun w => by
  obtain ⟨y1, y2, y3⟩ := y
  obtain ⟨z1, z2, z3⟩ := z
  simp [pinE, go_sem, bytes_inj]
  by_cases h1 : y1 = z1 <;> by_cases h2 : y2 = z2 <;> by_cases h3 : y3 = z3 <;> simp [h1, h2, h3]

set_option maxHeartbeats 400000 in
theorem same03Pins_any {P Q : Nat → Prop} (v1 v2 : Value) (xs ys : List PinD) (w : World) (hv1 : Sl pinRep P w v1 xs) (hv2 : Sl pinRep Q w v2 ys) (hm : xs.length ≤ 9223372036854775807) :
    Calls Try.prog 45 #[v1, v2] w fun e w' => e = .returned (.bool (decide (xs = ys))) ∧ Ex w.heap.size none w w' := by
  obtain ⟨ao, cap, rfl, hx⟩ := hv1
  obtain ⟨bo, cbp, rfl, hy⟩ := hv2
  by_cases hl : xs.length = ys.length
  · have hl1 : ((xs.length : Int) != ys.length) = false := by simp [hl]
    have HL := Lib.hid hl
    go_enter Try.func45, Try.ntmps45
    clear hl
    go_wp2
    clear hl1
    go_loopw [5] (fun i wr => ∃ k : Nat, k ≤ xs.length ∧ i = .int .i64 k ∧ xs.take k = ys.take k ∧ ∃ n, w.drewN n = wr) (fun i _ => xs.length - (intOf i).toNat)
    case atStart => exact ⟨0, Nat.zero_le _, rfl, by simp, 0, rfl⟩
    case round =>
      obtain ⟨k, hk, rfl, ht, n, rfl⟩ := hrel
      have HT := Lib.hid ht
      clear ht
      by_cases hlt : k < xs.length
      · have hlt2 : k < ys.length := by have := HL.out; omega
        obtain ⟨b, off, cs, y, rfl, _, hr, hR, HY⟩ := hx.get k hlt
        obtain ⟨b', off', cs', z, rfl, _, hr', hR', HZ⟩ := hy.get k hlt2
        have c0 : ∀ q, (w.drewN q).cell? ⟨b, off + k * 3, none⟩ = some (.int .i64 y.1) := fun q => hr 0 _ (by rw [show cs = _ from hR]; rfl)
        have c1 : ∀ q, (w.drewN q).cell? ⟨b, off + k * 3 + 1, none⟩ = some (.int .i64 y.2.1) := fun q => hr 1 _ (by rw [show cs = _ from hR]; rfl)
        have c2 : ∀ q, (w.drewN q).cell? ⟨b, off + k * 3 + 2, none⟩ = some (.string y.2.2) := fun q => hr 2 _ (by rw [show cs = _ from hR]; rfl)
        have d0 : ∀ q, (w.drewN q).cell? ⟨b', off' + k * 3, none⟩ = some (.int .i64 z.1) := fun q => hr' 0 _ (by rw [show cs' = _ from hR']; rfl)
        have d1 : ∀ q, (w.drewN q).cell? ⟨b', off' + k * 3 + 1, none⟩ = some (.int .i64 z.2.1) := fun q => hr' 1 _ (by rw [show cs' = _ from hR']; rfl)
        have d2 : ∀ q, (w.drewN q).cell? ⟨b', off' + k * 3 + 2, none⟩ = some (.string z.2.2) := fun q => hr' 2 _ (by rw [show cs' = _ from hR']; rfl)
        have hne := pins_neq y z
        clear hr hR hr' hR'
        by_cases he : y = z
        · have HR := Lib.hid (same_takeG HT.out HY.out HZ.out he)
          have hne' : ∀ w, (binOp .neq 66 (.agg #[.int .i64 y.1, .int .i64 y.2.1, .string y.2.2]) (.agg #[.int .i64 z.1, .int .i64 z.2.1, .string z.2.2])).run Try.prog w = .ok (.bool false) w := fun w => by
            have := hne w; rw [decide_eq_true he] at this; exact this
          clear hne he
          go_wp2_with fail
          go_quiet (fail)
          go_wp2
          go_roundw
          case rel => exact ⟨k + 1, by omega, by go_num, HR.out, _, rfl⟩
          case measure => simp [intOf]; omega
        · have HR : Hid (xs ≠ ys) := fun h => he (by have := HY.out; rw [h, HZ.out] at this; cases this; rfl)
          have hne' : ∀ w, (binOp .neq 66 (.agg #[.int .i64 y.1, .int .i64 y.2.1, .string y.2.2]) (.agg #[.int .i64 z.1, .int .i64 z.2.1, .string z.2.2])).run Try.prog w = .ok (.bool true) w := fun w => by
            have := hne w; rw [decide_eq_false he] at this; exact this
          clear hne he
          go_wp2_with fail
          go_quiet (fail)
          go_wp2
          go_ret
          exact ⟨ret_bool (by simp [HR.out]), by repeat (first | exact Ex.refl _ _ _ | refine Ex.drewN ?_)⟩
      · have HR : Hid (xs = ys) := by
          have h := HT.out
          have := HL.out
          rwa [List.take_of_length_le (by omega), List.take_of_length_le (by omega)] at h
        go_wp2
        go_ret
        exact ⟨ret_bool (by simp [HR.out]), by repeat (first | exact Ex.refl _ _ _ | refine Ex.drewN ?_)⟩
  · have hl1 : ((xs.length : Int) != ys.length) = true := by simp; omega
    have HR : Hid (xs ≠ ys) := fun h => hl (by rw [h])
    clear hl
    go_enter Try.func45, Try.ntmps45
    go_wp2
    go_ret
    exact ⟨ret_bool (by simp [HR.out]), Ex.refl _ _ _⟩
end Go.Proofs.Ytdmchekkcmjafaa
