/- Heirs as data; ref35.heir, Follow: contracts, no statement of the seat. -/
import Derived.Test.YtagciffmacolfaaRows
import Derived.Test.YtagciffmacolfaaRep
import Derived.Test.YtagciffmacolfaaJoin
namespace Go.Proofs.Ytagciffmacolfaa
open Go.RowKit

def heirRep : Rep (Int × Int) where
  k := 2
  R := fun _ _ cs x => cs = [.int .i64 x.1, .int .i64 x.2]
  len := fun h => by subst h; rfl
  one := fun h => by subst h; intro v hv; simp at hv; rcases hv with rfl | rfl <;> rfl
  keep := fun h _ => h
  mono := fun h _ => h

def heirI (hs : List (Int × Int)) (k : Int) : Option Int := (hs.find? (fun x => x.1 == k)).map (·.2)
theorem heirI_take {hs : List (Int × Int)} {k : Int} {i : Nat} {x : Int × Int} (h : heirI (hs.take i) k = none) (hx : hs[i]? = some x) : heirI hs k = if x.1 = k then some x.2 else heirI hs k := by
  split
  · rename_i e
    unfold heirI at *
    obtain ⟨hl, he⟩ := List.getElem?_eq_some_iff.1 hx
    rw [← List.take_append_drop i hs, List.find?_append]
    simp only [Option.map_eq_none_iff] at h
    rw [h, List.drop_eq_getElem_cons hl, he]
    simp [e]
  · rfl
theorem heirI_hit {hs : List (Int × Int)} {k : Int} {i : Nat} {x : Int × Int} (h : heirI (hs.take i) k = none) (hx : hs[i]? = some x) (e : x.1 = k) : heirI hs k = some x.2 := by
  rw [heirI_take h hx, if_pos e]
theorem heirI_miss {hs : List (Int × Int)} {k : Int} {i : Nat} {x : Int × Int} (h : heirI (hs.take i) k = none) (hx : hs[i]? = some x) (e : ¬ x.1 = k) : heirI (hs.take (i + 1)) k = none := by
  unfold heirI at *
  obtain ⟨hl, he⟩ := List.getElem?_eq_some_iff.1 hx
  rw [List.take_add_one, List.find?_append]
  simp only [Option.map_eq_none_iff] at h
  rw [h, hx]; simp [e]

set_option maxHeartbeats 400000 in
theorem refHeir_any {P : Nat → Prop} {v : Value} {hs : List (Int × Int)} (k : Int) (w : World) (hv : Sl heirRep P w v hs) (hm : hs.length ≤ 1000000) :
    Calls Try.prog 48 #[v, .int .i64 k] w fun e w' => e = .returned (.tuple #[.int .i64 ((heirI hs k).getD 0), .bool (heirI hs k).isSome]) ∧ w = w' := by
  obtain ⟨ao, cap, rfl, hx⟩ := hv
  go_enter Try.func48, Try.ntmps48
  go_wp2
  go_loop [6] (fun i => ∃ k' : Nat, k' ≤ hs.length ∧ i = .int .i64 k' ∧ heirI (hs.take k') k = none) (fun i => hs.length - (intOf i).toNat)
  case atStart => exact ⟨0, Nat.zero_le _, rfl, rfl⟩
  case round =>
    obtain ⟨i, hi, rfl, hno⟩ := hrel
    have HN := Lib.hid hno
    clear hno
    by_cases hlt : i < hs.length
    · obtain ⟨b, off, cs, x, rfl, _, hr, hR, HX⟩ := hx.get i hlt
      have c0 : w.cell? ⟨b, off + i * 2, none⟩ = some (.int .i64 x.1) := hr 0 _ (by rw [show cs = _ from hR]; rfl)
      have c1 : w.cell? ⟨b, off + i * 2 + 1, none⟩ = some (.int .i64 x.2) := hr 1 _ (by rw [show cs = _ from hR]; rfl)
      clear hr hR
      by_cases he : x.1 = k
      · have hb : (x.1 == k) = true := by simpa using he
        have HR := Lib.hid (heirI_hit HN.out HX.out he)
        clear he
        go_wp2
        go_ret2
        exact ⟨by rw [HR.out]; rfl, rfl⟩
      · have hb : (x.1 == k) = false := by simpa using he
        have HR := Lib.hid (heirI_miss HN.out HX.out he)
        clear he
        go_wp2
        go_round
        case rel => exact ⟨i + 1, by omega, by go_num, HR.out⟩
        case measure => simp [intOf] <;> omega
    · have HR : Hid (heirI hs k = none) := by
        have h := HN.out
        rwa [List.take_of_length_le (by omega)] at h
      go_wp2
      go_ret2
      exact ⟨by rw [HR.out]; rfl, rfl⟩
end Go.Proofs.Ytagciffmacolfaa
