/- ref09.Latest: a contract, no statement of the seat. -/
import Derived.Test.YtdmchekkcmjafaaOwnS
namespace Go.Proofs.Ytdmchekkcmjafaa
open Go.RowKit Go.Sort

/-- The greatest time so far. -/
def lateO (l : List St) : Option Int := l.foldl (fun o s => some (match o with | none => s.time | some m => if m < s.time then s.time else m)) none
def latestI (l : List St) : Int := (lateO l).getD (-1)
theorem lateO_snoc {l : List St} {k : Nat} {s : St} (h : l[k]? = some s) : lateO (l.take (k + 1)) = some (match lateO (l.take k) with | none => s.time | some m => if m < s.time then s.time else m) := by
  unfold lateO
  rw [List.take_add_one, h, List.foldl_append]
  rfl
theorem lateO_some {l : List St} {k : Nat} (hk : 0 < k) (hl : k ≤ l.length) : ∃ m, lateO (l.take k) = some m := by
  obtain ⟨k, rfl⟩ : ∃ j, k = j + 1 := ⟨k - 1, by omega⟩
  exact ⟨_, lateO_snoc (List.getElem?_eq_getElem (by omega))⟩
theorem latestI_yes {l : List St} {k : Nat} {s : St} (h : l[k]? = some s) (hk : k = 0 ∨ latestI (l.take k) < s.time) : latestI (l.take (k + 1)) = s.time := by
  rcases Nat.eq_zero_or_pos k with h0 | h0
  · subst h0; unfold latestI; rw [lateO_snoc h]; simp [lateO]
  · obtain ⟨m, hm⟩ := lateO_some h0 (Nat.le_of_lt (List.getElem?_eq_some_iff.1 h).1)
    unfold latestI at hk ⊢
    rw [lateO_snoc h, hm]
    rw [hm] at hk
    simp only [Option.getD_some] at hk ⊢
    rw [if_pos (by omega)]
theorem latestI_no {l : List St} {k : Nat} {s : St} (h : l[k]? = some s) (h0 : 0 < k) (hk : ¬ latestI (l.take k) < s.time) : latestI (l.take (k + 1)) = latestI (l.take k) := by
  obtain ⟨m, hm⟩ := lateO_some h0 (Nat.le_of_lt (List.getElem?_eq_some_iff.1 h).1)
  unfold latestI at hk ⊢
  rw [lateO_snoc h, hm]
  rw [hm] at hk
  simp only [Option.getD_some] at hk ⊢
  rw [if_neg hk]

set_option maxHeartbeats 2000000 in
set_option maxRecDepth 100000 in
theorem refLatest_any {P : Nat → Prop} (v : Value) (l : List St) (w : World) (hv : Sl stRep P w v l) (hm : l.length ≤ 100000) :
    Calls Try.prog 18 #[v] w fun e w' => e = .returned (.int .i64 (latestI l)) ∧ w = w' := by
  obtain ⟨ao, cap, rfl, hx⟩ := hv
  go_enter Try.func18, Try.ntmps18
  go_wp2
  go_loopw [3, 4] (fun v i wr => ∃ (k : Nat), k ≤ l.length ∧ i = .int .i64 k ∧ v = .int .i64 (latestI (l.take k)) ∧ w = wr) (fun _ i _ => l.length - (intOf i).toNat)
  case atStart => exact ⟨0, by omega, rfl, rfl, rfl⟩
  case round =>
    obtain ⟨k, hk, rfl, rfl, rfl⟩ := hrel
    by_cases hlt : k < l.length
    · obtain ⟨b, off, s, ⟨lo, ln, lc⟩, ⟨po, pn, pc⟩, rfl, _, hls, hr, HX⟩ := st_get hx k hlt
      have hc := st_at hr
      simp only [Sv.v] at hc
      obtain ⟨c0, c1, c2, c3, c4, c5, c6, c7, c8, c9, c10, c11, c12⟩ := hc
      obtain ⟨m, hmm⟩ : ∃ m, m = latestI (l.take k) := ⟨_, rfl⟩
      have HM := Lib.hid hmm
      rw [← hmm]
      clear hr hls hmm c0 c1 c2 c4 c5 c6 c7 c8 c9 c10 c11 c12
      by_cases h0 : k = 0
      · have HK : Hid (latestI (l.take (k + 1)) = s.time) := latestI_yes HX.out (.inl h0)
        subst h0
        simp only [Nat.zero_mul, Nat.add_zero, Nat.zero_add] at c3 HK
        have hk1 : 1 ≤ l.length := hlt
        go_wp2
        go_roundw
        case rel => exact ⟨1, hk1, by go_num, by rw [HK.out], by trivial⟩
        case measure => simp [intOf] <;> omega
      · have d0 : decide ((k : Int) = 0) = false := decide_eq_false (by omega)
        by_cases hp : m < s.time
        · have HK : Hid (latestI (l.take (k + 1)) = s.time) := latestI_yes HX.out (.inr (by rw [← HM.out]; exact hp))
          have d1 : decide (m < s.time) = true := decide_eq_true hp
          go_wp2
          go_roundw
          case rel => exact ⟨k + 1, by omega, by go_num, by rw [HK.out], by trivial⟩
          case measure => simp [intOf] <;> omega
        · have HK : Hid (latestI (l.take (k + 1)) = latestI (l.take k)) := latestI_no HX.out (by omega) (by rw [← HM.out]; exact hp)
          have d1 : decide (m < s.time) = false := decide_eq_false hp
          go_wp2
          go_roundw
          case rel => exact ⟨k + 1, by omega, by go_num, by rw [HK.out, ← HM.out], by trivial⟩
          case measure => simp [intOf] <;> omega
    · obtain rfl : k = l.length := by omega
      rw [List.take_length]
      go_wp2
      go_ret
      exact ⟨rfl, rfl⟩
end Go.Proofs.Ytdmchekkcmjafaa
