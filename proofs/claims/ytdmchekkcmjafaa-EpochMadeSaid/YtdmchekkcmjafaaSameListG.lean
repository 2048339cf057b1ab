/- ref03.SameList: a contract, no statement of the seat. -/
import Derived.Test.YtdmchekkcmjafaaSameG
import Derived.Test.YtdmchekkcmjafaaMg03
namespace Go.Proofs.Ytdmchekkcmjafaa
open Go.RowKit Go.Sort

/-- All statements of a list have lists of no more than so many elements. -/
def LightL (m : Nat) (l : List St) : Prop := ∀ s ∈ l, s.list.length ≤ m ∧ s.pins.length ≤ m
theorem LightL.get {m : Nat} {l : List St} (h : LightL m l) {i : Nat} {s : St} (hi : l[i]? = some s) : s.list.length ≤ m ∧ s.pins.length ≤ m := h s (List.mem_of_getElem? hi)
/-- A statement of a slice: its cells. -/
theorem st_get {P : Nat → Prop} {w : World} {ao : Option Addr} {xs : List St} (h : SlAt stRep P w ao xs) (i : Nat) (hi : i < xs.length) : ∃ b off s l p, ao = some ⟨b, off, none⟩ ∧ P b ∧ Lies P w (s, l, p) ∧ w.rangeAt b (off + i * 13) (stE (s, l, p)) ∧ Hid (xs[i]? = some s) := by
  obtain ⟨b, off, cs, s, e, hp, hr, ⟨l, p, rfl, hl⟩, hx⟩ := h.get i hi
  exact ⟨b, off, s, l, p, e, hp, hl, hr, hx⟩

set_option maxHeartbeats 2000000 in
set_option maxRecDepth 100000 in
theorem sameList_any {P Q : Nat → Prop} (v1 v2 : Value) (xs ys : List St) (w : World) (hv1 : Sl stRep P w v1 xs) (hv2 : Sl stRep Q w v2 ys) (hm : xs.length ≤ 1000000) (hl : LightL 1000000 xs) :
    Calls Try.prog 10 #[v1, v2] w fun e w' => ∃ b, e = .returned (.bool b) ∧ Hid (b = true ↔ xs = ys) ∧ Ex w.heap.size none w w' := by
  obtain ⟨ao, cap, rfl, hx⟩ := hv1
  obtain ⟨bo, cbp, rfl, hy⟩ := hv2
  have HLL := Lib.hid hl
  clear hl
  by_cases hl : xs.length = ys.length
  · have hl1 : ((xs.length : Int) != ys.length) = false := by simp [hl]
    have HL := Lib.hid hl
    go_enter Try.func10, Try.ntmps10
    clear hl
    go_wp2
    clear hl1
    go_loopw [5] (fun i wr => ∃ k : Nat, k ≤ xs.length ∧ i = .int .i64 k ∧ Hid (xs.take k = ys.take k) ∧ Ex w.heap.size none w wr) (fun i _ => xs.length - (intOf i).toNat)
    case atStart => exact ⟨0, Nat.zero_le _, rfl, (show _ = _ by simp), Ex.refl _ _ _⟩
    case round =>
      obtain ⟨k, hk, rfl, HT, hex⟩ := hrel
      have hsz := hex.size
      by_cases hlt : k < xs.length
      · have hlt2 : k < ys.length := by have := HL.out; omega
        have fx := hx.keep (by decide) (fun b _ hb => hex.block b hb (by simp))
        have fy := hy.keep (by decide) (fun b _ hb => hex.block b hb (by simp))
        obtain ⟨b, off, s, l, p, rfl, _, hls, hr, HX⟩ := st_get fx k hlt
        obtain ⟨b', off', s', l', p', rfl, _, hls', hr', HY⟩ := st_get fy k hlt2
        have hm1 := HLL.out.get HX.out
        have hq1 := ExW.st_at hr
        have hq2 := ExW.st_at hr'
        have hsame := fun p0 : ExW wr => same_any (s, l, p) (s', l', p') p0.w' (p0.lies hls) (p0.lies hls') (by simp only; omega) (by simp only; omega)
        clear fx fy hr hr' hls hls'
        by_cases he : s = s'
        · have hss : sameS s s' = true := sameS_iff.2 he
          have HR := Lib.hid (same_takeG HT.out HX.out HY.out he)
          simp only [hss] at hsame
          clear he
          have HSM := Lib.hid hsame
          clear hsame
          go_wp2_with fail
          refine wp_region_quiet_ex (by kernel_rfl) (by kernel_rfl) ?_
          repeat (quiet_step ((go_at_call 25; refine calls_ex_of (HSM.out _))))
          refine wpQuiet_nil ?_
          intro _ hw'
          obtain ⟨p9, hw''⟩ := hw'
          subst hw''
          go_wp2
          go_roundw
          case rel => exact ⟨k + 1, by omega, by go_num, HR, hex.trans p9.ex hsz (by simp)⟩
          case measure => simp [intOf]; omega
        · have hss : sameS s s' = false := by rw [Bool.eq_false_iff]; intro h; exact he (sameS_iff.1 h)
          have HR : Hid (xs ≠ ys) := fun h => he (by have := HX.out; rw [h, HY.out] at this; cases this; rfl)
          simp only [hss] at hsame
          clear he
          have HSM := Lib.hid hsame
          clear hsame
          go_wp2_with fail
          refine wp_region_quiet_ex (by kernel_rfl) (by kernel_rfl) ?_
          repeat (quiet_step ((go_at_call 25; refine calls_ex_of (HSM.out _))))
          refine wpQuiet_nil ?_
          intro _ hw'
          obtain ⟨p9, hw''⟩ := hw'
          subst hw''
          go_wp2
          go_ret
          exact ⟨false, rfl, (by simp [HR.out] : _ ↔ _), hex.trans p9.ex hsz (by simp)⟩
      · have HR : Hid (xs = ys) := by
          have h := HT.out
          have := HL.out
          rwa [List.take_of_length_le (by omega), List.take_of_length_le (by omega)] at h
        go_wp2
        go_ret
        exact ⟨true, rfl, (by simp [HR.out] : _ ↔ _), hex⟩
  · have hl1 : ((xs.length : Int) != ys.length) = true := by simp; omega
    have HR : Hid (xs ≠ ys) := fun h => hl (by rw [h])
    clear hl
    go_enter Try.func10, Try.ntmps10
    go_wp2
    go_ret
    exact ⟨false, rfl, (by simp [HR.out] : _ ↔ _), Ex.refl _ _ _⟩
end Go.Proofs.Ytdmchekkcmjafaa
