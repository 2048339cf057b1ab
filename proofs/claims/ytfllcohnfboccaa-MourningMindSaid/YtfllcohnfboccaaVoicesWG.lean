/- mourning.Voices at statements of losses that are right. No statement of the seat. -/
import Derived.Test.YtfllcohnfboccaaLossesG
import Derived.Test.YtfllcohnfboccaaMg05
namespace Go.Proofs.Ytfllcohnfboccaa
open Go.RowKit Go.Maps Go.Sort

set_option maxHeartbeats 2000000 in
theorem voicesW_any {P : Nat → Prop} (v : Value) (l : List St) (lost next : Int) (w : World) (hv : Sl stRep P w v l) (hm : l.length ≤ 10000) (hlost : 0 ≤ lost ∧ lost < 64) (hok : ∀ s ∈ l, LossOK s ∧ sealedB s = true ∧ Tame s ∧ s.a = lost) :
    Calls Try.prog 14 #[v, .int .i64 lost, .int .i64 next] w fun e w' => ∃ (ro : Option Addr) (rc n : Nat), e = .returned (.slice ro n rc) ∧ (voicesL (votes l) next 64).length = n ∧ OwnE iE 1 3 w' w.heap.size ro rc (voicesL (votes l) next 64) ∧ Ex w.heap.size none w w' := by
  have HV := Lib.hid hv
  have HOK := Lib.hid hok
  have HVO : Hid (∀ p ∈ votes l, 0 ≤ p.1 ∧ p.1 < 64) := Lib.hid (fun p hp => by
    obtain ⟨s, hs, rfl⟩ := List.mem_map.1 hp
    have := (HOK.out s hs).1.author
    exact ⟨this.1, by show s.author < 64; omega⟩)
  clear hv hok
  go_enter Try.func14, Try.ntmps14
  go_wp2_with fail
  refine (losses_any v l lost w HV.out hm HOK.out).mono ?_
  rintro e w1 ⟨g, rfl, hmp, hex⟩
  have HM := Lib.hid hmp
  have HE := Lib.hid hex
  have hz := hex.size
  clear hmp hex
  go_wp2_with fail
  refine (voices_any g l.length (votes l) lost next w1 HM.out HVO.out hlost).mono ?_
  rintro e w2 ⟨ro, rc, n, rfl, hn, hown, hex2⟩
  go_wp2
  go_ret
  exact ⟨ro, rc, n, rfl, hn, hown.lowerE hz, HE.out.trans hex2 hz (by simp)⟩
end Go.Proofs.Ytfllcohnfboccaa
