/- mourning.Voices at whatever statements. No statement of the seat. -/
import Derived.Test.YtdgfankkapeclaaGreatLossesGG
import Derived.Test.YtdgfankkapeclaaGreatMg05
namespace Go.Proofs.YtdgfankkapeclaaGreat
open Go.RowKit Go.Maps Go.Sort

set_option maxHeartbeats 2000000 in
theorem voicesX_any {P : Nat → Prop} (v : Value) (l : List St) (lost next : Int) (w : World) (hv : Sl stRep P w v l) (hm : l.length ≤ 100000) (hL : LightL 9223372036854775807 l) (hlost : -9223372036854775808 ≤ lost ∧ lost ≤ 9223372036854775807) :
    Calls Tryz.prog 17 #[v, .int .i64 lost, .int .i64 next] w fun e w' => ∃ (ro : Option Addr) (rc n : Nat), e = .returned (.slice ro n rc) ∧ (voicesL (onLost (votesG l) lost) next 64).length = n ∧ OwnE iE 1 3 w' w.heap.size ro rc (voicesL (onLost (votesG l) lost) next 64) ∧ Ex w.heap.size none w w' := by
  have HV := Lib.hid hv
  have HL := Lib.hid hL
  have HKO := Lib.hid (votesG_ok l)
  clear hv hL
  go_enter Tryz.func17, Tryz.ntmps17
  go_wp2_with fail
  refine (lossesG_any v l w HV.out hm HL.out).mono ?_
  rintro e w1 ⟨g, rfl, m, hml, hmp, hex⟩
  have HM := Lib.hid hmp
  have HE := Lib.hid hex
  have hz := hex.size
  clear hmp hex
  go_wp2_with fail
  refine (voicesGW_any g m (votesG l) _ lost next w1 HM.out HKO.out rfl hlost).mono ?_
  rintro e w2 ⟨ro, rc, n, rfl, hn, hown, hex2⟩
  go_wp2
  go_ret
  exact ⟨ro, rc, n, rfl, hn, hown.lowerE hz, HE.out.trans hex2 hz (by simp)⟩
end Go.Proofs.YtdgfankkapeclaaGreat
