/- ref03.in, key, PinsOK, numbers, Check: contracts, no statement of the seat. -/
import Derived.Test.YtfllcohnfboccaaGreatMg05
import Derived.Test.YtfllcohnfboccaaGreatOnlyG
import Derived.Outline
namespace Go.Proofs.YtfllcohnfboccaaGreat
open Go.RowKit Go.Sort

def inB (x most : Int) : Bool := decide (0 ≤ x) && decide (x ≤ most)
def keyB (x : Int) : Bool := decide (0 ≤ x) && decide (x < 64)
theorem inB_iff {x m : Int} : inB x m = true ↔ 0 ≤ x ∧ x ≤ m := by simp [inB]
theorem keyB_iff {x : Int} : keyB x = true ↔ 0 ≤ x ∧ x < 64 := by simp [keyB]
/-- A pin among pins. -/
def pinAt (l : List PinD) (i : Nat) : Bool :=
  match l[i]? with
  | none => true
  | some p => keyB p.1 && (decide (i = 0) || decide ((l[i - 1]?.getD p).1 < p.1)) && decide (1 ≤ p.2.1) && decide (p.2.1 ≤ 200) && decide (p.2.2.size = 32)
def pinsTo (l : List PinD) (k : Nat) : Bool := (List.range k).all (pinAt l)
def pinsB (l : List PinD) : Bool := pinsTo l l.length
theorem pinsTo_succ (l : List PinD) (k : Nat) : pinsTo l (k + 1) = (pinsTo l k && pinAt l k) := by simp [pinsTo, List.range_succ]
theorem pinsTo_no {l : List PinD} {k : Nat} (hk : k < l.length) (h : pinAt l k = false) : pinsB l = false := by
  unfold pinsB pinsTo
  rw [List.all_eq_false]
  exact ⟨k, by simpa using hk, by simp [h]⟩
def M40 : Int := 1099511627776
def kindB (s : St) : Bool :=
  if s.kind = 1 then keyB s.a && decide (s.a ≠ s.author) && decide (1 ≤ s.b) && decide (s.b ≤ 3) && decide (s.time ≤ s.c) && decide (s.c ≤ 2147483648)
  else if s.kind = 2 then inB s.a 199 && decide (s.b = 0) && decide (s.c = 0)
  else if s.kind = 3 then decide (s.a = 0) && decide (s.b = 0) && decide (s.c = 0)
  else true
def numB (s : St) : Bool := inB s.number 199 && inB s.a M40 && inB s.b M40 && inB s.c M40 && s.list.all (fun x => inB x M40) && kindB s
def checkI (s : St) : Int :=
  if keyB s.author = false then 4
  else if s.kind < 1 ∨ (3 < s.kind ∧ s.kind < 10) ∨ 31 < s.kind then 5
  else if inB s.time 2147483648 = false then 9
  else if numB s = false then 2
  else if 64 < s.list.length ∨ 64 < s.pins.length ∨ 4096 < s.body.size then 3
  else if (s.number = 0 ∧ s.prev ≠ ⟨#[]⟩) ∨ (0 < s.number ∧ s.prev.size ≠ 32) ∨ pinsB s.pins = false then 1
  else if s.kind ≤ 3 ∧ (0 < s.list.length ∨ 0 < s.pins.length ∨ s.body ≠ ⟨#[]⟩) then 1
  else 0

set_option maxHeartbeats 400000 in
theorem in03_any (x m : Int) (w : World) : Calls Tryz.prog 135 #[.int .i64 x, .int .i64 m] w fun e w' => e = .returned (.bool (inB x m)) ∧ w = w' := by
  by_cases h1 : 0 ≤ x
  · have HK : Hid (inB x m = decide (x ≤ m)) := (show _ = _ by simp [inB, h1])
    go_enter Tryz.func135, Tryz.ntmps135
    go_wp2
    go_ret
    exact ⟨by rw [HK.out]; rfl, rfl⟩
  · have hd : decide (0 ≤ x) = false := decide_eq_false h1
    have HK : Hid (inB x m = false) := (show _ = _ by simp [inB, h1])
    go_enter Tryz.func135, Tryz.ntmps135
    go_wp2
    go_ret
    exact ⟨by rw [HK.out]; rfl, rfl⟩
set_option maxHeartbeats 400000 in
theorem key03_any (x : Int) (w : World) : Calls Tryz.prog 134 #[.int .i64 x] w fun e w' => e = .returned (.bool (keyB x)) ∧ w = w' := by
  by_cases h1 : 0 ≤ x
  · have HK : Hid (keyB x = decide (x < 64)) := (show _ = _ by simp [keyB, h1])
    go_enter Tryz.func134, Tryz.ntmps134
    go_wp2
    go_ret
    exact ⟨by rw [HK.out]; rfl, rfl⟩
  · have hd : decide (0 ≤ x) = false := decide_eq_false h1
    have HK : Hid (keyB x = false) := (show _ = _ by simp [keyB, h1])
    go_enter Tryz.func134, Tryz.ntmps134
    go_wp2
    go_ret
    exact ⟨by rw [HK.out]; rfl, rfl⟩
end Go.Proofs.YtfllcohnfboccaaGreat
