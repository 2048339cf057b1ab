/- ref03.in, key, PinsOK, numbers, Check: contracts, no statement of the seat. | ref03.PinsOK: a contract, no statement of the seat. | ref35.right, ref35.named: contracts, no statement of the seat. | ref35.named: a contract, no statement of the seat. | Empty and not empty texts: facts for walks. No statement of the seat. | guardian.key, Valid: contracts, no statement of the seat. | mourning.right at whatever heir: a contract, no statement of the seat. | guardian.Enough: a contract, no statement of the seat. -/
import Derived.Test.YtaghfcnpnfhacaaGreatMg04
import Derived.Test.YtaghfcnpnfhacaaGreatOnlyG
import Derived.Outline
import Derived.BigQuiet
import Derived.IntWalk
import Derived.Test.YtaghfcnpnfhacaaGreatMg00
import Derived.Test.YtaghfcnpnfhacaaGreatMg01
import Derived.Deep.LoopGhost
import Derived.WalkMore
namespace Go.Proofs.YtaghfcnpnfhacaaGreat
open Go.RowKit Go.Sort

def inB (x most : Int) : Bool := decide (0 ≤ x) && decide (x ≤ most)
def keyB (x : Int) : Bool := decide (0 ≤ x) && decide (x < 64)
theorem inB_iff {x m : Int} : inB x m = true ↔ 0 ≤ x ∧ x ≤ m := by simp [inB]
theorem keyB_iff {x : Int} : keyB x = true ↔ 0 ≤ x ∧ x < 64 := by simp [keyB]
/-- A pin among pins. -/
def pinAt (l : List PinD) (i : Nat) : Bool :=
  match l[i]? with
  | none => true
  | some p => keyB p.1 && (decide (i = 0) || decide ((l[i - 1]?.getD p).1 < p.1)) && decide (1 ≤ p.2.1) && decide (p.2.1 ≤ 200) && decide (p.2.2.size = 32)
def pinsTo (l : List PinD) (k : Nat) : Bool := (List.range k).all (pinAt l)
def pinsB (l : List PinD) : Bool := pinsTo l l.length
theorem pinsTo_succ (l : List PinD) (k : Nat) : pinsTo l (k + 1) = (pinsTo l k && pinAt l k) := by simp [pinsTo, List.range_succ]
theorem pinsTo_no {l : List PinD} {k : Nat} (hk : k < l.length) (h : pinAt l k = false) : pinsB l = false := by
  unfold pinsB pinsTo
  rw [List.all_eq_false]
  exact ⟨k, by simpa using hk, by simp [h]⟩
def M40 : Int := 1099511627776
def kindB (s : St) : Bool :=
  if s.kind = 1 then keyB s.a && decide (s.a ≠ s.author) && decide (1 ≤ s.b) && decide (s.b ≤ 3) && decide (s.time ≤ s.c) && decide (s.c ≤ 2147483648)
  else if s.kind = 2 then inB s.a 199 && decide (s.b = 0) && decide (s.c = 0)
  else if s.kind = 3 then decide (s.a = 0) && decide (s.b = 0) && decide (s.c = 0)
  else true
def numB (s : St) : Bool := inB s.number 199 && inB s.a M40 && inB s.b M40 && inB s.c M40 && s.list.all (fun x => inB x M40) && kindB s
def checkI (s : St) : Int :=
  if keyB s.author = false then 4
  else if s.kind < 1 ∨ (3 < s.kind ∧ s.kind < 10) ∨ 31 < s.kind then 5
  else if inB s.time 2147483648 = false then 9
  else if numB s = false then 2
  else if 64 < s.list.length ∨ 64 < s.pins.length ∨ 4096 < s.body.size then 3
  else if (s.number = 0 ∧ s.prev ≠ ⟨#[]⟩) ∨ (0 < s.number ∧ s.prev.size ≠ 32) ∨ pinsB s.pins = false then 1
  else if s.kind ≤ 3 ∧ (0 < s.list.length ∨ 0 < s.pins.length ∨ s.body ≠ ⟨#[]⟩) then 1
  else 0

set_option maxHeartbeats 400000 in
theorem in03_any (x m : Int) (w : World) : Calls Tryz.prog 224 #[.int .i64 x, .int .i64 m] w fun e w' => e = .returned (.bool (inB x m)) ∧ w = w' := by
  by_cases h1 : 0 ≤ x
  · have HK : Hid (inB x m = decide (x ≤ m)) := (show _ = _ by simp [inB, h1])
    go_enter Tryz.func224, Tryz.ntmps224
    go_wp2
    go_ret
    exact ⟨by rw [HK.out]; rfl, rfl⟩
  · have hd : decide (0 ≤ x) = false := decide_eq_false h1
    have HK : Hid (inB x m = false) := (show _ = _ by simp [inB, h1])
    go_enter Tryz.func224, Tryz.ntmps224
    go_wp2
    go_ret
    exact ⟨by rw [HK.out]; rfl, rfl⟩
set_option maxHeartbeats 400000 in
theorem key03_any (x : Int) (w : World) : Calls Tryz.prog 223 #[.int .i64 x] w fun e w' => e = .returned (.bool (keyB x)) ∧ w = w' := by
  by_cases h1 : 0 ≤ x
  · have HK : Hid (keyB x = decide (x < 64)) := (show _ = _ by simp [keyB, h1])
    go_enter Tryz.func223, Tryz.ntmps223
    go_wp2
    go_ret
    exact ⟨by rw [HK.out]; rfl, rfl⟩
  · have hd : decide (0 ≤ x) = false := decide_eq_false h1
    have HK : Hid (keyB x = false) := (show _ = _ by simp [keyB, h1])
    go_enter Tryz.func223, Tryz.ntmps223
    go_wp2
    go_ret
    exact ⟨by rw [HK.out]; rfl, rfl⟩
end Go.Proofs.YtaghfcnpnfhacaaGreat

namespace Go.Proofs.YtaghfcnpnfhacaaGreat
open Go.RowKit Go.Sort

/-- A pin of a slice: its cells. -/
theorem pin_get {P : Nat → Prop} {w : World} {ao : Option Addr} {xs : List PinD} (h : SlAt pinRep P w ao xs) (i : Nat) (hi : i < xs.length) : ∃ b off p, ao = some ⟨b, off, none⟩ ∧ P b ∧ b < w.heap.size ∧ w.cell? ⟨b, off + i * 3, none⟩ = some (.int .i64 p.1) ∧ w.cell? ⟨b, off + i * 3 + 1, none⟩ = some (.int .i64 p.2.1) ∧ w.cell? ⟨b, off + i * 3 + 2, none⟩ = some (.string p.2.2) ∧ Hid (xs[i]? = some p) := by
  obtain ⟨b, off, cs, e, hp, hr, hR⟩ := h i hi
  have hcs : cs = pinE xs[i] := hR
  subst hcs
  exact ⟨b, off, xs[i], e, hp, rangeAt_lt hr (by rw [pinE_len]; omega), hr 0 _ rfl, hr 1 _ rfl, hr 2 _ rfl, (show _ = _ by simp [hi])⟩

set_option maxHeartbeats 8000000 in
set_option maxRecDepth 100000 in
theorem pinsOK_any {P : Nat → Prop} (v : Value) (l : List PinD) (w : World) (hv : Sl pinRep P w v l) (hm : l.length ≤ 9223372036854775807) :
    Calls Tryz.prog 226 #[v] w fun e w' => e = .returned (.bool (pinsB l)) ∧ Ex w.heap.size none w w' := by
  obtain ⟨ao, cap, rfl, hx⟩ := hv
  have HX := Lib.hid hx
  clear hx
  go_enter Tryz.func226, Tryz.ntmps226
  go_wp2
  go_loopw [3] (fun i wr => ∃ k : Nat, k ≤ l.length ∧ i = .int .i64 k ∧ Hid (pinsTo l k = true) ∧ Ex w.heap.size none w wr) (fun i _ => l.length - (intOf i).toNat)
  case atStart => exact ⟨0, Nat.zero_le _, rfl, rfl, Ex.refl _ _ _⟩
  case round =>
    obtain ⟨k, hk, rfl, HT, hex⟩ := hrel
    have hsz := hex.size
    by_cases hlt : k < l.length
    · obtain ⟨b, off, p, rfl, _, hb, c0, c1, c2, HP⟩ := pin_get (HX.out.keep (by decide) (fun b _ hb => hex.block b hb (by simp))) k hlt
      have HW := Lib.hid hex
      clear hex
      cases h1 : keyB p.1 with
      | false =>
        have HK : Hid (pinsB l = false) := pinsTo_no hlt (by unfold pinAt; rw [HP.out]; simp [h1])
        go_wp2_with fail
        go_quiet ((go_at_call 223; exact (key03_any _ _).mono fun _ _ h => ⟨h.1, _, h.2.symm⟩))
        go_wp2
        go_ret
        exact ⟨by rw [HK.out]; rfl, by (repeat (first | exact HW.out | refine Ex.drewN ?_ | refine Ex.drew ?_ | refine Ex.setCell ?_ _ none _ (.inr hsz) | refine Ex.alloc ?_ hsz _))⟩
      | true =>
        by_cases h0 : k = 0
        · have h0d : decide (0 < k) = false := by simp [h0]
          have HZ := Lib.hid h0
          clear h0
          by_cases h3 : 1 ≤ p.2.1
          · have h3d : decide (p.2.1 < 1) = false := decide_eq_false (by omega)
            by_cases h4 : p.2.1 ≤ 200
            · have h4d : decide (200 < p.2.1) = false := decide_eq_false (by omega)
              by_cases h5 : p.2.2.size = 32
              · have h5d : (((p.2.2.size : Nat) : Int) != 32) = false := by simp [h5]
                have HK : Hid (pinAt l k = true) := (show _ = _ by unfold pinAt; rw [HP.out]; simp [h1, HZ.out, h3, h4, h5])
                go_wp2_with fail
                go_quiet ((go_at_call 223; exact (key03_any _ _).mono fun _ _ h => ⟨h.1, _, h.2.symm⟩))
                go_wp2
                go_roundw
                case rel => exact ⟨k + 1, by omega, by go_num, (show _ = _ by rw [pinsTo_succ, HT.out, HK.out]; rfl), by (repeat (first | exact HW.out | refine Ex.drewN ?_ | refine Ex.drew ?_ | refine Ex.setCell ?_ _ none _ (.inr hsz) | refine Ex.alloc ?_ hsz _))⟩
                case measure => simp [intOf] <;> omega
              · have h5d : (((p.2.2.size : Nat) : Int) != 32) = true := by simp; omega
                have HK : Hid (pinsB l = false) := pinsTo_no hlt (by unfold pinAt; rw [HP.out]; simp [h1, HZ.out, h3, h4, h5])
                go_wp2_with fail
                go_quiet ((go_at_call 223; exact (key03_any _ _).mono fun _ _ h => ⟨h.1, _, h.2.symm⟩))
                go_wp2
                go_ret
                exact ⟨by rw [HK.out]; rfl, by (repeat (first | exact HW.out | refine Ex.drewN ?_ | refine Ex.drew ?_ | refine Ex.setCell ?_ _ none _ (.inr hsz) | refine Ex.alloc ?_ hsz _))⟩
            · have h4d : decide (200 < p.2.1) = true := decide_eq_true (by omega)
              have HK : Hid (pinsB l = false) := pinsTo_no hlt (by unfold pinAt; rw [HP.out]; simp [h1, HZ.out, h3, h4])
              go_wp2_with fail
              go_quiet ((go_at_call 223; exact (key03_any _ _).mono fun _ _ h => ⟨h.1, _, h.2.symm⟩))
              go_wp2
              go_ret
              exact ⟨by rw [HK.out]; rfl, by (repeat (first | exact HW.out | refine Ex.drewN ?_ | refine Ex.drew ?_ | refine Ex.setCell ?_ _ none _ (.inr hsz) | refine Ex.alloc ?_ hsz _))⟩
          · have h3d : decide (p.2.1 < 1) = true := decide_eq_true (by omega)
            have HK : Hid (pinsB l = false) := pinsTo_no hlt (by unfold pinAt; rw [HP.out]; simp [h1, HZ.out, h3])
            go_wp2_with fail
            go_quiet ((go_at_call 223; exact (key03_any _ _).mono fun _ _ h => ⟨h.1, _, h.2.symm⟩))
            go_wp2
            go_ret
            exact ⟨by rw [HK.out]; rfl, by (repeat (first | exact HW.out | refine Ex.drewN ?_ | refine Ex.drew ?_ | refine Ex.setCell ?_ _ none _ (.inr hsz) | refine Ex.alloc ?_ hsz _))⟩
        · have h0d : 0 < k := by omega
          obtain ⟨i, hi⟩ : ∃ i, i = k - 1 := ⟨_, rfl⟩
          have hw1 : IntKind.i64.wrap ((k : Int) - 1) = i := by rw [show (k : Int) - 1 = i by omega]; exact IntWalk.i64_in _ (by omega)
          have hik : (i : Int) < (l.length : Int) := by omega
          obtain ⟨b', off', q, e', _, hb', c0', _, _, HQ⟩ := pin_get (HX.out.keep (by decide) (fun b _ hb => HW.out.block b hb (by simp))) i (by omega)
          cases e'
          have HI : Hid (l[k - 1]? = some q) := by rw [← hi]; exact HQ
          clear hi
          by_cases h2 : q.1 < p.1
          · have h2d : decide (p.1 ≤ q.1) = false := decide_eq_false (by omega)
            by_cases h3 : 1 ≤ p.2.1
            · have h3d : decide (p.2.1 < 1) = false := decide_eq_false (by omega)
              by_cases h4 : p.2.1 ≤ 200
              · have h4d : decide (200 < p.2.1) = false := decide_eq_false (by omega)
                by_cases h5 : p.2.2.size = 32
                · have h5d : (((p.2.2.size : Nat) : Int) != 32) = false := by simp [h5]
                  have HK : Hid (pinAt l k = true) := (show _ = _ by unfold pinAt; rw [HP.out]; simp [h1, h0, HI.out, h2, h3, h4, h5])
                  go_wp2_with fail
                  go_quiet ((go_at_call 223; exact (key03_any _ _).mono fun _ _ h => ⟨h.1, _, h.2.symm⟩))
                  go_wp2
                  go_roundw
                  case rel => exact ⟨k + 1, by omega, by go_num, (show _ = _ by rw [pinsTo_succ, HT.out, HK.out]; rfl), by (repeat (first | exact HW.out | refine Ex.drewN ?_ | refine Ex.drew ?_ | refine Ex.setCell ?_ _ none _ (.inr hsz) | refine Ex.alloc ?_ hsz _))⟩
                  case measure => simp [intOf] <;> omega
                · have h5d : (((p.2.2.size : Nat) : Int) != 32) = true := by simp; omega
                  have HK : Hid (pinsB l = false) := pinsTo_no hlt (by unfold pinAt; rw [HP.out]; simp [h1, h0, HI.out, h2, h3, h4, h5])
                  go_wp2_with fail
                  go_quiet ((go_at_call 223; exact (key03_any _ _).mono fun _ _ h => ⟨h.1, _, h.2.symm⟩))
                  go_wp2
                  go_ret
                  exact ⟨by rw [HK.out]; rfl, by (repeat (first | exact HW.out | refine Ex.drewN ?_ | refine Ex.drew ?_ | refine Ex.setCell ?_ _ none _ (.inr hsz) | refine Ex.alloc ?_ hsz _))⟩
              · have h4d : decide (200 < p.2.1) = true := decide_eq_true (by omega)
                have HK : Hid (pinsB l = false) := pinsTo_no hlt (by unfold pinAt; rw [HP.out]; simp [h1, h0, HI.out, h2, h3, h4])
                go_wp2_with fail
                go_quiet ((go_at_call 223; exact (key03_any _ _).mono fun _ _ h => ⟨h.1, _, h.2.symm⟩))
                go_wp2
                go_ret
                exact ⟨by rw [HK.out]; rfl, by (repeat (first | exact HW.out | refine Ex.drewN ?_ | refine Ex.drew ?_ | refine Ex.setCell ?_ _ none _ (.inr hsz) | refine Ex.alloc ?_ hsz _))⟩
            · have h3d : decide (p.2.1 < 1) = true := decide_eq_true (by omega)
              have HK : Hid (pinsB l = false) := pinsTo_no hlt (by unfold pinAt; rw [HP.out]; simp [h1, h0, HI.out, h2, h3])
              go_wp2_with fail
              go_quiet ((go_at_call 223; exact (key03_any _ _).mono fun _ _ h => ⟨h.1, _, h.2.symm⟩))
              go_wp2
              go_ret
              exact ⟨by rw [HK.out]; rfl, by (repeat (first | exact HW.out | refine Ex.drewN ?_ | refine Ex.drew ?_ | refine Ex.setCell ?_ _ none _ (.inr hsz) | refine Ex.alloc ?_ hsz _))⟩
          · have h2d : decide (p.1 ≤ q.1) = true := decide_eq_true (by omega)
            have HK : Hid (pinsB l = false) := pinsTo_no hlt (by unfold pinAt; rw [HP.out]; simp [h1, h0, HI.out, h2])
            go_wp2_with fail
            go_quiet ((go_at_call 223; exact (key03_any _ _).mono fun _ _ h => ⟨h.1, _, h.2.symm⟩))
            go_wp2
            go_ret
            exact ⟨by rw [HK.out]; rfl, by (repeat (first | exact HW.out | refine Ex.drewN ?_ | refine Ex.drew ?_ | refine Ex.setCell ?_ _ none _ (.inr hsz) | refine Ex.alloc ?_ hsz _))⟩
    · obtain rfl : k = l.length := by omega
      go_wp2
      go_ret
      exact ⟨by rw [show pinsB l = true from HT.out]; rfl, hex⟩
end Go.Proofs.YtaghfcnpnfhacaaGreat

namespace Go.Proofs.YtaghfcnpnfhacaaGreat
open Go.RowKit Go.Sort

/-- Two keys that can be a lost one and its heir. -/
def rightB (a b : Int) : Bool := decide (0 ≤ a) && decide (a < 64) && decide (0 ≤ b) && decide (b < 64) && !decide (a = b)

set_option maxHeartbeats 4000000 in
theorem right35_any (a b : Int) (w : World) : Calls Tryz.prog 68 #[.agg #[.int .i64 a, .int .i64 b]] w fun e w' => e = .returned (.bool (rightB a b)) ∧ Ex w.heap.size none w w' := by
  by_cases h0 : 0 ≤ a
  case neg =>
    have h0d : decide (0 ≤ a) = false := decide_eq_false h0
    have HK : Hid (rightB a b = false) := by show _ = _; simp [rightB, h0]
    skip
    go_enter Tryz.func68, Tryz.ntmps68
    go_wp2
    go_ret
    exact ⟨by rw [HK.out]; rfl, Ex.new _ _⟩
  have h0d : decide (0 ≤ a) = true := decide_eq_true h0
  by_cases h1 : a < 64
  case neg =>
    have h1d : decide (a < 64) = false := decide_eq_false h1
    have HK : Hid (rightB a b = false) := by show _ = _; simp [rightB, h1]
    skip
    go_enter Tryz.func68, Tryz.ntmps68
    go_wp2
    go_ret
    exact ⟨by rw [HK.out]; rfl, Ex.new _ _⟩
  have h1d : decide (a < 64) = true := decide_eq_true h1
  by_cases h2 : 0 ≤ b
  case neg =>
    have h2d : decide (0 ≤ b) = false := decide_eq_false h2
    have HK : Hid (rightB a b = false) := by show _ = _; simp [rightB, h2]
    skip
    go_enter Tryz.func68, Tryz.ntmps68
    go_wp2
    go_ret
    exact ⟨by rw [HK.out]; rfl, Ex.new _ _⟩
  have h2d : decide (0 ≤ b) = true := decide_eq_true h2
  by_cases h3 : b < 64
  case neg =>
    have h3d : decide (b < 64) = false := decide_eq_false h3
    have HK : Hid (rightB a b = false) := by show _ = _; simp [rightB, h3]
    skip
    go_enter Tryz.func68, Tryz.ntmps68
    go_wp2
    go_ret
    exact ⟨by rw [HK.out]; rfl, Ex.new _ _⟩
  have h3d : decide (b < 64) = true := decide_eq_true h3
  by_cases h4 : a = b
  case pos =>
    have h4d : (a != b) = false := by simp [h4]
    have HK : Hid (rightB a b = false) := by show _ = _; simp [rightB, h4]
    clear h4
    go_enter Tryz.func68, Tryz.ntmps68
    go_wp2
    go_ret
    exact ⟨by rw [HK.out]; rfl, Ex.new _ _⟩
  have h4d : (a != b) = true := by simp [h4]
  have HK : Hid (rightB a b = true) := by show _ = _; simp [rightB, h0, h1, h2, h3, h4]
  clear h4
  go_enter Tryz.func68, Tryz.ntmps68
  go_wp2
  go_ret
  exact ⟨by rw [HK.out]; rfl, Ex.new _ _⟩
end Go.Proofs.YtaghfcnpnfhacaaGreat

namespace Go.Proofs.YtaghfcnpnfhacaaGreat
open Go.RowKit Go.Sort

/-- Some statement could name a key as the heir of another one. -/
def namesB (a b : Int) (s : St) : Bool := decide (s.kind = 13) && decide (s.a = a) && decide (s.b = b)
def namedS (l : List St) (a b : Int) : Bool := l.any (namesB a b)
theorem namedS_get {l : List St} {k : Nat} {s : St} {a b : Int} (h : l[k]? = some s) (hs : namesB a b s = true) : namedS l a b = true := by
  unfold namedS
  rw [List.any_eq_true]
  exact ⟨s, List.mem_of_getElem? h, hs⟩
theorem namedS_take {l : List St} {k : Nat} {s : St} {a b : Int} (h : l[k]? = some s) (hn : namedS (l.take k) a b = false) (hs : namesB a b s = false) : namedS (l.take (k + 1)) a b = false := by
  unfold namedS at *
  rw [List.take_add_one, h, List.any_append, hn]
  simp [hs]

set_option maxHeartbeats 4000000 in
set_option maxRecDepth 100000 in
theorem named35_any {P : Nat → Prop} (v : Value) (l : List St) (a b : Int) (w : World) (hv : Sl stRep P w v l) (hm : l.length ≤ 1000000) :
    Calls Tryz.prog 79 #[v, .int .i64 a, .int .i64 b] w fun e w' => e = .returned (.bool (namedS l a b)) ∧ w = w' := by
  obtain ⟨ao, cap, rfl, hx⟩ := hv
  have HX := Lib.hid hx
  clear hx
  go_enter Tryz.func79, Tryz.ntmps79
  go_wp2
  go_loop [7] (fun i => ∃ k : Nat, k ≤ l.length ∧ i = .int .i64 k ∧ Hid (namedS (l.take k) a b = false)) (fun i => l.length - (intOf i).toNat)
  case atStart => exact ⟨0, Nat.zero_le _, rfl, Lib.hid rfl⟩
  case round =>
    obtain ⟨k, hk, rfl, HN⟩ := hrel
    by_cases hlt : k < l.length
    · have hltI : (k : Int) < (l.length : Int) := by omega
      obtain ⟨bb, off, s, ⟨lo, ln, lc⟩, ⟨po, pn, pc⟩, rfl, _, _, hr, HS⟩ := st_get HX.out k hlt
      have hc := st_at hr
      simp only [Sv.v] at hc
      obtain ⟨c0, c1, c2, c3, c4, c5, c6, c7, c8, c9, c10, c11, c12⟩ := hc
      clear hr c0 c1 c2 c3 c7 c8 c9 c10 c11 c12
      by_cases h1 : s.kind = 13
      case neg =>
        have h1d : (s.kind == 13) = false := by simpa using h1
        have HR := Lib.hid (namedS_take HS.out HN.out (show namesB a b s = false by simp [namesB, h1]))
        clear h1
        go_wp2
        go_round
        case rel => exact ⟨k + 1, by omega, by go_num, HR⟩
        case measure => simp [intOf] <;> omega
      have h1d : (s.kind == 13) = true := by simp [h1]
      by_cases h2 : s.a = a
      case neg =>
        have h2d : (s.a == a) = false := by simpa using h2
        have HR := Lib.hid (namedS_take HS.out HN.out (show namesB a b s = false by simp [namesB, h2]))
        clear h1 h2
        go_wp2
        go_round
        case rel => exact ⟨k + 1, by omega, by go_num, HR⟩
        case measure => simp [intOf] <;> omega
      have h2d : (s.a == a) = true := by simp [h2]
      by_cases h3 : s.b = b
      case neg =>
        have h3d : (s.b == b) = false := by simpa using h3
        have HR := Lib.hid (namedS_take HS.out HN.out (show namesB a b s = false by simp [namesB, h3]))
        clear h1 h2 h3
        go_wp2
        go_round
        case rel => exact ⟨k + 1, by omega, by go_num, HR⟩
        case measure => simp [intOf] <;> omega
      have h3d : (s.b == b) = true := by simp [h3]
      have HR := Lib.hid (namedS_get HS.out (show namesB a b s = true by simp [namesB, h1, h2, h3]))
      clear h1 h2 h3
      go_wp2
      go_ret
      exact ⟨by rw [HR.out]; rfl, rfl⟩
    · have hltI : ¬ (k : Int) < (l.length : Int) := by omega
      have HR : Hid (namedS l a b = false) := by
        have h := HN.out
        rwa [List.take_of_length_le (by omega)] at h
      go_wp2
      go_ret
      exact ⟨by rw [HR.out]; rfl, rfl⟩
end Go.Proofs.YtaghfcnpnfhacaaGreat

namespace Go.Proofs.YtaghfcnpnfhacaaGreat
open Go.RowKit Go.Sort

theorem emptyS_list : (⟨#[]⟩ : ByteArray).toList = [] := by rw [ByteArray.toList_eq]
theorem emptyS_facts {a : ByteArray} (h : a = ⟨#[]⟩) : (a.toList == (⟨#[]⟩ : ByteArray).toList) = true ∧ (a.toList == []) = true ∧ a.toList.isEmpty = true := by
  subst h
  rw [emptyS_list]; exact ⟨rfl, rfl, rfl⟩
theorem nonemptyS_facts {a : ByteArray} (h : ¬ a = ⟨#[]⟩) : (a.toList == (⟨#[]⟩ : ByteArray).toList) = false ∧ (a.toList == []) = false ∧ a.toList.isEmpty = false := by
  have h1 := (bytes_nbeq h).2
  have h2 : (a.toList == []) = false := by rwa [emptyS_list] at h1
  refine ⟨h1, h2, ?_⟩
  cases hl : a.toList with
  | nil => rw [hl] at h2; cases h2
  | cons x r => rfl
end Go.Proofs.YtaghfcnpnfhacaaGreat

namespace Go.Proofs.YtaghfcnpnfhacaaGreat
open Go.RowKit

set_option maxHeartbeats 1000000 in
theorem keyG_any (n : Int) (w : World) : Calls Tryz.prog 227 #[.int .i64 n] w fun e w' => e = .returned (.bool (keyB n)) ∧ w = w' := by
  by_cases h1 : 0 ≤ n
  · have d1 : decide (0 ≤ n) = true := decide_eq_true h1
    have hk : keyB n = decide (n < 64) := by simp [keyB, h1]
    go_enter Tryz.func227, Tryz.ntmps227
    go_wp2
    go_ret
    exact ⟨by first | rfl | (rw [hk]; rfl) | simp [hk], rfl⟩
  · have d1 : decide (0 ≤ n) = false := decide_eq_false h1
    have hk : keyB n = false := by simp [keyB, h1]
    go_enter Tryz.func227, Tryz.ntmps227
    go_wp2
    go_ret
    exact ⟨by first | rfl | (rw [hk]; rfl) | simp [hk], rfl⟩


set_option maxHeartbeats 8000000 in
set_option maxRecDepth 100000 in
theorem validP_any (o n : Int) (go : Option Addr) (gn gc : Nat) (g : List Int) (w : World) (hg : IntsAt w go g) (hgn : g.length = gn) (hm : gn ≤ 1000000) :
    Calls Tryz.prog 152 #[.agg #[.int .i64 o, .int .i64 n, .slice go gn gc]] w fun e w' => e = .returned (.bool (validG o n g)) ∧ Ex w.heap.size none w w' := by
  have HGN := Lib.hid hgn
  have HGI : Hid (∀ w', Ex w.heap.size none w w' → IntsAt w' go g) := Lib.hid (fun w' h => hg.keep h (Nat.le_refl _) (by simp))
  clear hg hgn
  go_enter Tryz.func152, Tryz.ntmps152
  go_upto_region 1 with (fail)
  obtain ⟨w1, hw1⟩ : ∃ w1 : World, w1 = w.alloc (.cells #[.int .i64 o, .int .i64 n, .slice go gn gc] 113) := ⟨_, rfl⟩
  have HE1 : Hid (Ex w.heap.size none w w1) := Lib.hid (by rw [hw1]; exact Ex.new _ _)
  have hz1 : w.heap.size + 1 ≤ w1.heap.size := by rw [hw1]; simp
  have HC : Hid (∀ w', Ex w1.heap.size none w1 w' → w'.cell? ⟨w.heap.size, 0, none⟩ = some (.int .i64 o) ∧ w'.cell? ⟨w.heap.size, 1, none⟩ = some (.int .i64 n) ∧ w'.cell? ⟨w.heap.size, 2, none⟩ = some (.slice go gn gc)) := Lib.hid (fun w' h => by
    have k : w'.heap[w.heap.size]? = some (.cells #[.int .i64 o, .int .i64 n, .slice go gn gc] 113 (0, 0)) := (h.block w.heap.size (by omega) (by simp)).trans (by rw [hw1]; exact heap_alloc_new _ _)
    refine ⟨?_, ?_, ?_⟩ <;> (rw [cell_of_row _ _ _ _ _ _ k]; rfl))
  rw [← hw1]
  clear hw1
  obtain ⟨c0, c1, c2⟩ := HC.out _ (Ex.refl _ _ w1)
  go_wp2_with fail
  go_loop [3, 4, 9] (fun _ _ i => ∃ k : Nat, k ≤ gn ∧ i = .int .i64 k ∧ Hid (okTo g k = true) ∧ Hid (hasI (g.take k) o = false)) (fun _ _ i => gn - (intOf i).toNat)
  case atStart => exact ⟨0, Nat.zero_le _, rfl, Lib.hid rfl, Lib.hid rfl⟩
  case round =>
    obtain ⟨k, hk, rfl, HT, HN⟩ := hrel
    by_cases hlt : k < gn
    · have hltI : (k : Int) < (gn : Int) := by omega
      have hltg : k < g.length := by rw [HGN.out]; exact hlt
      obtain ⟨b, off, y, rfl, cy, HY⟩ := (HGI.out _ HE1.out).get k hltg
      cases h1 : keyB y
      case false =>
        have hno : okAt g k = false := by
          have hy := HY.out
          cases hc : okAt g k with
          | false => rfl
          | true => simp only [okAt, hy, Bool.and_eq_true, decide_eq_true_eq] at hc; simp only [keyB, hc.1.1, hc.1.2, decide_true, Bool.and_self] at h1; cases h1
        have HK : Hid (validG o n g = false) := by show _ = _; simp [validG, validI, okTo_no hltg hno]
        go_wp2_with (first | (go_at_call 227; refine (keyG_any _ _).mono ?_; (first | rw [h1] | rw [h9] | skip); rintro e w' ⟨rfl, rfl⟩) | fail)
        go_ret
        exact ⟨by rw [HK.out]; rfl, HE1.out⟩
      by_cases h2 : y = o
      case pos =>
        have h2d : (y == o) = true := by simp [h2]
        have hhas : hasI g o = true := hasI_get hltg (HY.out.trans h2)
        clear h2
        have HK : Hid (validG o n g = false) := by show _ = _; simp [validG, hhas]
        go_wp2_with (first | (go_at_call 227; refine (keyG_any _ _).mono ?_; (first | rw [h1] | rw [h9] | skip); rintro e w' ⟨rfl, rfl⟩) | fail)
        go_ret
        exact ⟨by rw [HK.out]; rfl, HE1.out⟩
      have h2d : (y == o) = false := by simpa using h2
      have HNN : Hid (hasI (g.take (k + 1)) o = false) := Lib.hid (hasI_take_succ hltg HN.out (by rw [HY.out]; exact h2))
      clear h2
      by_cases h0 : k = 0
      case pos =>
        have h0d : decide (0 < k) = false := by simp [h0]
        have HZ := Lib.hid h0
        clear h0
        have HA : Hid (okAt g k = true) := by show _ = _; have hy := HY.out; simp only [keyB, Bool.and_eq_true, decide_eq_true_eq] at h1; rw [HZ.out] at hy; simp [-List.getD_eq_getElem?_getD, okAt, hy, HZ.out, h1]
        clear hltg
        go_wp2_with (first | (go_at_call 227; refine (keyG_any _ _).mono ?_; (first | rw [h1] | rw [h9] | skip); rintro e w' ⟨rfl, rfl⟩) | fail)
        go_round
        case rel => exact ⟨k + 1, by omega, by go_num, (show _ = _ by rw [okTo_succ, HT.out, HA.out]; rfl), HNN⟩
        case measure => simp [intOf] <;> omega
      have h0d : 0 < k := by omega
      obtain ⟨i, hi⟩ : ∃ i, i = k - 1 := ⟨_, rfl⟩
      have hw1 : IntKind.i64.wrap ((k : Int) - 1) = i := by rw [show (k : Int) - 1 = i by omega]; exact IntWalk.i64_in _ (by omega)
      have hik : (i : Int) < (gn : Int) := by omega
      obtain ⟨b', off', q, e', c0', HQ⟩ := (HGI.out _ HE1.out).get i (by omega)
      cases e'
      have HI : Hid (g.getD (k - 1) 0 = q) := by rw [← hi]; exact HQ
      have HZ := Lib.hid h0
      clear hi h0
      by_cases h3 : y ≤ q
      case pos =>
        have h3d : decide (y ≤ q) = true := decide_eq_true h3
        have hno : okAt g k = false := by simp [-List.getD_eq_getElem?_getD, okAt, HY.out, HZ.out, HI.out, show ¬ q < y by omega]
        have HK : Hid (validG o n g = false) := by show _ = _; simp [validG, validI, okTo_no hltg hno]
        go_wp2_with (first | (go_at_call 227; refine (keyG_any _ _).mono ?_; (first | rw [h1] | rw [h9] | skip); rintro e w' ⟨rfl, rfl⟩) | fail)
        go_ret
        exact ⟨by rw [HK.out]; rfl, HE1.out⟩
      have h3d : decide (y ≤ q) = false := decide_eq_false h3
      have h3n : q < y := by omega
      have HA : Hid (okAt g k = true) := by show _ = _; have hy := HY.out; simp only [keyB, Bool.and_eq_true, decide_eq_true_eq] at h1; simp [-List.getD_eq_getElem?_getD, okAt, hy, HZ.out, HI.out, h1, h3n]
      clear hltg
      go_wp2_with (first | (go_at_call 227; refine (keyG_any _ _).mono ?_; (first | rw [h1] | rw [h9] | skip); rintro e w' ⟨rfl, rfl⟩) | fail)
      go_round
      case rel => exact ⟨k + 1, by omega, by go_num, (show _ = _ by rw [okTo_succ, HT.out, HA.out]; rfl), HNN⟩
      case measure => simp [intOf] <;> omega
    · have hkg : k = gn := by omega
      have HOK : Hid (okTo g gn = true) := by rw [← hkg]; exact HT
      have HNO : Hid (hasI g o = false) := by
        have h := HN.out
        rwa [List.take_of_length_le (by rw [HGN.out]; omega)] at h
      have hltI : ¬ (k : Int) < (gn : Int) := by omega
      clear hkg
      cases h9 : keyB o
      case false =>
        have hq : ¬ (0 ≤ o ∧ o < 64) := by rw [← keyB_iff, h9]; decide
        have HK : Hid (validG o n g = false) := by show _ = _; simp only [validG]; rcases Classical.not_and_iff_not_or_not.1 hq with h | h <;> simp [h]
        go_wp2_with (first | (go_at_call 227; refine (keyG_any _ _).mono ?_; (first | rw [h1] | rw [h9] | skip); rintro e w' ⟨rfl, rfl⟩) | fail)
        go_ret
        exact ⟨by rw [HK.out]; rfl, HE1.out⟩
      obtain ⟨q1, q2⟩ := keyB_iff.1 h9
      by_cases h4 : 1 ≤ gn
      case neg =>
        have h4d : decide ((1 : Int) ≤ (gn : Int)) = false := decide_eq_false (by omega)
        have h4e : decide (1 ≤ gn) = false := decide_eq_false h4
        have h4f : decide (0 < gn) = false := decide_eq_false (by omega)
        have HK : Hid (validG o n g = false) := by show _ = _; simp [validG, validI, HGN.out, show gn = 0 by omega]
        go_wp2_with (first | (go_at_call 227; refine (keyG_any _ _).mono ?_; (first | rw [h1] | rw [h9] | skip); rintro e w' ⟨rfl, rfl⟩) | fail)
        go_ret
        exact ⟨by rw [HK.out]; rfl, HE1.out⟩
      have h4d : decide ((1 : Int) ≤ (gn : Int)) = true := decide_eq_true (by omega)
      by_cases h5 : gn ≤ 12
      case neg =>
        have h5d : decide (gn ≤ 12) = false := decide_eq_false h5
        have HK : Hid (validG o n g = false) := by show _ = _; simp [validG, HGN.out, h5]
        go_wp2_with (first | (go_at_call 227; refine (keyG_any _ _).mono ?_; (first | rw [h1] | rw [h9] | skip); rintro e w' ⟨rfl, rfl⟩) | fail)
        go_ret
        exact ⟨by rw [HK.out]; rfl, HE1.out⟩
      have h5d : decide (gn ≤ 12) = true := decide_eq_true h5
      by_cases h6 : 1 ≤ n
      case neg =>
        have h6d : decide (1 ≤ n) = false := decide_eq_false h6
        have HK : Hid (validG o n g = false) := by show _ = _; simp [validG, h6]
        go_wp2_with (first | (go_at_call 227; refine (keyG_any _ _).mono ?_; (first | rw [h1] | rw [h9] | skip); rintro e w' ⟨rfl, rfl⟩) | fail)
        go_ret
        exact ⟨by rw [HK.out]; rfl, HE1.out⟩
      have h6d : decide (1 ≤ n) = true := decide_eq_true h6
      by_cases h7 : n ≤ (gn : Int)
      case neg =>
        have h7d : decide (n ≤ (gn : Int)) = false := decide_eq_false h7
        have HK : Hid (validG o n g = false) := by show _ = _; simp [validG, HGN.out, h7]
        go_wp2_with (first | (go_at_call 227; refine (keyG_any _ _).mono ?_; (first | rw [h1] | rw [h9] | skip); rintro e w' ⟨rfl, rfl⟩) | fail)
        go_ret
        exact ⟨by rw [HK.out]; rfl, HE1.out⟩
      have h7d : decide (n ≤ (gn : Int)) = true := decide_eq_true h7
      have HK : Hid (validG o n g = true) := by show _ = _; simp [validG, validI, HGN.out, q1, q2, h5, h6, h7, HOK.out, HNO.out]; omega
      go_wp2_with (first | (go_at_call 227; refine (keyG_any _ _).mono ?_; (first | rw [h1] | rw [h9] | skip); rintro e w' ⟨rfl, rfl⟩) | fail)
      go_ret
      exact ⟨by rw [HK.out]; rfl, HE1.out⟩
end Go.Proofs.YtaghfcnpnfhacaaGreat

namespace Go.Proofs.YtaghfcnpnfhacaaGreat
open Go.RowKit Go.Sort

set_option maxHeartbeats 4000000 in
theorem rightP_any (a b : Int) (w : World) : Calls Tryz.prog 67 #[.agg #[.int .i64 a, .int .i64 b]] w fun e w' => e = .returned (.bool (rightB a b)) ∧ Ex w.heap.size none w w' := by
  cases h1 : keyH a
  case false =>
    have HK : Hid (rightB a b = false) := by show _ = _; simp [rightB, keyH] at *; omega
    skip
    go_enter Tryz.func67, Tryz.ntmps67
    go_wp2_with (first | (go_at_call 146; refine (key_any _ _).mono ?_; (first | rw [h1] | rw [h2] | skip); rintro e w' ⟨rfl, rfl⟩) | fail)
    go_ret
    exact ⟨by rw [HK.out]; rfl, Ex.new _ _⟩
  cases h2 : keyH b
  case false =>
    have HK : Hid (rightB a b = false) := by show _ = _; simp [rightB, keyH] at *; omega
    skip
    go_enter Tryz.func67, Tryz.ntmps67
    go_wp2_with (first | (go_at_call 146; refine (key_any _ _).mono ?_; (first | rw [h1] | rw [h2] | skip); rintro e w' ⟨rfl, rfl⟩) | fail)
    go_ret
    exact ⟨by rw [HK.out]; rfl, Ex.new _ _⟩
  by_cases h4 : a = b
  case pos =>
    have h4d : (a != b) = false := by simp [h4]
    have HK : Hid (rightB a b = false) := by show _ = _; simp [rightB, keyH] at *; omega
    clear h4
    go_enter Tryz.func67, Tryz.ntmps67
    go_wp2_with (first | (go_at_call 146; refine (key_any _ _).mono ?_; (first | rw [h1] | rw [h2] | skip); rintro e w' ⟨rfl, rfl⟩) | fail)
    go_ret
    exact ⟨by rw [HK.out]; rfl, Ex.new _ _⟩
  have h4d : (a != b) = true := by simp [h4]
  have HK : Hid (rightB a b = true) := by show _ = _; simp [rightB, keyH] at *; omega
  clear h4
  go_enter Tryz.func67, Tryz.ntmps67
  go_wp2_with (first | (go_at_call 146; refine (key_any _ _).mono ?_; (first | rw [h1] | rw [h2] | skip); rintro e w' ⟨rfl, rfl⟩) | fail)
  go_ret
  exact ⟨by rw [HK.out]; rfl, Ex.new _ _⟩
end Go.Proofs.YtaghfcnpnfhacaaGreat

namespace Go.Proofs.YtaghfcnpnfhacaaGreat
open Go.RowKit

set_option maxHeartbeats 8000000 in
set_option maxRecDepth 100000 in
theorem enoughP_any (o n : Int) (go : Option Addr) (gn gc : Nat) (g : List Int) (v : Value) (vs : List Int) (w : World) (hg : IntsAt w go g) (hgn : g.length = gn) (hm : gn ≤ 1000000) (hv : Ints w v vs) (hvm : vs.length ≤ 1000000) :
    Calls Tryz.prog 74 #[.agg #[.int .i64 o, .int .i64 n, .slice go gn gc], v] w fun e w' => e = .returned (.bool (enoughG o n g vs)) ∧ Ex w.heap.size none w w' := by
  obtain ⟨vo, vc, rfl, hvx⟩ := hv
  have HGN := Lib.hid hgn
  have HGI : Hid (∀ w', Ex w.heap.size none w w' → IntsAt w' go g) := Lib.hid (fun w' h => hg.keep h (Nat.le_refl _) (by simp))
  have HVI : Hid (∀ w', Ex w.heap.size none w w' → IntsAt w' vo vs) := Lib.hid (fun w' h => hvx.keep h (Nat.le_refl _) (by simp))
  clear hg hgn hvx
  obtain ⟨bv, hbv⟩ : ∃ bv, bv = validG o n g := ⟨_, rfl⟩
  have HB := Lib.hid hbv
  clear hbv
  go_enter Tryz.func74, Tryz.ntmps74
  go_wp2_with fail
  obtain ⟨w1, hw1⟩ : ∃ w1 : World, w1 = w.alloc (.cells #[.int .i64 o, .int .i64 n, .slice go gn gc] 113) := ⟨_, rfl⟩
  have HE1 : Hid (Ex w.heap.size none w w1) := Lib.hid (by rw [hw1]; exact Ex.new _ _)
  have hz1 : w.heap.size + 1 ≤ w1.heap.size := by rw [hw1]; simp
  have HC : Hid (∀ w', Ex w1.heap.size none w1 w' → w'.cell? ⟨w.heap.size, 0, none⟩ = some (.int .i64 o) ∧ w'.cell? ⟨w.heap.size, 1, none⟩ = some (.int .i64 n) ∧ w'.cell? ⟨w.heap.size, 2, none⟩ = some (.slice go gn gc)) := Lib.hid (fun w' h => by
    have k : w'.heap[w.heap.size]? = some (.cells #[.int .i64 o, .int .i64 n, .slice go gn gc] 113 (0, 0)) := (h.block w.heap.size (by omega) (by simp)).trans (by rw [hw1]; exact heap_alloc_new _ _)
    refine ⟨?_, ?_, ?_⟩ <;> (rw [cell_of_row _ _ _ _ _ _ k]; rfl))
  rw [← hw1]
  clear hw1
  obtain ⟨c0, c1, c2⟩ := HC.out _ (Ex.refl _ _ w1)
  cases hbb : bv with
  | false =>
    rw [hbb] at HB
    have HK : Hid (enoughG o n g vs = false) := by show _ = _; rw [enoughG, ← HB.out]; rfl
    clear hbb
    go_step3
    go_wp2_with (first | (go_at_call 152; refine (asB (validP_any o n go gn gc g w1 (HGI.out _ HE1.out) HGN.out hm) HB.out.symm).mono ?_; rintro e w2 ⟨rfl, hex⟩; have HE2 := Lib.hid hex; clear hex) | fail)
    (try rw [Exit.noGoto_ret])
    go_ret
    exact ⟨by rw [HK.out]; rfl, HE1.out.trans HE2.out (by omega) (by simp)⟩
  | true =>
    rw [hbb] at HB
    have HK : Hid (enoughG o n g vs = decide (n ≤ (countG g vs : Int))) := by show _ = _; rw [enoughG, ← HB.out]; rfl
    clear hbb
    go_step3
    go_wp2_with (first | (go_at_call 152; refine (asB (validP_any o n go gn gc g w1 (HGI.out _ HE1.out) HGN.out hm) HB.out.symm).mono ?_; rintro e w2 ⟨rfl, hex⟩; have HE2 := Lib.hid hex; have HE12 : Hid (Ex w.heap.size none w w2) := Lib.hid (HE1.out.trans hex (by omega) (by simp)); clear hex c0 c1 c2; obtain ⟨c0, c1, c2⟩ := HC.out _ HE2.out) | fail)
    go_step3
    go_wp2
    go_loopg [5, 7, 9, 16] gn (fun gh c _ _ i wx => ∃ k j : Nat, k + gh = gn ∧ j ≤ k ∧ i = .int .i64 k ∧ c = .int .i64 j ∧ Hid (countG (g.take k) vs = j) ∧ wx = w2)
    case atStart => exact ⟨0, 0, by omega, Nat.le_refl _, rfl, rfl, Lib.hid rfl, rfl⟩
    case round =>
      obtain ⟨k, j, hk, hj, rfl, rfl, HJ, rfl⟩ := hrel
      obtain ⟨w3, hw3⟩ : ∃ w3, w3 = wr := ⟨_, rfl⟩
      subst hw3
      cases gk with
      | succ g1 =>
        have hlt : k < gn := by omega
        have hltI : (k : Int) < (gn : Int) := by omega
        obtain ⟨b, off, y, hgo, cy, HY⟩ := (HGI.out _ HE12.out).get k (by rw [HGN.out]; exact hlt)
        have HT := Lib.hid (countG_take (vs := vs) (by rw [HGN.out]; exact hlt) HY.out)
        subst hgo
        go_wp2
        go_loopg [5, 9, 22] vs.length (fun gh2 c _ i wx => ∃ m : Nat, m + gh2 = vs.length ∧ i = .int .i64 m ∧ c = .int .i64 j ∧ Hid (hasI (vs.take m) y = false) ∧ wx = w3)
        case atStart => exact ⟨0, by omega, rfl, rfl, Lib.hid rfl, rfl⟩
        case round =>
          obtain ⟨m, hmm, rfl, rfl, HN, hww⟩ := hrel
          subst hww
          cases gk with
          | succ g2 =>
            have hmt : m < vs.length := by omega
            have hmtI : (m : Int) < (vs.length : Int) := by omega
            obtain ⟨b2, off2, z, hvo, cz, HZ⟩ := (HVI.out _ HE12.out).get m hmt
            subst hvo
            by_cases hyz : z = y
            · have hd : (z == y) = true := by simp [hyz]
              have HH : Hid (countG (g.take (k + 1)) vs = j + 1) := by
                show _ = _
                rw [HT.out, HJ.out, hasI_get hmt (HZ.out.trans hyz)]; rfl
              clear hyz
              go_wp2
              go_roundg g1
              case rel => exact ⟨k + 1, j + 1, by omega, by omega, by go_num, by go_num, HH, rfl⟩
              case measure => omega
            · have hd : (z == y) = false := by simpa using hyz
              have HH : Hid (hasI (vs.take (m + 1)) y = false) := Lib.hid (hasI_take_succ hmt HN.out (by rw [HZ.out]; exact hyz))
              clear hyz
              go_wp2
              go_roundg g2
              case rel => exact ⟨m + 1, by omega, by go_num, rfl, HH, rfl⟩
              case measure => omega
          | zero =>
            have hmtI : ¬ (m : Int) < (vs.length : Int) := by omega
            have HH : Hid (countG (g.take (k + 1)) vs = j) := by
              have h := HN.out
              rw [List.take_of_length_le (by omega)] at h
              show _ = _
              rw [HT.out, HJ.out, h]; rfl
            go_wp2
            go_roundg g1
            case rel => exact ⟨k + 1, j, by omega, by omega, by go_num, rfl, HH, rfl⟩
            case measure => omega
      | zero =>
        have hltI : ¬ (k : Int) < (gn : Int) := by omega
        have HR : Hid (countG g vs = j) := by
          have h := HJ.out
          rwa [List.take_of_length_le (by rw [HGN.out]; omega)] at h
        go_wp2
        (try rw [Exit.noGoto_ret])
        go_ret
        exact ⟨by rw [HK.out, HR.out]; rfl, HE12.out⟩
end Go.Proofs.YtaghfcnpnfhacaaGreat
