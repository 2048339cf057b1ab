/- ref03.in, key, PinsOK, numbers, Check: contracts, no statement of the seat. | ref03.PinsOK: a contract, no statement of the seat. | Empty and not empty texts: facts for walks. No statement of the seat. | lists.Only at statements: a contract, no statement of the seat. | store.part: the statements of an author, without copying them. No statement of the seat. -/
import Derived.Test.YtaihmldiglgipaaGreatMg04
import Derived.Test.YtaihmldiglgipaaGreatOnlyG
import Derived.Outline
import Derived.BigQuiet
import Derived.IntWalk
import Derived.Test.YtaihmldiglgipaaGreatMg00
import Derived.Deep.Cut
namespace Go.Proofs.YtaihmldiglgipaaGreat
open Go.RowKit Go.Sort

def inB (x most : Int) : Bool := decide (0 ≤ x) && decide (x ≤ most)
def keyB (x : Int) : Bool := decide (0 ≤ x) && decide (x < 64)
theorem inB_iff {x m : Int} : inB x m = true ↔ 0 ≤ x ∧ x ≤ m := by simp [inB]
theorem keyB_iff {x : Int} : keyB x = true ↔ 0 ≤ x ∧ x < 64 := by simp [keyB]
/-- A pin among pins. -/
def pinAt (l : List PinD) (i : Nat) : Bool :=
  match l[i]? with
  | none => true
  | some p => keyB p.1 && (decide (i = 0) || decide ((l[i - 1]?.getD p).1 < p.1)) && decide (1 ≤ p.2.1) && decide (p.2.1 ≤ 200) && decide (p.2.2.size = 32)
def pinsTo (l : List PinD) (k : Nat) : Bool := (List.range k).all (pinAt l)
def pinsB (l : List PinD) : Bool := pinsTo l l.length
theorem pinsTo_succ (l : List PinD) (k : Nat) : pinsTo l (k + 1) = (pinsTo l k && pinAt l k) := by simp [pinsTo, List.range_succ]
theorem pinsTo_no {l : List PinD} {k : Nat} (hk : k < l.length) (h : pinAt l k = false) : pinsB l = false := by
  unfold pinsB pinsTo
  rw [List.all_eq_false]
  exact ⟨k, by simpa using hk, by simp [h]⟩
def M40 : Int := 1099511627776
def kindB (s : St) : Bool :=
  if s.kind = 1 then keyB s.a && decide (s.a ≠ s.author) && decide (1 ≤ s.b) && decide (s.b ≤ 3) && decide (s.time ≤ s.c) && decide (s.c ≤ 2147483648)
  else if s.kind = 2 then inB s.a 199 && decide (s.b = 0) && decide (s.c = 0)
  else if s.kind = 3 then decide (s.a = 0) && decide (s.b = 0) && decide (s.c = 0)
  else true
def numB (s : St) : Bool := inB s.number 199 && inB s.a M40 && inB s.b M40 && inB s.c M40 && s.list.all (fun x => inB x M40) && kindB s
def checkI (s : St) : Int :=
  if keyB s.author = false then 4
  else if s.kind < 1 ∨ (3 < s.kind ∧ s.kind < 10) ∨ 31 < s.kind then 5
  else if inB s.time 2147483648 = false then 9
  else if numB s = false then 2
  else if 64 < s.list.length ∨ 64 < s.pins.length ∨ 4096 < s.body.size then 3
  else if (s.number = 0 ∧ s.prev ≠ ⟨#[]⟩) ∨ (0 < s.number ∧ s.prev.size ≠ 32) ∨ pinsB s.pins = false then 1
  else if s.kind ≤ 3 ∧ (0 < s.list.length ∨ 0 < s.pins.length ∨ s.body ≠ ⟨#[]⟩) then 1
  else 0

set_option maxHeartbeats 400000 in
theorem in03_any (x m : Int) (w : World) : Calls Tryz.prog 101 #[.int .i64 x, .int .i64 m] w fun e w' => e = .returned (.bool (inB x m)) ∧ w = w' := by
  by_cases h1 : 0 ≤ x
  · have HK : Hid (inB x m = decide (x ≤ m)) := (show _ = _ by simp [inB, h1])
    go_enter Tryz.func101, Tryz.ntmps101
    go_wp2
    go_ret
    exact ⟨by rw [HK.out]; rfl, rfl⟩
  · have hd : decide (0 ≤ x) = false := decide_eq_false h1
    have HK : Hid (inB x m = false) := (show _ = _ by simp [inB, h1])
    go_enter Tryz.func101, Tryz.ntmps101
    go_wp2
    go_ret
    exact ⟨by rw [HK.out]; rfl, rfl⟩
set_option maxHeartbeats 400000 in
theorem key03_any (x : Int) (w : World) : Calls Tryz.prog 100 #[.int .i64 x] w fun e w' => e = .returned (.bool (keyB x)) ∧ w = w' := by
  by_cases h1 : 0 ≤ x
  · have HK : Hid (keyB x = decide (x < 64)) := (show _ = _ by simp [keyB, h1])
    go_enter Tryz.func100, Tryz.ntmps100
    go_wp2
    go_ret
    exact ⟨by rw [HK.out]; rfl, rfl⟩
  · have hd : decide (0 ≤ x) = false := decide_eq_false h1
    have HK : Hid (keyB x = false) := (show _ = _ by simp [keyB, h1])
    go_enter Tryz.func100, Tryz.ntmps100
    go_wp2
    go_ret
    exact ⟨by rw [HK.out]; rfl, rfl⟩
end Go.Proofs.YtaihmldiglgipaaGreat

namespace Go.Proofs.YtaihmldiglgipaaGreat
open Go.RowKit Go.Sort

/-- A pin of a slice: its cells. -/
theorem pin_get {P : Nat → Prop} {w : World} {ao : Option Addr} {xs : List PinD} (h : SlAt pinRep P w ao xs) (i : Nat) (hi : i < xs.length) : ∃ b off p, ao = some ⟨b, off, none⟩ ∧ P b ∧ b < w.heap.size ∧ w.cell? ⟨b, off + i * 3, none⟩ = some (.int .i64 p.1) ∧ w.cell? ⟨b, off + i * 3 + 1, none⟩ = some (.int .i64 p.2.1) ∧ w.cell? ⟨b, off + i * 3 + 2, none⟩ = some (.string p.2.2) ∧ Hid (xs[i]? = some p) := by
  obtain ⟨b, off, cs, e, hp, hr, hR⟩ := h i hi
  have hcs : cs = pinE xs[i] := hR
  subst hcs
  exact ⟨b, off, xs[i], e, hp, rangeAt_lt hr (by rw [pinE_len]; omega), hr 0 _ rfl, hr 1 _ rfl, hr 2 _ rfl, (show _ = _ by simp [hi])⟩

set_option maxHeartbeats 8000000 in
set_option maxRecDepth 100000 in
theorem pinsOK_any {P : Nat → Prop} (v : Value) (l : List PinD) (w : World) (hv : Sl pinRep P w v l) (hm : l.length ≤ 9223372036854775807) :
    Calls Tryz.prog 103 #[v] w fun e w' => e = .returned (.bool (pinsB l)) ∧ Ex w.heap.size none w w' := by
  obtain ⟨ao, cap, rfl, hx⟩ := hv
  have HX := Lib.hid hx
  clear hx
  go_enter Tryz.func103, Tryz.ntmps103
  go_wp2
  go_loopw [3] (fun i wr => ∃ k : Nat, k ≤ l.length ∧ i = .int .i64 k ∧ Hid (pinsTo l k = true) ∧ Ex w.heap.size none w wr) (fun i _ => l.length - (intOf i).toNat)
  case atStart => exact ⟨0, Nat.zero_le _, rfl, rfl, Ex.refl _ _ _⟩
  case round =>
    obtain ⟨k, hk, rfl, HT, hex⟩ := hrel
    have hsz := hex.size
    by_cases hlt : k < l.length
    · obtain ⟨b, off, p, rfl, _, hb, c0, c1, c2, HP⟩ := pin_get (HX.out.keep (by decide) (fun b _ hb => hex.block b hb (by simp))) k hlt
      have HW := Lib.hid hex
      clear hex
      cases h1 : keyB p.1 with
      | false =>
        have HK : Hid (pinsB l = false) := pinsTo_no hlt (by unfold pinAt; rw [HP.out]; simp [h1])
        go_wp2_with fail
        go_quiet ((go_at_call 100; exact (key03_any _ _).mono fun _ _ h => ⟨h.1, _, h.2.symm⟩))
        go_wp2
        go_ret
        exact ⟨by rw [HK.out]; rfl, by (repeat (first | exact HW.out | refine Ex.drewN ?_ | refine Ex.drew ?_ | refine Ex.setCell ?_ _ none _ (.inr hsz) | refine Ex.alloc ?_ hsz _))⟩
      | true =>
        by_cases h0 : k = 0
        · have h0d : decide (0 < k) = false := by simp [h0]
          have HZ := Lib.hid h0
          clear h0
          by_cases h3 : 1 ≤ p.2.1
          · have h3d : decide (p.2.1 < 1) = false := decide_eq_false (by omega)
            by_cases h4 : p.2.1 ≤ 200
            · have h4d : decide (200 < p.2.1) = false := decide_eq_false (by omega)
              by_cases h5 : p.2.2.size = 32
              · have h5d : (((p.2.2.size : Nat) : Int) != 32) = false := by simp [h5]
                have HK : Hid (pinAt l k = true) := (show _ = _ by unfold pinAt; rw [HP.out]; simp [h1, HZ.out, h3, h4, h5])
                go_wp2_with fail
                go_quiet ((go_at_call 100; exact (key03_any _ _).mono fun _ _ h => ⟨h.1, _, h.2.symm⟩))
                go_wp2
                go_roundw
                case rel => exact ⟨k + 1, by omega, by go_num, (show _ = _ by rw [pinsTo_succ, HT.out, HK.out]; rfl), by (repeat (first | exact HW.out | refine Ex.drewN ?_ | refine Ex.drew ?_ | refine Ex.setCell ?_ _ none _ (.inr hsz) | refine Ex.alloc ?_ hsz _))⟩
                case measure => simp [intOf] <;> omega
              · have h5d : (((p.2.2.size : Nat) : Int) != 32) = true := by simp; omega
                have HK : Hid (pinsB l = false) := pinsTo_no hlt (by unfold pinAt; rw [HP.out]; simp [h1, HZ.out, h3, h4, h5])
                go_wp2_with fail
                go_quiet ((go_at_call 100; exact (key03_any _ _).mono fun _ _ h => ⟨h.1, _, h.2.symm⟩))
                go_wp2
                go_ret
                exact ⟨by rw [HK.out]; rfl, by (repeat (first | exact HW.out | refine Ex.drewN ?_ | refine Ex.drew ?_ | refine Ex.setCell ?_ _ none _ (.inr hsz) | refine Ex.alloc ?_ hsz _))⟩
            · have h4d : decide (200 < p.2.1) = true := decide_eq_true (by omega)
              have HK : Hid (pinsB l = false) := pinsTo_no hlt (by unfold pinAt; rw [HP.out]; simp [h1, HZ.out, h3, h4])
              go_wp2_with fail
              go_quiet ((go_at_call 100; exact (key03_any _ _).mono fun _ _ h => ⟨h.1, _, h.2.symm⟩))
              go_wp2
              go_ret
              exact ⟨by rw [HK.out]; rfl, by (repeat (first | exact HW.out | refine Ex.drewN ?_ | refine Ex.drew ?_ | refine Ex.setCell ?_ _ none _ (.inr hsz) | refine Ex.alloc ?_ hsz _))⟩
          · have h3d : decide (p.2.1 < 1) = true := decide_eq_true (by omega)
            have HK : Hid (pinsB l = false) := pinsTo_no hlt (by unfold pinAt; rw [HP.out]; simp [h1, HZ.out, h3])
            go_wp2_with fail
            go_quiet ((go_at_call 100; exact (key03_any _ _).mono fun _ _ h => ⟨h.1, _, h.2.symm⟩))
            go_wp2
            go_ret
            exact ⟨by rw [HK.out]; rfl, by (repeat (first | exact HW.out | refine Ex.drewN ?_ | refine Ex.drew ?_ | refine Ex.setCell ?_ _ none _ (.inr hsz) | refine Ex.alloc ?_ hsz _))⟩
        · have h0d : 0 < k := by omega
          obtain ⟨i, hi⟩ : ∃ i, i = k - 1 := ⟨_, rfl⟩
          have hw1 : IntKind.i64.wrap ((k : Int) - 1) = i := by rw [show (k : Int) - 1 = i by omega]; exact IntWalk.i64_in _ (by omega)
          have hik : (i : Int) < (l.length : Int) := by omega
          obtain ⟨b', off', q, e', _, hb', c0', _, _, HQ⟩ := pin_get (HX.out.keep (by decide) (fun b _ hb => HW.out.block b hb (by simp))) i (by omega)
          cases e'
          have HI : Hid (l[k - 1]? = some q) := by rw [← hi]; exact HQ
          clear hi
          by_cases h2 : q.1 < p.1
          · have h2d : decide (p.1 ≤ q.1) = false := decide_eq_false (by omega)
            by_cases h3 : 1 ≤ p.2.1
            · have h3d : decide (p.2.1 < 1) = false := decide_eq_false (by omega)
              by_cases h4 : p.2.1 ≤ 200
              · have h4d : decide (200 < p.2.1) = false := decide_eq_false (by omega)
                by_cases h5 : p.2.2.size = 32
                · have h5d : (((p.2.2.size : Nat) : Int) != 32) = false := by simp [h5]
                  have HK : Hid (pinAt l k = true) := (show _ = _ by unfold pinAt; rw [HP.out]; simp [h1, h0, HI.out, h2, h3, h4, h5])
                  go_wp2_with fail
                  go_quiet ((go_at_call 100; exact (key03_any _ _).mono fun _ _ h => ⟨h.1, _, h.2.symm⟩))
                  go_wp2
                  go_roundw
                  case rel => exact ⟨k + 1, by omega, by go_num, (show _ = _ by rw [pinsTo_succ, HT.out, HK.out]; rfl), by (repeat (first | exact HW.out | refine Ex.drewN ?_ | refine Ex.drew ?_ | refine Ex.setCell ?_ _ none _ (.inr hsz) | refine Ex.alloc ?_ hsz _))⟩
                  case measure => simp [intOf] <;> omega
                · have h5d : (((p.2.2.size : Nat) : Int) != 32) = true := by simp; omega
                  have HK : Hid (pinsB l = false) := pinsTo_no hlt (by unfold pinAt; rw [HP.out]; simp [h1, h0, HI.out, h2, h3, h4, h5])
                  go_wp2_with fail
                  go_quiet ((go_at_call 100; exact (key03_any _ _).mono fun _ _ h => ⟨h.1, _, h.2.symm⟩))
                  go_wp2
                  go_ret
                  exact ⟨by rw [HK.out]; rfl, by (repeat (first | exact HW.out | refine Ex.drewN ?_ | refine Ex.drew ?_ | refine Ex.setCell ?_ _ none _ (.inr hsz) | refine Ex.alloc ?_ hsz _))⟩
              · have h4d : decide (200 < p.2.1) = true := decide_eq_true (by omega)
                have HK : Hid (pinsB l = false) := pinsTo_no hlt (by unfold pinAt; rw [HP.out]; simp [h1, h0, HI.out, h2, h3, h4])
                go_wp2_with fail
                go_quiet ((go_at_call 100; exact (key03_any _ _).mono fun _ _ h => ⟨h.1, _, h.2.symm⟩))
                go_wp2
                go_ret
                exact ⟨by rw [HK.out]; rfl, by (repeat (first | exact HW.out | refine Ex.drewN ?_ | refine Ex.drew ?_ | refine Ex.setCell ?_ _ none _ (.inr hsz) | refine Ex.alloc ?_ hsz _))⟩
            · have h3d : decide (p.2.1 < 1) = true := decide_eq_true (by omega)
              have HK : Hid (pinsB l = false) := pinsTo_no hlt (by unfold pinAt; rw [HP.out]; simp [h1, h0, HI.out, h2, h3])
              go_wp2_with fail
              go_quiet ((go_at_call 100; exact (key03_any _ _).mono fun _ _ h => ⟨h.1, _, h.2.symm⟩))
              go_wp2
              go_ret
              exact ⟨by rw [HK.out]; rfl, by (repeat (first | exact HW.out | refine Ex.drewN ?_ | refine Ex.drew ?_ | refine Ex.setCell ?_ _ none _ (.inr hsz) | refine Ex.alloc ?_ hsz _))⟩
          · have h2d : decide (p.1 ≤ q.1) = true := decide_eq_true (by omega)
            have HK : Hid (pinsB l = false) := pinsTo_no hlt (by unfold pinAt; rw [HP.out]; simp [h1, h0, HI.out, h2])
            go_wp2_with fail
            go_quiet ((go_at_call 100; exact (key03_any _ _).mono fun _ _ h => ⟨h.1, _, h.2.symm⟩))
            go_wp2
            go_ret
            exact ⟨by rw [HK.out]; rfl, by (repeat (first | exact HW.out | refine Ex.drewN ?_ | refine Ex.drew ?_ | refine Ex.setCell ?_ _ none _ (.inr hsz) | refine Ex.alloc ?_ hsz _))⟩
    · obtain rfl : k = l.length := by omega
      go_wp2
      go_ret
      exact ⟨by rw [show pinsB l = true from HT.out]; rfl, hex⟩
end Go.Proofs.YtaihmldiglgipaaGreat

namespace Go.Proofs.YtaihmldiglgipaaGreat
open Go.RowKit Go.Sort

theorem emptyS_list : (⟨#[]⟩ : ByteArray).toList = [] := by rw [ByteArray.toList_eq]
theorem emptyS_facts {a : ByteArray} (h : a = ⟨#[]⟩) : (a.toList == (⟨#[]⟩ : ByteArray).toList) = true ∧ (a.toList == []) = true ∧ a.toList.isEmpty = true := by
  subst h
  rw [emptyS_list]; exact ⟨rfl, rfl, rfl⟩
theorem nonemptyS_facts {a : ByteArray} (h : ¬ a = ⟨#[]⟩) : (a.toList == (⟨#[]⟩ : ByteArray).toList) = false ∧ (a.toList == []) = false ∧ a.toList.isEmpty = false := by
  have h1 := (bytes_nbeq h).2
  have h2 : (a.toList == []) = false := by rwa [emptyS_list] at h1
  refine ⟨h1, h2, ?_⟩
  cases hl : a.toList with
  | nil => rw [hl] at h2; cases h2
  | cons x r => rfl
end Go.Proofs.YtaihmldiglgipaaGreat

namespace Go.Proofs.YtaihmldiglgipaaGreat
open Go.RowKit Go.Sort

end Go.Proofs.YtaihmldiglgipaaGreat

namespace Go.Proofs.YtaihmldiglgipaaGreat
open Go.RowKit Go.Sort

end Go.Proofs.YtaihmldiglgipaaGreat
