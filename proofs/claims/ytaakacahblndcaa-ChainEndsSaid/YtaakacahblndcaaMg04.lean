/- ref03.in, key, PinsOK, numbers, Check: contracts, no statement of the seat. | ref03.PinsOK: a contract, no statement of the seat. | Empty and not empty texts: facts for walks. No statement of the seat. | lists.Only at statements: a contract, no statement of the seat. -/
import Derived.Test.YtaakacahblndcaaMg02
import Derived.Test.YtaakacahblndcaaOnlyG
import Derived.Outline
import Derived.BigQuiet
import Derived.IntWalk
import Derived.Test.YtaakacahblndcaaMg00
namespace Go.Proofs.Ytaakacahblndcaa
open Go.RowKit Go.Sort

def inB (x most : Int) : Bool := decide (0 ≤ x) && decide (x ≤ most)
def keyB (x : Int) : Bool := decide (0 ≤ x) && decide (x < 64)
theorem inB_iff {x m : Int} : inB x m = true ↔ 0 ≤ x ∧ x ≤ m := by simp [inB]
theorem keyB_iff {x : Int} : keyB x = true ↔ 0 ≤ x ∧ x < 64 := by simp [keyB]
/-- A pin among pins. -/
def pinAt (l : List PinD) (i : Nat) : Bool :=
  match l[i]? with
  | none => true
  | some p => keyB p.1 && (decide (i = 0) || decide ((l[i - 1]?.getD p).1 < p.1)) && decide (1 ≤ p.2.1) && decide (p.2.1 ≤ 200) && decide (p.2.2.size = 32)
def pinsTo (l : List PinD) (k : Nat) : Bool := (List.range k).all (pinAt l)
def pinsB (l : List PinD) : Bool := pinsTo l l.length
theorem pinsTo_succ (l : List PinD) (k : Nat) : pinsTo l (k + 1) = (pinsTo l k && pinAt l k) := by simp [pinsTo, List.range_succ]
theorem pinsTo_no {l : List PinD} {k : Nat} (hk : k < l.length) (h : pinAt l k = false) : pinsB l = false := by
  unfold pinsB pinsTo
  rw [List.all_eq_false]
  exact ⟨k, by simpa using hk, by simp [h]⟩
def M40 : Int := 1099511627776
def kindB (s : St) : Bool :=
  if s.kind = 1 then keyB s.a && decide (s.a ≠ s.author) && decide (1 ≤ s.b) && decide (s.b ≤ 3) && decide (s.time ≤ s.c) && decide (s.c ≤ 2147483648)
  else if s.kind = 2 then inB s.a 199 && decide (s.b = 0) && decide (s.c = 0)
  else if s.kind = 3 then decide (s.a = 0) && decide (s.b = 0) && decide (s.c = 0)
  else true
def numB (s : St) : Bool := inB s.number 199 && inB s.a M40 && inB s.b M40 && inB s.c M40 && s.list.all (fun x => inB x M40) && kindB s
def checkI (s : St) : Int :=
  if keyB s.author = false then 4
  else if s.kind < 1 ∨ (3 < s.kind ∧ s.kind < 10) ∨ 31 < s.kind then 5
  else if inB s.time 2147483648 = false then 9
  else if numB s = false then 2
  else if 64 < s.list.length ∨ 64 < s.pins.length ∨ 4096 < s.body.size then 3
  else if (s.number = 0 ∧ s.prev ≠ ⟨#[]⟩) ∨ (0 < s.number ∧ s.prev.size ≠ 32) ∨ pinsB s.pins = false then 1
  else if s.kind ≤ 3 ∧ (0 < s.list.length ∨ 0 < s.pins.length ∨ s.body ≠ ⟨#[]⟩) then 1
  else 0

end Go.Proofs.Ytaakacahblndcaa

namespace Go.Proofs.Ytaakacahblndcaa
open Go.RowKit Go.Sort

/-- A pin of a slice: its cells. -/
theorem pin_get {P : Nat → Prop} {w : World} {ao : Option Addr} {xs : List PinD} (h : SlAt pinRep P w ao xs) (i : Nat) (hi : i < xs.length) : ∃ b off p, ao = some ⟨b, off, none⟩ ∧ P b ∧ b < w.heap.size ∧ w.cell? ⟨b, off + i * 3, none⟩ = some (.int .i64 p.1) ∧ w.cell? ⟨b, off + i * 3 + 1, none⟩ = some (.int .i64 p.2.1) ∧ w.cell? ⟨b, off + i * 3 + 2, none⟩ = some (.string p.2.2) ∧ Hid (xs[i]? = some p) := by
  obtain ⟨b, off, cs, e, hp, hr, hR⟩ := h i hi
  have hcs : cs = pinE xs[i] := hR
  subst hcs
  exact ⟨b, off, xs[i], e, hp, rangeAt_lt hr (by rw [pinE_len]; omega), hr 0 _ rfl, hr 1 _ rfl, hr 2 _ rfl, (show _ = _ by simp [hi])⟩

end Go.Proofs.Ytaakacahblndcaa

namespace Go.Proofs.Ytaakacahblndcaa
open Go.RowKit Go.Sort

theorem emptyS_list : (⟨#[]⟩ : ByteArray).toList = [] := by rw [ByteArray.toList_eq]
theorem emptyS_facts {a : ByteArray} (h : a = ⟨#[]⟩) : (a.toList == (⟨#[]⟩ : ByteArray).toList) = true ∧ (a.toList == []) = true ∧ a.toList.isEmpty = true := by
  subst h
  rw [emptyS_list]; exact ⟨rfl, rfl, rfl⟩
theorem nonemptyS_facts {a : ByteArray} (h : ¬ a = ⟨#[]⟩) : (a.toList == (⟨#[]⟩ : ByteArray).toList) = false ∧ (a.toList == []) = false ∧ a.toList.isEmpty = false := by
  have h1 := (bytes_nbeq h).2
  have h2 : (a.toList == []) = false := by rwa [emptyS_list] at h1
  refine ⟨h1, h2, ?_⟩
  cases hl : a.toList with
  | nil => rw [hl] at h2; cases h2
  | cons x r => rfl
end Go.Proofs.Ytaakacahblndcaa

namespace Go.Proofs.Ytaakacahblndcaa
open Go.RowKit Go.Sort

end Go.Proofs.Ytaakacahblndcaa
