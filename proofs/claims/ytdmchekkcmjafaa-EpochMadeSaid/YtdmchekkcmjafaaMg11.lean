/- ref03.in, key, PinsOK, numbers, Check: contracts, no statement of the seat. | epoch.Until, Window: contracts, no statement of the seat. -/
import Derived.Test.YtdmchekkcmjafaaMg07
import Derived.Test.YtdmchekkcmjafaaOnlyG
import Derived.Outline
import Derived.Test.YtdmchekkcmjafaaMg09
namespace Go.Proofs.Ytdmchekkcmjafaa
open Go.RowKit Go.Sort

def inB (x most : Int) : Bool := decide (0 ≤ x) && decide (x ≤ most)
def keyB (x : Int) : Bool := decide (0 ≤ x) && decide (x < 64)
theorem inB_iff {x m : Int} : inB x m = true ↔ 0 ≤ x ∧ x ≤ m := by simp [inB]
theorem keyB_iff {x : Int} : keyB x = true ↔ 0 ≤ x ∧ x < 64 := by simp [keyB]
/-- A pin among pins. -/
def pinAt (l : List PinD) (i : Nat) : Bool :=
  match l[i]? with
  | none => true
  | some p => keyB p.1 && (decide (i = 0) || decide ((l[i - 1]?.getD p).1 < p.1)) && decide (1 ≤ p.2.1) && decide (p.2.1 ≤ 200) && decide (p.2.2.size = 32)
def pinsTo (l : List PinD) (k : Nat) : Bool := (List.range k).all (pinAt l)
def pinsB (l : List PinD) : Bool := pinsTo l l.length
theorem pinsTo_succ (l : List PinD) (k : Nat) : pinsTo l (k + 1) = (pinsTo l k && pinAt l k) := by simp [pinsTo, List.range_succ]
theorem pinsTo_no {l : List PinD} {k : Nat} (hk : k < l.length) (h : pinAt l k = false) : pinsB l = false := by
  unfold pinsB pinsTo
  rw [List.all_eq_false]
  exact ⟨k, by simpa using hk, by simp [h]⟩
def M40 : Int := 1099511627776
def kindB (s : St) : Bool :=
  if s.kind = 1 then keyB s.a && decide (s.a ≠ s.author) && decide (1 ≤ s.b) && decide (s.b ≤ 3) && decide (s.time ≤ s.c) && decide (s.c ≤ 2147483648)
  else if s.kind = 2 then inB s.a 199 && decide (s.b = 0) && decide (s.c = 0)
  else if s.kind = 3 then decide (s.a = 0) && decide (s.b = 0) && decide (s.c = 0)
  else true
def numB (s : St) : Bool := inB s.number 199 && inB s.a M40 && inB s.b M40 && inB s.c M40 && s.list.all (fun x => inB x M40) && kindB s
def checkI (s : St) : Int :=
  if keyB s.author = false then 4
  else if s.kind < 1 ∨ (3 < s.kind ∧ s.kind < 10) ∨ 31 < s.kind then 5
  else if inB s.time 2147483648 = false then 9
  else if numB s = false then 2
  else if 64 < s.list.length ∨ 64 < s.pins.length ∨ 4096 < s.body.size then 3
  else if (s.number = 0 ∧ s.prev ≠ ⟨#[]⟩) ∨ (0 < s.number ∧ s.prev.size ≠ 32) ∨ pinsB s.pins = false then 1
  else if s.kind ≤ 3 ∧ (0 < s.list.length ∨ 0 < s.pins.length ∨ s.body ≠ ⟨#[]⟩) then 1
  else 0

set_option maxHeartbeats 400000 in
theorem in03_any (x m : Int) (w : World) : Calls Try.prog 67 #[.int .i64 x, .int .i64 m] w fun e w' => e = .returned (.bool (inB x m)) ∧ w = w' := by
  by_cases h1 : 0 ≤ x
  · have HK : Hid (inB x m = decide (x ≤ m)) := (show _ = _ by simp [inB, h1])
    go_enter Try.func67, Try.ntmps67
    go_wp2
    go_ret
    exact ⟨by rw [HK.out]; rfl, rfl⟩
  · have hd : decide (0 ≤ x) = false := decide_eq_false h1
    have HK : Hid (inB x m = false) := (show _ = _ by simp [inB, h1])
    go_enter Try.func67, Try.ntmps67
    go_wp2
    go_ret
    exact ⟨by rw [HK.out]; rfl, rfl⟩
set_option maxHeartbeats 400000 in
theorem key03_any (x : Int) (w : World) : Calls Try.prog 66 #[.int .i64 x] w fun e w' => e = .returned (.bool (keyB x)) ∧ w = w' := by
  by_cases h1 : 0 ≤ x
  · have HK : Hid (keyB x = decide (x < 64)) := (show _ = _ by simp [keyB, h1])
    go_enter Try.func66, Try.ntmps66
    go_wp2
    go_ret
    exact ⟨by rw [HK.out]; rfl, rfl⟩
  · have hd : decide (0 ≤ x) = false := decide_eq_false h1
    have HK : Hid (keyB x = false) := (show _ = _ by simp [keyB, h1])
    go_enter Try.func66, Try.ntmps66
    go_wp2
    go_ret
    exact ⟨by rw [HK.out]; rfl, rfl⟩
end Go.Proofs.Ytdmchekkcmjafaa

namespace Go.Proofs.Ytdmchekkcmjafaa
open Go.RowKit Go.Sort

theorem box_cell {w : World} {g : Nat} {v : Value} {t : TypeId} (h : w.heap[g]? = some (.cells #[v] t (0, 0))) : w.cell? ⟨g, 0, none⟩ = some v := by rw [cell_of_row _ _ _ _ _ _ h]; rfl
theorem two_boxes (w : World) (v v' : Value) (t : TypeId) : ((w.alloc (.cells #[v] t)).alloc (.cells #[v'] t)).heap[w.heap.size]? = some (.cells #[v] t (0, 0)) ∧ ((w.alloc (.cells #[v] t)).alloc (.cells #[v'] t)).heap[w.heap.size + 1]? = some (.cells #[v'] t (0, 0)) := by
  have h1 := heap_alloc_new w (.cells #[v] t)
  have h2 := heap_alloc_new (w.alloc (.cells #[v] t)) (.cells #[v'] t)
  have h3 := (Ex.new (w.alloc (.cells #[v] t)) (.cells #[v'] t)).block w.heap.size (by simp) (by simp)
  refine ⟨h3.trans h1, ?_⟩
  simpa using h2

theorem OwnS.lower {w : World} {base base' : Nat} {ao : Option Addr} {cap : Nat} {l : List St} (h : OwnS w base ao cap l) (hb : base' ≤ base) : OwnS w base' ao cap l := by
  obtain ⟨xs, e, h1, h2⟩ := h
  refine ⟨xs, e, ⟨h1.1, ?_⟩, fun x hx => (h2 x hx).mono fun b hbb _ => ⟨by omega, hbb.2⟩⟩
  rcases h1.2 with h | ⟨g, c, cur, e1, e2, e3⟩
  · exact .inl h
  · exact .inr ⟨g, c, cur, e1, by omega, e3⟩

set_option maxHeartbeats 1000000 in
theorem until_any {P : Nat → Prop} (v : Value) (l : List St) (t : Int) (w : World) (hv : Sl stRep P w v l) (hm : l.length ≤ 100000) (hl : LightL 1000000 l) :
    Calls Try.prog 11 #[v, .int .i64 t] w fun e w' => ∃ ro rc, e = .returned (.slice ro (l.filter (fun s => decide (s.time ≤ t))).length rc) ∧ OwnS w' w.heap.size ro rc (l.filter (fun s => decide (s.time ≤ t))) ∧ Ex w.heap.size none w w' := by
  obtain ⟨p, hp⟩ : ∃ p : St → Bool, p = (fun s => decide (s.time ≤ t)) := ⟨_, rfl⟩
  have HP := Lib.hid hp
  rw [← hp]
  clear hp
  have HV := Lib.hid hv
  have HL := Lib.hid hl
  clear hv hl
  have EF := Lib.hid (enters_of (P := Try.prog) (f := 27) Try.func27 (by kernel_rfl) rfl)
  have HE : Hid (Ex w.heap.size none w (w.alloc (.cells #[.int .i64 t] 3))) := Ex.new _ _
  go_enter Try.func11, Try.ntmps11
  go_wp2_with fail
  refine (only_any v l 27 #[.pointer (some ⟨w.heap.size, 0, none⟩)] p _ (HV.out.keep (by decide) (fun b _ hb => HE.out.block b hb (by simp))) hm HL.out EF.out ?_).mono ?_
  · intro w1 s lo po ln lc pn pc hx
    rw [HP.out]
    exact untilTest_any (s, ⟨lo, ln, lc⟩, ⟨po, pn, pc⟩) w.heap.size t w1 (box_cell ((hx.block w.heap.size (by simp) (by simp)).trans (heap_alloc_new w _)))
  rintro e w1 ⟨ro, rc, rfl, hown, hex⟩
  have HO := Lib.hid hown
  have HX := Lib.hid hex
  clear hown hex
  go_wp2
  go_ret
  refine ⟨ro, rc, rfl, OwnS.lower HO.out (by simp), HE.out.trans HX.out (by simp) (by simp)⟩

set_option maxHeartbeats 1000000 in
theorem window_any {P : Nat → Prop} (v : Value) (l : List St) (t u : Int) (w : World) (hv : Sl stRep P w v l) (hm : l.length ≤ 100000) (hl : LightL 1000000 l) :
    Calls Try.prog 13 #[v, .int .i64 t, .int .i64 u] w fun e w' => ∃ ro rc, e = .returned (.slice ro (l.filter (fun s => decide (t ≤ s.time) && decide (s.time ≤ u))).length rc) ∧ OwnS w' w.heap.size ro rc (l.filter (fun s => decide (t ≤ s.time) && decide (s.time ≤ u))) ∧ Ex w.heap.size none w w' := by
  obtain ⟨p, hp⟩ : ∃ p : St → Bool, p = (fun s => decide (t ≤ s.time) && decide (s.time ≤ u)) := ⟨_, rfl⟩
  have HP := Lib.hid hp
  rw [← hp]
  clear hp
  have HV := Lib.hid hv
  have HL := Lib.hid hl
  clear hv hl
  have EF := Lib.hid (enters_of (P := Try.prog) (f := 29) Try.func29 (by kernel_rfl) rfl)
  have HE : Hid (Ex w.heap.size none w ((w.alloc (.cells #[.int .i64 t] 3)).alloc (.cells #[.int .i64 u] 3))) := ex_two _ _
  go_enter Try.func13, Try.ntmps13
  go_wp2_with fail
  refine (only_any v l 29 #[.pointer (some ⟨w.heap.size, 0, none⟩), .pointer (some ⟨w.heap.size + 1, 0, none⟩)] p _ (HV.out.keep (by decide) (fun b _ hb => HE.out.block b hb (by simp))) hm HL.out EF.out ?_).mono ?_
  · intro w1 s lo po ln lc pn pc hx
    rw [HP.out]
    have hb := two_boxes w (.int .i64 t) (.int .i64 u) 3
    exact windowTest_any (s, ⟨lo, ln, lc⟩, ⟨po, pn, pc⟩) w.heap.size (w.heap.size + 1) t u w1 (box_cell ((hx.block w.heap.size (by simp <;> omega) (by simp)).trans hb.1)) (box_cell ((hx.block (w.heap.size + 1) (by simp) (by simp)).trans hb.2))
  rintro e w1 ⟨ro, rc, rfl, hown, hex⟩
  have HO := Lib.hid hown
  have HX := Lib.hid hex
  clear hown hex
  go_wp2
  go_ret
  refine ⟨ro, rc, rfl, OwnS.lower HO.out (by simp <;> omega), HE.out.trans HX.out (by simp <;> omega) (by simp)⟩
end Go.Proofs.Ytdmchekkcmjafaa
