/- epoch.Until, Window: contracts, no statement of the seat. -/
import Derived.Test.YtdmchekkcmjafaaOnly
import Derived.Test.YtdmchekkcmjafaaEpochClos
namespace Go.Proofs.Ytdmchekkcmjafaa
open Go.RowKit Go.Sort

theorem box_cell {w : World} {g : Nat} {v : Value} {t : TypeId} (h : w.heap[g]? = some (.cells #[v] t (0, 0))) : w.cell? ⟨g, 0, none⟩ = some v := by rw [cell_of_row _ _ _ _ _ _ h]; rfl
theorem two_boxes (w : World) (v v' : Value) (t : TypeId) : ((w.alloc (.cells #[v] t)).alloc (.cells #[v'] t)).heap[w.heap.size]? = some (.cells #[v] t (0, 0)) ∧ ((w.alloc (.cells #[v] t)).alloc (.cells #[v'] t)).heap[w.heap.size + 1]? = some (.cells #[v'] t (0, 0)) := by
  have h1 := heap_alloc_new w (.cells #[v] t)
  have h2 := heap_alloc_new (w.alloc (.cells #[v] t)) (.cells #[v'] t)
  have h3 := (Ex.new (w.alloc (.cells #[v] t)) (.cells #[v'] t)).block w.heap.size (by simp) (by simp)
  refine ⟨h3.trans h1, ?_⟩
  simpa using h2

theorem OwnS.lower {w : World} {base base' : Nat} {ao : Option Addr} {cap : Nat} {l : List St} (h : OwnS w base ao cap l) (hb : base' ≤ base) : OwnS w base' ao cap l := by
  obtain ⟨xs, e, h1, h2⟩ := h
  refine ⟨xs, e, ⟨h1.1, ?_⟩, fun x hx => (h2 x hx).mono fun b hbb _ => ⟨by omega, hbb.2⟩⟩
  rcases h1.2 with h | ⟨g, c, cur, e1, e2, e3⟩
  · exact .inl h
  · exact .inr ⟨g, c, cur, e1, by omega, e3⟩

set_option maxHeartbeats 1000000 in
theorem until_any {P : Nat → Prop} (v : Value) (l : List St) (t : Int) (w : World) (hv : Sl stRep P w v l) (hm : l.length ≤ 100000) (hl : LightL 1000000 l) :
    Calls Try.prog 11 #[v, .int .i64 t] w fun e w' => ∃ ro rc, e = .returned (.slice ro (l.filter (fun s => decide (s.time ≤ t))).length rc) ∧ OwnS w' w.heap.size ro rc (l.filter (fun s => decide (s.time ≤ t))) ∧ Ex w.heap.size none w w' := by
  obtain ⟨p, hp⟩ : ∃ p : St → Bool, p = (fun s => decide (s.time ≤ t)) := ⟨_, rfl⟩
  have HP := Lib.hid hp
  rw [← hp]
  clear hp
  have HV := Lib.hid hv
  have HL := Lib.hid hl
  clear hv hl
  have EF := Lib.hid (enters_of (P := Try.prog) (f := 27) Try.func27 (by kernel_rfl) rfl)
  have HE : Hid (Ex w.heap.size none w (w.alloc (.cells #[.int .i64 t] 3))) := Ex.new _ _
  go_enter Try.func11, Try.ntmps11
  go_wp2_with fail
  refine (only_any v l 27 #[.pointer (some ⟨w.heap.size, 0, none⟩)] p _ (HV.out.keep (by decide) (fun b _ hb => HE.out.block b hb (by simp))) hm HL.out EF.out ?_).mono ?_
  · intro w1 s lo po ln lc pn pc hx
    rw [HP.out]
    exact untilTest_any (s, ⟨lo, ln, lc⟩, ⟨po, pn, pc⟩) w.heap.size t w1 (box_cell ((hx.block w.heap.size (by simp) (by simp)).trans (heap_alloc_new w _)))
  rintro e w1 ⟨ro, rc, rfl, hown, hex⟩
  have HO := Lib.hid hown
  have HX := Lib.hid hex
  clear hown hex
  go_wp2
  go_ret
  refine ⟨ro, rc, rfl, OwnS.lower HO.out (by simp), HE.out.trans HX.out (by simp) (by simp)⟩

set_option maxHeartbeats 1000000 in
theorem window_any {P : Nat → Prop} (v : Value) (l : List St) (t u : Int) (w : World) (hv : Sl stRep P w v l) (hm : l.length ≤ 100000) (hl : LightL 1000000 l) :
    Calls Try.prog 13 #[v, .int .i64 t, .int .i64 u] w fun e w' => ∃ ro rc, e = .returned (.slice ro (l.filter (fun s => decide (t ≤ s.time) && decide (s.time ≤ u))).length rc) ∧ OwnS w' w.heap.size ro rc (l.filter (fun s => decide (t ≤ s.time) && decide (s.time ≤ u))) ∧ Ex w.heap.size none w w' := by
  obtain ⟨p, hp⟩ : ∃ p : St → Bool, p = (fun s => decide (t ≤ s.time) && decide (s.time ≤ u)) := ⟨_, rfl⟩
  have HP := Lib.hid hp
  rw [← hp]
  clear hp
  have HV := Lib.hid hv
  have HL := Lib.hid hl
  clear hv hl
  have EF := Lib.hid (enters_of (P := Try.prog) (f := 29) Try.func29 (by kernel_rfl) rfl)
  have HE : Hid (Ex w.heap.size none w ((w.alloc (.cells #[.int .i64 t] 3)).alloc (.cells #[.int .i64 u] 3))) := ex_two _ _
  go_enter Try.func13, Try.ntmps13
  go_wp2_with fail
  refine (only_any v l 29 #[.pointer (some ⟨w.heap.size, 0, none⟩), .pointer (some ⟨w.heap.size + 1, 0, none⟩)] p _ (HV.out.keep (by decide) (fun b _ hb => HE.out.block b hb (by simp))) hm HL.out EF.out ?_).mono ?_
  · intro w1 s lo po ln lc pn pc hx
    rw [HP.out]
    have hb := two_boxes w (.int .i64 t) (.int .i64 u) 3
    exact windowTest_any (s, ⟨lo, ln, lc⟩, ⟨po, pn, pc⟩) w.heap.size (w.heap.size + 1) t u w1 (box_cell ((hx.block w.heap.size (by simp <;> omega) (by simp)).trans hb.1)) (box_cell ((hx.block (w.heap.size + 1) (by simp) (by simp)).trans hb.2))
  rintro e w1 ⟨ro, rc, rfl, hown, hex⟩
  have HO := Lib.hid hown
  have HX := Lib.hid hex
  clear hown hex
  go_wp2
  go_ret
  refine ⟨ro, rc, rfl, OwnS.lower HO.out (by simp <;> omega), HE.out.trans HX.out (by simp <;> omega) (by simp)⟩
end Go.Proofs.Ytdmchekkcmjafaa
