/- Arguments that are slices of statements, as the rows hand them in, in the words of these texts. No statement of the seat is proved here. -/
import Derived.Test.YtoeklgbajggndaaGreatRows
import Derived.Test.YtoeklgbajggndaaGreatMg02
import Derived.WalkKit
import Derived.ProofKit
import Derived.OpenShut
import Derived.ShutString
import Derived.ChangeOld
import Derived.Below
import Derived.Deep.Slices
import Derived.Laws.IdiomArrays
namespace Go.Proofs.YtoeklgbajggndaaGreat
open Go.ChangeShapes Go.WideShapes Go.ChangeAt Go.RowKit Go.Deep

section
variable {H : Type} {enc : TypeId × Value → H} {P : Program} {w : World} {base : Nat} {spare : Nat → Bool} {held : Bool}
/-- A slice of whatever elements, each read by itself. -/
theorem sl_opened {α : Type} [Inhabited α] (r : Rep α) {t e : TypeId} {fuel : Nat} {cs : List Value} {x : DataW H × List MemPlace} (ht : P.underlying t = some (.slice e)) (hk : P.cellsOf e = r.k) (h0 : 0 < r.k)
    (hel : ∀ n cs x, DataW.trod enc P w base spare held n e cs = some x → ∃ y : α, r.R (fun _ => True) w cs y) (h : DataW.trod enc P w base spare held fuel t cs = some x) :
    ∃ (ao : Option Addr) (len cap : Nat) (xs : List α), cs = [.slice ao len cap] ∧ xs.length = len ∧ len ≤ 9223372036854775807 ∧ Sl r (fun _ => True) w (.slice ao len cap) xs := by
  rcases open_slice ht h with ⟨rfl, _⟩ | ⟨a, len, cap, m, n, D, Pl, rfl, _, hl, hm, hmm, _, hi⟩
  · exact ⟨none, 0, 0, [], rfl, rfl, by omega, Sl.nil _ _⟩
  · have hlm : len ≤ m := by rw [hmm]; split <;> omega
    have each : ∀ i, i < len → ∃ q : List Value × α, (∀ j v, q.1[j]? = some v → w.cell? (a.add (i * r.k + j)) = some v) ∧ r.R (fun _ => True) w q.1 q.2 := fun i hlt => by
      obtain ⟨cs', hc, ht'⟩ := hi i (by omega)
      rw [hk] at hc
      obtain ⟨_, hlen, hat⟩ := World.cells?_some hc
      obtain ⟨y, hy⟩ := hel _ _ _ ht'
      refine ⟨(cs', y), fun j v hv => ?_, hy⟩
      have hj : j < r.k := by rw [← hlen]; exact (List.getElem?_eq_some_iff.1 hv).1
      rw [← add_add, hat j hj]; exact hv
    have ⟨q, hq⟩ := choose_lt each
    refine ⟨some a, len, cap, (List.range len).map fun i => (q i).2, rfl, by simp, by unfold maxLen at hm; omega, some a, cap, by simp, fun i hi => ?_⟩
    have hi' : i < len := by simpa using hi
    obtain ⟨b, off, spot⟩ := a
    obtain ⟨g0, g1⟩ := hq i hi'
    have hlen0 := r.len (hq 0 (by omega)).2
    have h00 := (hq 0 (by omega)).1 0 ((q 0).1[0]'(by omega)) (List.getElem?_eq_getElem _)
    have hs : spot = none := by simpa [Addr.add] using World.cell?_spot h00
    subst hs
    refine ⟨b, off, (q i).1, rfl, trivial, fun j v hv => ?_, by simpa using g1⟩
    have := g0 j v hv
    rw [Addr.add_lit, ← Nat.add_assoc] at this
    exact this
/-- One field of a struct. -/
theorem trod_field {t : TypeId} {fs : Array Field} {fuel : Nat} {cs : List Value} {x : DataW H × List MemPlace} (ht : P.underlying t = some (.struct fs)) (h : DataW.trod enc P w base spare held fuel t cs = some x) (i : Nat) (f : Field) (hf : fs[i]? = some f) :
    ∃ n y, DataW.trod enc P w base spare held n f.type ((cs.drop f.offset).take (P.cellsOf f.type)) = some y := by
  obtain ⟨xs, n, _, _, _, hl, hg⟩ := DataW.trod_struct ht h
  have := hg i f hf
  have hi : i < xs.length := by rw [hl]; exact (Array.getElem?_eq_some_iff.1 hf).1
  exact ⟨n, _, this.trans (List.getElem?_eq_getElem hi)⟩
theorem trod_len {t : TypeId} {fs : Array Field} {fuel : Nat} {cs : List Value} {x : DataW H × List MemPlace} (ht : P.underlying t = some (.struct fs)) (h : DataW.trod enc P w base spare held fuel t cs = some x) : cs.length = P.cellsOf t := by
  obtain ⟨_, _, _, _, hl, _, _⟩ := DataW.trod_struct ht h
  exact hl
end

section
variable {H : Type} {enc : TypeId × Value → H} {w : World} {base : Nat} {spare : Nat → Bool} {held : Bool}
theorem Tryz.fieldsPin : ∃ f0 f1 f2 : Field, Tryz.prog.underlying 92 = some (.struct #[f0, f1, f2]) ∧ (f0.offset = 0 ∧ f0.type = 3) ∧ (f1.offset = 1 ∧ f1.type = 3) ∧ (f2.offset = 2 ∧ f2.type = 9) := ⟨_, _, _, Tryz.underlying92, ⟨rfl, rfl⟩, ⟨rfl, rfl⟩, ⟨rfl, rfl⟩⟩
theorem int_cell {n : Nat} {cs : List Value} {x : DataW H × List MemPlace} (h : DataW.trod enc Tryz.prog w base spare held n 3 cs = some x) : ∃ i : Int, cs = [.int .i64 i] ∧ i ≤ 9223372036854775807 := by
  obtain ⟨i, e, _, hw⟩ := DataW.trod_int Tryz.underlying3 h
  refine ⟨i, e, ?_⟩
  simp only [Lit.wf, Bool.and_eq_true, decide_eq_true_eq] at hw
  have : IntKind.i64.max = 9223372036854775807 := by decide
  omega
theorem str_cell {n : Nat} {cs : List Value} {x : DataW H × List MemPlace} (h : DataW.trod enc Tryz.prog w base spare held n 9 cs = some x) : ∃ s : ByteArray, cs = [.string s] := by
  obtain ⟨s, e, _, _⟩ := DataW.trod_string Tryz.underlying9 h
  exact ⟨s, e⟩
set_option maxRecDepth 100000 in
theorem pin_cells {n : Nat} {cs : List Value} {x : DataW H × List MemPlace} (h : DataW.trod enc Tryz.prog w base spare held n 92 cs = some x) : ∃ p : PinD, cs = pinE p := by
  obtain ⟨f0, f1, f2, hs, ⟨o0, t0⟩, ⟨o1, t1⟩, ⟨o2, t2⟩⟩ := Tryz.fieldsPin
  have hl : cs.length = 3 := (trod_len hs h).trans (by kernel_rfl)
  obtain ⟨n0, _, h0⟩ := trod_field hs h 0 f0 rfl
  obtain ⟨n1, _, h1⟩ := trod_field hs h 1 f1 rfl
  obtain ⟨n2, _, h2⟩ := trod_field hs h 2 f2 rfl
  rw [o0, t0] at h0
  rw [o1, t1] at h1
  rw [o2, t2] at h2
  obtain ⟨a, e0, _⟩ := int_cell h0
  obtain ⟨b, e1, _⟩ := int_cell h1
  obtain ⟨c, e2⟩ := str_cell h2
  have k1 : Tryz.prog.cellsOf 3 = 1 := by kernel_rfl
  have k2 : Tryz.prog.cellsOf 9 = 1 := by kernel_rfl
  rw [k1] at e0 e1
  rw [k2] at e2
  match cs, hl with
  | [c0, c1, c2], _ =>
    simp at e0 e1 e2
    exact ⟨(a, b, c), by rw [e0, e1, e2]; rfl⟩
theorem ints_sl_of {n : Nat} {cs : List Value} {x : DataW H × List MemPlace} (h : DataW.trod enc Tryz.prog w base spare held n 22 cs = some x) : ∃ (v : Sv) (xs : List Int), cs = [v.v] ∧ Sl intRep (fun _ => True) w v.v xs ∧ xs.length ≤ 9223372036854775807 := by
  obtain ⟨ao, len, cap, xs, e, hl, hm, hs⟩ := sl_opened intRep Tryz.underlying22 (by kernel_rfl) (by decide) (fun n cs x h => by obtain ⟨i, e, _⟩ := int_cell h; exact ⟨i, e⟩) h
  exact ⟨⟨ao, len, cap⟩, xs, e, hs, by omega⟩
set_option maxRecDepth 100000 in
theorem pins_sl_of {n : Nat} {cs : List Value} {x : DataW H × List MemPlace} (h : DataW.trod enc Tryz.prog w base spare held n 23 cs = some x) : ∃ (v : Sv) (xs : List PinD), cs = [v.v] ∧ Sl pinRep (fun _ => True) w v.v xs ∧ xs.length ≤ 9223372036854775807 := by
  obtain ⟨ao, len, cap, xs, e, hl, hm, hs⟩ := sl_opened pinRep Tryz.underlying23 (by kernel_rfl) (by decide) (fun n cs x h => pin_cells h) h
  exact ⟨⟨ao, len, cap⟩, xs, e, hs, by omega⟩
theorem Tryz.fieldsSeal : ∃ f0 f1 : Field, Tryz.prog.underlying 25 = some (.struct #[f0, f1]) ∧ (f0.offset = 0 ∧ f0.type = 3) ∧ (f1.offset = 1 ∧ f1.type = 9) := ⟨_, _, Tryz.underlying25, ⟨rfl, rfl⟩, ⟨rfl, rfl⟩⟩
theorem Tryz.fieldsSt : ∃ f0 f1 f2 f3 f4 f5 f6 f7 f8 f9 f10 f11 : Field, Tryz.prog.underlying 27 = some (.struct #[f0, f1, f2, f3, f4, f5, f6, f7, f8, f9, f10, f11]) ∧ (f0.offset = 0 ∧ f0.type = 3) ∧ (f1.offset = 1 ∧ f1.type = 3) ∧ (f2.offset = 2 ∧ f2.type = 9) ∧ (f3.offset = 3 ∧ f3.type = 3) ∧ (f4.offset = 4 ∧ f4.type = 3) ∧ (f5.offset = 5 ∧ f5.type = 3) ∧ (f6.offset = 6 ∧ f6.type = 3) ∧ (f7.offset = 7 ∧ f7.type = 3) ∧ (f8.offset = 8 ∧ f8.type = 22) ∧ (f9.offset = 9 ∧ f9.type = 23) ∧ (f10.offset = 10 ∧ f10.type = 9) ∧ (f11.offset = 11 ∧ f11.type = 25) :=
  ⟨_, _, _, _, _, _, _, _, _, _, _, _, Tryz.underlying27, ⟨rfl, rfl⟩, ⟨rfl, rfl⟩, ⟨rfl, rfl⟩, ⟨rfl, rfl⟩, ⟨rfl, rfl⟩, ⟨rfl, rfl⟩, ⟨rfl, rfl⟩, ⟨rfl, rfl⟩, ⟨rfl, rfl⟩, ⟨rfl, rfl⟩, ⟨rfl, rfl⟩, ⟨rfl, rfl⟩⟩
set_option maxHeartbeats 1000000 in
set_option maxRecDepth 100000 in
theorem st_cells {n : Nat} {cs : List Value} {x : DataW H × List MemPlace} (h : DataW.trod enc Tryz.prog w base spare held n 27 cs = some x) : ∃ s : St, stRep.R (fun _ => True) w cs s ∧ s.list.length ≤ 9223372036854775807 ∧ s.pins.length ≤ 9223372036854775807 := by
  obtain ⟨f0, f1, f2, f3, f4, f5, f6, f7, f8, f9, f10, f11, hs, ⟨o0, t0⟩, ⟨o1, t1⟩, ⟨o2, t2⟩, ⟨o3, t3⟩, ⟨o4, t4⟩, ⟨o5, t5⟩, ⟨o6, t6⟩, ⟨o7, t7⟩, ⟨o8, t8⟩, ⟨o9, t9⟩, ⟨o10, t10⟩, ⟨o11, t11⟩⟩ := Tryz.fieldsSt
  have hl : cs.length = 13 := (trod_len hs h).trans (by kernel_rfl)
  obtain ⟨n0, _, h0⟩ := trod_field hs h 0 f0 rfl
  obtain ⟨n1, _, h1⟩ := trod_field hs h 1 f1 rfl
  obtain ⟨n2, _, h2⟩ := trod_field hs h 2 f2 rfl
  obtain ⟨n3, _, h3⟩ := trod_field hs h 3 f3 rfl
  obtain ⟨n4, _, h4⟩ := trod_field hs h 4 f4 rfl
  obtain ⟨n5, _, h5⟩ := trod_field hs h 5 f5 rfl
  obtain ⟨n6, _, h6⟩ := trod_field hs h 6 f6 rfl
  obtain ⟨n7, _, h7⟩ := trod_field hs h 7 f7 rfl
  obtain ⟨n8, _, h8⟩ := trod_field hs h 8 f8 rfl
  obtain ⟨n9, _, h9⟩ := trod_field hs h 9 f9 rfl
  obtain ⟨n10, _, h10⟩ := trod_field hs h 10 f10 rfl
  obtain ⟨n11, _, h11⟩ := trod_field hs h 11 f11 rfl
  rw [o0, t0] at h0
  rw [o1, t1] at h1
  rw [o2, t2] at h2
  rw [o3, t3] at h3
  rw [o4, t4] at h4
  rw [o5, t5] at h5
  rw [o6, t6] at h6
  rw [o7, t7] at h7
  rw [o8, t8] at h8
  rw [o9, t9] at h9
  rw [o10, t10] at h10
  rw [o11, t11] at h11
  obtain ⟨g0, g1, hg, ⟨q0, u0⟩, ⟨q1, u1⟩⟩ := Tryz.fieldsSeal
  obtain ⟨m0, _, i0⟩ := trod_field hg h11 0 g0 rfl
  obtain ⟨m1, _, i1⟩ := trod_field hg h11 1 g1 rfl
  rw [q0, u0] at i0
  rw [q1, u1] at i1
  obtain ⟨a0, e0, _⟩ := int_cell h0
  obtain ⟨a1, e1, _⟩ := int_cell h1
  obtain ⟨a2, e2⟩ := str_cell h2
  obtain ⟨a3, e3, _⟩ := int_cell h3
  obtain ⟨a4, e4, _⟩ := int_cell h4
  obtain ⟨a5, e5, _⟩ := int_cell h5
  obtain ⟨a6, e6, _⟩ := int_cell h6
  obtain ⟨a7, e7, _⟩ := int_cell h7
  obtain ⟨l, xs, e8, hl8, hb8⟩ := ints_sl_of h8
  obtain ⟨p, ys, e9, hl9, hb9⟩ := pins_sl_of h9
  obtain ⟨a10, e10⟩ := str_cell h10
  obtain ⟨a11, e11, _⟩ := int_cell i0
  obtain ⟨a12, e12⟩ := str_cell i1
  have k1 : Tryz.prog.cellsOf 3 = 1 := by kernel_rfl
  have k2 : Tryz.prog.cellsOf 9 = 1 := by kernel_rfl
  have k3 : Tryz.prog.cellsOf 22 = 1 := by kernel_rfl
  have k4 : Tryz.prog.cellsOf 23 = 1 := by kernel_rfl
  have k5 : Tryz.prog.cellsOf 25 = 2 := by kernel_rfl
  rw [k1] at e0 e1 e3 e4 e5 e6 e7
  rw [k2] at e2 e10
  rw [k3] at e8
  rw [k4] at e9
  rw [k5, k1] at e11
  rw [k5, k2] at e12
  match cs, hl with
  | [c0, c1, c2, c3, c4, c5, c6, c7, c8, c9, c10, c11, c12], _ =>
    simp at e0 e1 e2 e3 e4 e5 e6 e7 e8 e9 e10 e11 e12
    exact ⟨⟨a0, a1, a2, a3, a4, a5, a6, a7, xs, ys, a10, a11, a12⟩, ⟨l, p, by rw [e0, e1, e2, e3, e4, e5, e6, e7, e8, e9, e10, e11, e12]; rfl, hl8, hl9⟩, hb8, hb9⟩
/-- A statement whose lists are of a length that a machine bears. -/
def stRepL : Rep St where
  k := 13
  R := fun P w cs s => stRep.R P w cs s ∧ s.list.length ≤ 9223372036854775807 ∧ s.pins.length ≤ 9223372036854775807
  len := fun h => stRep.len h.1
  one := fun h => stRep.one h.1
  keep := fun h hx => ⟨stRep.keep h.1 hx, h.2⟩
  mono := fun h hx => ⟨stRep.mono h.1 hx, h.2⟩
end
end Go.Proofs.YtoeklgbajggndaaGreat
