/- The bulk of statements that came in: the bytes of their pins' digests; a fork and a slice of bytes that came in. No statement of the seat is proved here. -/
import Derived.Test.YtoeklgbajggndaaGreatOpenStG
import Derived.Test.YtoeklgbajggndaaGreatMg06
namespace Go.Proofs.YtoeklgbajggndaaGreat
open Go.ChangeShapes Go.WideShapes Go.ChangeAt Go.RowKit Go.Deep

theorem bulk_mem {H : Type} {d : DataW H} {l : List (DataW H)} (h : d ∈ l) : Rows.uptoBulk d ≤ Rows.uptoBulkAll l := by
  induction l with
  | nil => cases h
  | cons x r ih =>
    simp only [Rows.uptoBulkAll]
    rcases List.mem_cons.1 h with rfl | h
    · omega
    · have := ih h; omega
/-- So many bytes of digests. -/
def digsum (ps : List PinD) : Nat := (ps.map fun p => p.2.2.size).sum
theorem pinsL_digs (ps : List PinD) : (pinsL ps).length = digsum ps + 24 * ps.length := by
  induction ps with
  | nil => rfl
  | cons p r ih =>
    unfold digsum at ih ⊢
    simp only [pinsL, List.flatMap_cons, List.length_append, pinL, int8_len, strL_len, List.length_cons, List.map_cons, List.sum_cons] at *
    omega
theorem digsum_le {H : Type} : ∀ (ps : List PinD) (D : Nat → DataW H), (∀ i p, ps[i]? = some p → p.2.2.size ≤ Rows.uptoBulk (D i)) → digsum ps ≤ Rows.uptoBulkAll ((List.range ps.length).map D)
  | [], _, _ => Nat.zero_le _
  | p :: r, D, h => by
    have ih := digsum_le r (fun i => D (i + 1)) fun i q hq => h (i + 1) q hq
    have h0 := h 0 p rfl
    have e : digsum (p :: r) = p.2.2.size + digsum r := by simp [digsum]
    have e2 : (List.range (p :: r).length).map D = D 0 :: (List.range r.length).map (fun i => D (i + 1)) := by
      rw [List.length_cons, List.range_succ_eq_map, List.map_cons, List.map_map]
      rfl
    rw [e, e2]
    simp only [Rows.uptoBulkAll]
    omega

section
variable {H : Type} {enc : TypeId × Value → H} {P : Program} {w : World} {base : Nat} {spare : Nat → Bool} {held : Bool}
/-- One field of a struct, a part of the whole. -/
theorem trod_fieldB {t : TypeId} {fs : Array Field} {fuel : Nat} {cs : List Value} {x : DataW H × List MemPlace} (ht : P.underlying t = some (.struct fs)) (h : DataW.trod enc P w base spare held fuel t cs = some x) (i : Nat) (f : Field) (hf : fs[i]? = some f) :
    ∃ n y, DataW.trod enc P w base spare held n f.type ((cs.drop f.offset).take (P.cellsOf f.type)) = some y ∧ Rows.uptoBulk y.1 ≤ Rows.uptoBulk x.1 := by
  obtain ⟨xs, n, _, rfl, _, hl, hg⟩ := DataW.trod_struct ht h
  have := hg i f hf
  have hi : i < xs.length := by rw [hl]; exact (Array.getElem?_eq_some_iff.1 hf).1
  refine ⟨n, xs[i], this.trans (List.getElem?_eq_getElem hi), ?_⟩
  have := bulk_mem (H := H) (d := (xs[i]).1) (l := xs.map (·.1)) (List.mem_map.2 ⟨_, List.getElem_mem hi, rfl⟩)
  simp only [Rows.uptoBulk]
  omega
end

section
variable {H : Type} {enc : TypeId × Value → H} {w : World} {base : Nat} {spare : Nat → Bool} {held : Bool}
set_option maxRecDepth 100000 in
theorem pin_bulk {n : Nat} {cs : List Value} {x : DataW H × List MemPlace} (h : DataW.trod enc Tryz.prog w base spare held n 92 cs = some x) (p : PinD) (hp : cs = pinE p) : p.2.2.size ≤ Rows.uptoBulk x.1 := by
  subst hp
  obtain ⟨f0, f1, f2, hs, _, _, ⟨o2, t2⟩⟩ := Tryz.fieldsPin
  obtain ⟨n2, y, h2, hb⟩ := trod_fieldB hs h 2 f2 rfl
  rw [o2, t2] at h2
  obtain ⟨s, e, ey, _⟩ := DataW.trod_string Tryz.underlying9 h2
  have k2 : Tryz.prog.cellsOf 9 = 1 := by kernel_rfl
  rw [k2] at e
  simp [pinE] at e
  rw [ey] at hb
  simp only [Rows.uptoBulk] at hb
  have : s.data.toList.length = s.size := by rw [Array.length_toList]; rfl
  rw [e]
  omega
set_option maxRecDepth 100000 in
theorem pins_bulk {Q : Nat → Prop} {n : Nat} {cs : List Value} {x : DataW H × List MemPlace} (h : DataW.trod enc Tryz.prog w base spare held n 23 cs = some x) (v : Value) (ps : List PinD) (hc : cs = [v]) (hs : Sl pinRep Q w v ps) : digsum ps ≤ Rows.uptoBulk x.1 := by
  obtain ⟨ao, cap, rfl, hx⟩ := hs
  subst hc
  have hk : Tryz.prog.cellsOf 92 = 3 := by kernel_rfl
  rcases open_slice Tryz.underlying23 h with ⟨e, _⟩ | ⟨a, len, cap', m, n', D, Pl, e, _, hl, hm, hmm, rfl, hi⟩
  · simp at e
    rw [e.2.1]
    exact Nat.zero_le _
  · simp at e
    obtain ⟨rfl, hlen, rfl⟩ := e
    have hlm : len ≤ m := by rw [hmm]; split <;> omega
    have := digsum_le ps D fun i p hp => by
      have hip : i < ps.length := (List.getElem?_eq_some_iff.1 hp).1
      obtain ⟨cs', hc, ht⟩ := hi i (by omega)
      refine pin_bulk ht p ?_
      obtain ⟨_, hlen', hat⟩ := World.cells?_some hc
      obtain ⟨b, off, cs2, e2, _, hr, hR⟩ := hx i hip
      cases e2
      have hR2 : cs2 = pinE p := by
        have e3 : cs2 = pinE ps[i] := hR
        rw [e3, (List.getElem?_eq_some_iff.1 hp).2]
      rw [hk] at hlen' hat
      refine List.ext_getElem? fun j => ?_
      by_cases hj : j < 3
      · rw [← hat j hj]
        have hj2 : j < (pinE p).length := hj
        have h1 := hr j (pinE p)[j] (by rw [hR2]; exact List.getElem?_eq_getElem hj2)
        rw [List.getElem?_eq_getElem hj2, ← h1]
        congr 1
        rw [add_add, Addr.add_lit, ← Nat.add_assoc]
        rfl
      · rw [List.getElem?_eq_none (by omega), List.getElem?_eq_none (by rw [pinE_len]; omega)]
    rw [hlen] at this
    simp only [Rows.uptoBulk]
    omega
set_option maxHeartbeats 1000000 in
set_option maxRecDepth 100000 in
theorem st_bulk {Q : Nat → Prop} {n : Nat} {cs : List Value} {x : DataW H × List MemPlace} (h : DataW.trod enc Tryz.prog w base spare held n 27 cs = some x) (s : St) (hs : stRep.R Q w cs s) : digsum s.pins ≤ Rows.uptoBulk x.1 := by
  obtain ⟨l, p, rfl, _, hp⟩ := hs
  obtain ⟨f0, f1, f2, f3, f4, f5, f6, f7, f8, f9, f10, f11, hf, _, _, _, _, _, _, _, _, _, ⟨o9, t9⟩, _⟩ := Tryz.fieldsSt
  obtain ⟨n9, y, h9, hb⟩ := trod_fieldB hf h 9 f9 rfl
  rw [o9, t9] at h9
  have k4 : Tryz.prog.cellsOf 23 = 1 := by kernel_rfl
  rw [k4] at h9
  exact Nat.le_trans (pins_bulk h9 p.v s.pins rfl hp) hb
/-- A slice of bytes that came in. -/
theorem bytes_in {a : Option Addr} {len cap : Nat} {d : DataW H} {p : List MemPlace} (h : DataW.Trod enc Tryz.prog w base spare held 30 (.slice a len cap) d p) :
    ∃ l : List UInt8, l.length = len ∧ len ≤ 9223372036854775807 ∧ SlC (fun _ => True) w (.slice a len cap) l := by
  obtain ⟨fuel, hf⟩ := h
  have hcap : len ≤ cap := by
    rcases DataW.trod_slice Tryz.underlying30 hf with ⟨e, _⟩ | ⟨a', len', cap', elems, rest, n, _, e, _, _, hl, _⟩
    · simp [Value.cells] at e
      omega
    · simp [Value.cells] at e
      omega
  obtain ⟨ao, n, c, xs, e, hl, hm, hs⟩ := sl_opened byRep Tryz.underlying30 (by kernel_rfl) (by decide) (fun n cs x h => by
    obtain ⟨i, e, _, hw⟩ := DataW.trod_int Tryz.underlying5 h
    simp only [Lit.wf, Bool.and_eq_true, decide_eq_true_eq] at hw
    have h1 : IntKind.u8.max = 255 := by decide
    have h2 : IntKind.u8.min = 0 := by decide
    rw [h1, h2] at hw
    refine ⟨UInt8.ofNat i.toNat, ?_⟩
    show cs = [.int .u8 ((UInt8.ofNat i.toNat).toNat : Int)]
    rw [e, UInt8.toNat_ofNat_of_lt' (by show i.toNat < 256; omega), Int.toNat_of_nonneg (by omega)]) hf
  simp [Value.cells] at e
  obtain ⟨rfl, rfl, rfl⟩ := e
  obtain ⟨a', c', e', hx⟩ := hs
  cases e'
  exact ⟨xs, rfl, hm, ⟨a, cap, rfl, hcap, hx⟩⟩
theorem Tryz.fieldsFork : ∃ f0 f1 : Field, Tryz.prog.underlying 29 = some (.struct #[f0, f1]) ∧ (f0.offset = 0 ∧ f0.type = 27) ∧ (f1.offset = 13 ∧ f1.type = 27) := ⟨_, _, Tryz.underlying29, ⟨rfl, rfl⟩, ⟨rfl, rfl⟩⟩
set_option maxRecDepth 100000 in
/-- A fork that came in. -/
theorem fork_in {W : World} {r : Reach} {b0 : Nat} {v : Value} {d : DataW H} {p : List MemPlace} (hv : Value.okWide Tryz.prog W r b0 29 v) (h : DataW.Trod enc Tryz.prog w base spare held 29 v d p) :
    ∃ (s t : St) (l m l' m' : Sv), v = .agg (stE (s, l, m) ++ stE (t, l', m')).toArray ∧ Lies (fun _ => True) w (s, l, m) ∧ Lies (fun _ => True) w (t, l', m') ∧
      (s.list.length ≤ 9223372036854775807 ∧ s.pins.length ≤ 9223372036854775807) ∧ (t.list.length ≤ 9223372036854775807 ∧ t.pins.length ≤ 9223372036854775807) ∧ digsum s.pins ≤ Rows.uptoBulk d ∧ digsum t.pins ≤ Rows.uptoBulk d := by
  obtain ⟨f0, f1, hs, ⟨o0, t0⟩, ⟨o1, t1⟩⟩ := Tryz.fieldsFork
  have hc : Tryz.prog.cellsOf 29 = 26 := by kernel_rfl
  have k0 : Tryz.prog.cellsOf 27 = 13 := by kernel_rfl
  simp only [Value.okWide, hs] at hv
  obtain ⟨cs, rfl, hn, _⟩ := hv
  rw [hc] at hn
  obtain ⟨fuel, hf⟩ := h
  simp only [Value.cells] at hf
  obtain ⟨m0, y0, i0, b0⟩ := trod_fieldB hs hf 0 f0 rfl
  obtain ⟨m1, y1, i1, b1⟩ := trod_fieldB hs hf 1 f1 rfl
  rw [o0, t0, k0] at i0
  rw [o1, t1, k0] at i1
  obtain ⟨s, hR0, hs1, hs2⟩ := st_cells i0
  obtain ⟨t, hR1, ht1, ht2⟩ := st_cells i1
  have hb0 := Nat.le_trans (st_bulk i0 s hR0) b0
  have hb1 := Nat.le_trans (st_bulk i1 t hR1) b1
  obtain ⟨l, m, e0, hl⟩ := hR0
  obtain ⟨l', m', e1, hl'⟩ := hR1
  refine ⟨s, t, l, m, l', m', ?_, hl, hl', ⟨hs1, hs2⟩, ⟨ht1, ht2⟩, hb0, hb1⟩
  rw [← e0, ← e1]
  congr 1
  apply Array.ext'
  rw [List.drop_zero, show List.take 13 (cs.toList.drop 13) = cs.toList.drop 13 from List.take_of_length_le (by rw [List.length_drop, Array.length_toList]; omega), List.take_append_drop]
end
end Go.Proofs.YtoeklgbajggndaaGreat
