/- What the walks of the statements about routes share. No statement of the seat. -/
import Derived.Test.YtfllcohnfboccaaGreatGraphDG
import Derived.Test.YtfllcohnfboccaaGreatMg15
import Derived.Test.YtfllcohnfboccaaGreatMg01
import Derived.Test.YtfllcohnfboccaaGreatMg16
import Derived.Test.YtfllcohnfboccaaGreatMg14
import Derived.ChangeKeysEq
namespace Go.Proofs.YtfllcohnfboccaaGreat
open Go.RowKit Go.Sort

/-- Dice.Graph, with numbers of keys as a natural number, and the edges as a slice that is read. -/
theorem graph_w (N p : Nat) (w : World) (hd : DiceOK N w p) (hN : N ≤ w.heap.size) :
    Calls Tryz.prog 34 #[.pointer (some ⟨p, 0, none⟩)] w fun e w' => ∃ (sn : Nat) (eo : Option Addr) (en ec : Nat) (go : Option Addr) (gn gc : Nat) (es : List EdD) (gone : List Int), e = .returned (.agg #[.int .i64 sn, .slice eo en ec, .slice go gn gc]) ∧ (2 ≤ sn ∧ sn ≤ 9) ∧ (es.length = en ∧ en ≤ 22 ∧ en ≤ ec) ∧ GrOK (sn : Int) es gone ∧ SlAt edRep (fun b => w.heap.size ≤ b) w' eo es ∧ DiceOK N w' p ∧ Ex w.heap.size (some p) w w' := by
  refine (graphD_w N p w hd hN).mono ?_
  rintro e w' ⟨sz, eo, en, ec, go, gn, gc, es, gone, rfl, ⟨h2, h9⟩, ⟨hl, h22⟩, _, hG, hO, _, hD, hx⟩
  obtain ⟨sn, rfl⟩ : ∃ sn : Nat, sz = (sn : Int) := ⟨sz.toNat, by omega⟩
  refine ⟨sn, eo, en, ec, go, gn, gc, es, gone, rfl, ⟨by omega, by omega⟩, ⟨hl, h22, ?_⟩, hG, ?_, hD, hx⟩
  · rcases hO.cases with ⟨_, _, e⟩ | ⟨g, _, _, _, h⟩
    · rw [e] at hl; simp at hl; omega
    · omega
  · rcases hO.cases with ⟨_, _, e⟩ | ⟨g, e, hg, _, _⟩
    · rw [e]; exact SlAt.nil _ _ _
    · rw [e] at hO; rw [e]; exact val_sl hg (hO.holds edE_len)
theorem GrOK.graphT {salt : ByteArray} {sn : Nat} {es : List EdD} {gone : List Int} (h : GrOK (sn : Int) es gone) (hs : salt.size ≤ 1000) (h9 : sn ≤ 9) : GraphT salt es :=
  graphT_of hs (by have := h.len; omega) fun e he => by
    have := (h.edge e he).1
    omega
theorem GrOK.rng {salt : ByteArray} {sn : Nat} {es : List EdD} {gone : List Int} (h : GrOK (sn : Int) es gone) (a b : Int) (hm : a ∈ tabI salt es b) : 0 ≤ a ∧ a < (sn : Int) := by
  obtain ⟨e, he, h1⟩ := mem_nbI.1 (mem_tabI.1 hm)
  have := (h.edge e he).1
  rcases h1 with h1 | h1 <;> omega
theorem grOK_nil (sn : Nat) (h : sn ≤ 12) : GrOK (sn : Int) [] [] where
  size := by omega
  len := by simp
  edge := fun e he => by cases he
  sorted := fun i a b ha _ => by simp at ha
  gone := ⟨by simp, fun g hg => by cases hg⟩
/-- A step, as two cells. -/
def prE (e : Int × Int) : List Value := [.int .i64 e.1, .int .i64 e.2]
theorem prE_len (e : Int × Int) : (prE e).length = 2 := rfl
theorem one_prE : ∀ e, ∀ v ∈ prE e, v.oneCell' = true := fun e v hv => by simp [prE] at hv; rcases hv with rfl | rfl <;> rfl
theorem infoA2 : (Tryz.prog.info? 131).map (fun i => (i.zero, i.size, i.bytes)) = some (some (.agg #[.int .i64 0, .int .i64 0]), 2, 16) := by kernel_rfl
theorem pr_get {w : World} {base : Nat} {ao : Option Addr} {cap : Nat} {xs : List (Int × Int)} (h : OwnE prE 2 131 w base ao cap xs) (i : Nat) (hi : i < xs.length) :
    ∃ b e, ao = some ⟨b, 0, none⟩ ∧ w.cell? ⟨b, i * 2, none⟩ = some (.int .i64 e.1) ∧ w.cell? ⟨b, i * 2 + 1, none⟩ = some (.int .i64 e.2) ∧ Hid (xs[i]? = some e) := by
  rcases h.cases with ⟨_, _, e⟩ | ⟨g, e, _, _, _⟩
  · subst e; simp at hi
  · subst e
    have hh := h.holds prE_len
    have hsz : i < xs.toArray.size := by simpa using hi
    have c0 := (hh.cell hsz (show 0 < 2 by omega)).1
    have c1 := (hh.cell hsz (show 1 < 2 by omega)).1
    have hx : xs.toArray[i]! = xs[i] := by rw [getElem!_pos xs.toArray i hsz, List.getElem_toArray]
    rw [hx] at c0 c1
    exact ⟨g, xs[i], rfl, by simpa [prE] using c0, by simpa [prE] using c1, (show _ = _ by simp [hi])⟩
theorem IntsAt.keepB {w w' : World} {ao : Option Addr} {xs : List Int} (h : IntsAt w ao xs) (hb : ∀ a, xs ≠ [] → ao = some a → a.block < w.heap.size → w'.heap[a.block]? = w.heap[a.block]?) : IntsAt w' ao xs := by
  intro j hj
  obtain ⟨b, off, e, hc⟩ := h j hj
  refine ⟨b, off, e, fun i hi => ?_⟩
  have h1 := hc i hi
  have h2 : b < w.heap.size := World.block_lt_of_cell? w _ h1
  have hbl : w'.heap[b]? = w.heap[b]? := hb ⟨b, off, none⟩ (by intro h; simp [h] at hj) e h2
  exact (World.cell?_of_block (w := w) (a := ⟨b, off + i, none⟩) hbl).trans h1
theorem a2_eql (a b c d : Int) : ∀ w, (binOp .eql 131 (.agg #[.int .i64 a, .int .i64 b]) (.agg #[.int .i64 c, .int .i64 d])).run Tryz.prog w = .ok (.bool (decide (a = c) && decide (b = d))) w := fun w => by
  obtain ⟨i, hi, _, _, _⟩ := info_parts infoI3
  rw [run_eql_struct, run_equalIn_array w 9999 _ _ Tryz.underlying131 hi]
  rw [show List.range 2 = [0, 1] from rfl]
  simp [go_sem, Op.eqItems, Tryz.cellsInt]
  by_cases h1 : a = c <;> by_cases h2 : b = d <;> simp [h1, h2]
theorem a2_ne {a b c d : Int} (h : (a, b) ≠ (c, d)) : ∀ w, (binOp .eql 131 (.agg #[.int .i64 a, .int .i64 b]) (.agg #[.int .i64 c, .int .i64 d])).run Tryz.prog w = .ok (.bool false) w := fun w => by
  rw [a2_eql]
  by_cases h1 : a = c
  · have h2 : b ≠ d := fun e => h (by rw [h1, e])
    simp [h2]
  · simp [h1]
theorem row_lt {α : Type} {enc : α → List Value} {k : Nat} {e : TypeId} {w : World} {base : Nat} {ao : Option Addr} {cap : Nat} {xs : List α} (h : OwnE enc k e w base ao cap xs) (b : Nat) (hb : rowOf ao = some b) : b < w.heap.size := by
  cases ao with
  | none => cases hb
  | some a => simp [rowOf] at hb; have := (h.lt a rfl).2; omega
theorem madeI (n : Nat) : (madeCells (Value.int .i64 0).cells (n * 1)).toList = flatL iE (List.replicate n 0) := by
  rw [show (Value.int .i64 0).cells = #[.int .i64 0] from rfl, toList_madeCells_one, flat_iE, List.map_replicate, Nat.mul_one]
theorem rint_cell {w : World} {g : Nat} {d : Array Int} (h : HoldsK iE 1 w g 0 d) (i : Nat) (hi : i < d.size) : w.cell? ⟨g, i, none⟩ = some (.int .i64 (d.toList.getD i 0)) ∧ w.frozen? ⟨g, i, none⟩ = false := by
  have := h.cell hi (show 0 < 1 by decide)
  simp only [Nat.zero_add, Nat.mul_one, Nat.add_zero] at this
  rw [this.1, getElem!_pos d i hi]
  refine ⟨?_, this.2⟩
  simp [iE, List.getD, hi]
theorem rint_set {w : World} {g : Nat} {d : Array Int} (h : HoldsK iE 1 w g 0 d) (i : Nat) (hi : i < d.size) (x : Int) : HoldsK iE 1 (w.setCell ⟨g, i, none⟩ (.int .i64 x)) g 0 (d.setIfInBounds i x) := by
  have := holdsK_set iE_len h i x hi
  simpa [iE, World.setCells] using this
theorem some_w (N p n : Nat) (w : World) (hd : DiceOK N w p) (hN : N ≤ w.heap.size) (hn : n ≤ 100000) :
    Calls Tryz.prog 35 #[.pointer (some ⟨p, 0, none⟩), .int .i64 (n : Int)] w fun e w' => ∃ (ro : Option Addr) (rc q : Nat) (l : List Int), e = .returned (.slice ro q rc) ∧ (l.length = q ∧ q ≤ n) ∧ OwnI w' w.heap.size ro rc l ∧ DiceOK N w' p ∧ Ex w.heap.size (some p) w w' := by
  obtain ⟨d, hd⟩ := hd
  refine (some_any N p d (n : Int) w hd hN (by omega) (by omega)).mono ?_
  rintro e w' ⟨ro, rc, rfl, h1, h2, h3⟩
  exact ⟨ro, rc, _, _, rfl, ⟨rfl, by simpa using someTo_le d n⟩, h1, ⟨_, h2⟩, h3⟩
end Go.Proofs.YtfllcohnfboccaaGreat
