/- A function's own block with a statement, between calls that turn a Dice. No statement of the seat. -/
import Derived.Test.YtdmchekkcmjafaaDiceWG
import Derived.Test.YtdmchekkcmjafaaNext04G
namespace Go.Proofs.Ytdmchekkcmjafaa
open Go.RowKit Go.Sort

/-- The world W, reached from w: block g bears the statement r whose lists lie at l and q, from base on; block p is a Dice. -/
structure BoxD (N p g base : Nat) (w W : World) (r : St) (l q : Sv) : Prop where
  dice : DiceOK N W p
  ex : Ex w.heap.size (some p) w W
  blk : W.heap[g]? = some (.cells (stE (r, l, q)).toArray 30 (0, 0))
  lies : Lies (fun b => base ≤ b ∧ b ≠ g) W (r, l, q)
  pos : p < N ∧ N ≤ w.heap.size ∧ w.heap.size ≤ g ∧ w.heap.size ≤ base ∧ g < W.heap.size
section
variable {N p g base : Nat} {w W W' : World} {r : St} {l q : Sv}
theorem BoxD.call (h : BoxD N p g base w W r l q) (hd : DiceOK N W' p) (hx : Ex W.heap.size (some p) W W') : BoxD N p g base w W' r l q := by
  obtain ⟨h1, h2, h3, h4, h5⟩ := h
  have hz := hx.size
  exact ⟨hd, h2.trans hx h2.size (fun q e _ => by cases e; rfl), (hx.block g (by omega) (by simp; omega)).trans h3, h4.keep fun b hb hlt => hx.block b hlt (by simp; omega), h5.1, h5.2.1, h5.2.2.1, h5.2.2.2.1, by omega⟩
theorem BoxD.call0 (h : BoxD N p g base w W r l q) (hx : Ex W.heap.size none W W') : BoxD N p g base w W' r l q := by
  have h2 := h.ex.size
  have h5 := h.pos
  exact h.call (h.dice.keep hx (by omega)) (hx.weaken _)
theorem BoxD.new (h : BoxD N p g base w W r l q) (o : Obj) : BoxD N p g base w (W.alloc o) r l q := h.call0 (Ex.new W o)
theorem BoxD.drew (h : BoxD N p g base w W r l q) : BoxD N p g base w W.drew r l q := h.call0 (Ex.refl _ _ W).drew
theorem BoxD.set (h : BoxD N p g base w W r l q) (k : Nat) (v : Value) {r' : St} {l' q' : Sv} (hc : (stE (r, l, q)).toArray.setIfInBounds k v = (stE (r', l', q')).toArray) (hl : Lies (fun b => base ≤ b ∧ b ≠ g) W (r', l', q')) : BoxD N p g base w (W.setCell ⟨g, k, none⟩ v) r' l' q' := by
  obtain ⟨h1, h2, h3, h4, h5⟩ := h
  refine ⟨h1.keep (B := N) ((Ex.refl _ _ W).setCell _ _ _ (.inr (by omega))) (Nat.le_refl _), h2.setCell _ _ _ (.inr (by omega)), ?_, hl.keep fun b hb _ => Below.heap_setCell _ _ _ _ (show b ≠ g from hb.2), h5.1, h5.2.1, h5.2.2.1, h5.2.2.2.1, by simpa [World.setCell] using h5.2.2.2.2⟩
  rw [heap_setCell_same _ _ _ _ _ _ h3, hc]
/-- A new block for a statement, and what lies behind it. -/
theorem BoxD.start (hp : p < N) (hN : N ≤ w.heap.size) (hd : DiceOK N W p) (hx : Ex w.heap.size (some p) w W) (hb : w.heap.size ≤ base) (hl : Lies (fun x => base ≤ x ∧ x ≠ W.heap.size) (W.alloc (.cells (stE (r, l, q)).toArray 30)) (r, l, q)) : BoxD N p W.heap.size base w (W.alloc (.cells (stE (r, l, q)).toArray 30)) r l q := by
  have hz := hx.size
  exact ⟨hd.keep (Ex.new W _) (by omega), hx.alloc (by omega) _, heap_alloc_new W _, hl, hp, hN, hz, hb, by simp⟩
theorem BoxD.cells (h : BoxD N p g base w W r l q) : (W.cell? ⟨g, 0, none⟩ = some (.int .i64 r.author) ∧ W.cell? ⟨g, 1, none⟩ = some (.int .i64 r.number) ∧ W.cell? ⟨g, 2, none⟩ = some (.string r.prev) ∧ W.cell? ⟨g, 3, none⟩ = some (.int .i64 r.time) ∧
    W.cell? ⟨g, 4, none⟩ = some (.int .i64 r.kind) ∧ W.cell? ⟨g, 5, none⟩ = some (.int .i64 r.a) ∧ W.cell? ⟨g, 6, none⟩ = some (.int .i64 r.b) ∧ W.cell? ⟨g, 7, none⟩ = some (.int .i64 r.c) ∧
    W.cell? ⟨g, 8, none⟩ = some (.slice l.ao l.n l.c) ∧ W.cell? ⟨g, 9, none⟩ = some (.slice q.ao q.n q.c) ∧ W.cell? ⟨g, 10, none⟩ = some (.string r.body) ∧ W.cell? ⟨g, 11, none⟩ = some (.int .i64 r.key) ∧ W.cell? ⟨g, 12, none⟩ = some (.string r.dig)) ∧ ∀ o, W.frozen? ⟨g, o, none⟩ = false := st_block h.blk
end
theorem Lies.none (P : Nat → Prop) (w : World) {r : St} (h1 : r.list = []) (h2 : r.pins = []) : Lies P w (r, ⟨none, 0, 0⟩, ⟨none, 0, 0⟩) := by
  refine ⟨?_, ?_⟩
  · show Sl intRep P w _ r.list; rw [h1]; exact Sl.nil P w
  · show Sl pinRep P w _ r.pins; rw [h2]; exact Sl.nil P w
theorem Lies.same {P : Nat → Prop} {w : World} {r r' : St} {l q : Sv} (h : Lies P w (r, l, q)) (h1 : r'.list = r.list) (h2 : r'.pins = r.pins) : Lies P w (r', l, q) := by
  refine ⟨?_, ?_⟩
  · show Sl intRep P w _ r'.list; rw [h1]; exact h.1
  · show Sl pinRep P w _ r'.pins; rw [h2]; exact h.2
/-- Small enough for whatever is asked. -/
structure Small (s : St) : Prop where
  list : s.list.length ≤ 2
  pins : s.pins.length ≤ 1
  prev : s.prev.size ≤ 32
  body : s.body.size ≤ 5
  digs : ∀ p ∈ s.pins, p.2.2.size ≤ 32
theorem Small.tame {s : St} (h : Small s) : Tame s := ⟨by have := h.list; omega, by have := h.pins; omega, by have := h.prev; omega, by have := h.body; omega, fun p hp => by have := h.digs p hp; omega⟩
theorem BoxD.app {N p g base B : Nat} {w W W' : World} {r r' : St} {l q l' q' : Sv} (h : BoxD N p g base w W r l q) (hx : Ex B none W W') (hB : g < B ∧ w.heap.size ≤ B) (k : Nat) (v : Value) (hc : (stE (r, l, q)).toArray.setIfInBounds k v = (stE (r', l', q')).toArray) (hl : Lies (fun b => base ≤ b ∧ b ≠ g) W' (r', l', q')) : BoxD N p g base w (W'.setCell ⟨g, k, none⟩ v) r' l' q' := by
  obtain ⟨h1, h2, h3, h4, h5⟩ := h
  have hz := hx.size
  have h3' : W'.heap[g]? = some (.cells (stE (r, l, q)).toArray 30 (0, 0)) := (hx.block g (by omega) (by simp)).trans h3
  have hd' : DiceOK N W' p := h1.keep hx (by omega)
  refine ⟨hd'.keep (B := N) ((Ex.refl _ _ W').setCell _ _ _ (.inr (by omega))) (Nat.le_refl _), ?_, ?_, hl.keep fun b hb _ => Below.heap_setCell _ _ _ _ (show b ≠ g from hb.2), h5.1, h5.2.1, h5.2.2.1, h5.2.2.2.1, by simp [World.setCell]; omega⟩
  · refine Ex.setCell ?_ _ _ _ (.inr (by omega))
    exact ⟨hx.os.trans h2.os, hx.tape.trans h2.tape, hx.output.trans h2.output, Nat.le_trans h2.size hz, fun k hk hne => (hx.block k (by omega) (by simp)).trans (h2.block k hk hne)⟩
  · rw [heap_setCell_same _ _ _ _ _ _ h3', hc]
def intE (n : Int) : List Value := [.int .i64 n]
theorem intE_len (n : Int) : (intE n).length = 1 := rfl
theorem one_intE : ∀ n, ∀ v ∈ intE n, v.oneCell' = true := fun n v hv => by simp [intE] at hv; subst hv; rfl
theorem flat_intE (xs : List Int) : flatL intE xs = xs.map (Value.int .i64) := by
  induction xs with
  | nil => rfl
  | cons x r ih => simp only [flatL, List.flatMap_cons, List.map_cons] at *; rw [ih]; rfl
theorem own_intE_sl {w : World} {base : Nat} {ao : Option Addr} {cap : Nat} {xs : List Int} (h : OwnE intE 1 3 w base ao cap xs) : Sl intRep (fun b => base ≤ b) w (.slice ao xs.length cap) xs := own_ints_sl (by unfold OwnI; rw [← flat_intE]; exact h)
theorem pin_lit {w : World} {base : Nat} (hb : base ≤ w.heap.size) (x y : Int) (s : ByteArray) : Sl pinRep (fun b => base ≤ b) (w.alloc (.cells #[.int .i64 x, .int .i64 y, .string s] 66)) (.slice (some ⟨w.heap.size, 0, none⟩) 1 1) [(x, y, s)] := by
  refine ⟨_, 1, rfl, fun i hi => ?_⟩
  have hi0 : i = 0 := by simp at hi; exact hi
  subst hi0
  refine ⟨w.heap.size, 0, pinE (x, y, s), rfl, hb, fun j v hv => ?_, rfl⟩
  rw [show 0 + 0 * pinRep.k + j = j by omega, cell_of_row _ _ _ _ _ _ (heap_alloc_new w _)]
  simpa [pinE] using hv
end Go.Proofs.Ytdmchekkcmjafaa
