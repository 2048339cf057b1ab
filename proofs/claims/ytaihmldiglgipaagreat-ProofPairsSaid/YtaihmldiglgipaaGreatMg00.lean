/- Plain words on slices of ints in memory, for whatever program: what a slice reads as, which blocks a call may turn, an append of one number. No statement of the seat is proved here. | cmp.Compare at int: a contract, no statement of the seat. | cmp.Or at ints: a contract, no statement of the seat. | cmp.Compare at strings: a contract, no statement of the seat. | How values of a type are held in memory, as a word on lists: numbers, texts, structs, slices of these. For whatever program. No statement of the seat is proved here. | The shelf's word on a row that a sort turns (HoldsK, sortWorldK) in the words of these texts. No statement of the seat. | copy at elements of k cells; a row out of the cells of its elements. For whatever program; no statement of the seat. | The row of int in the table of types: a fact, no statement of the seat. | Statements as data, and how memory holds them: words, no statement of the seat. | Plain Lean functions on lists of ints: what the Go functions of the Quota laws compute. No program in sight. | ref03.SameInts, SamePins: contracts, no statement of the seat. | ref03.Same: words for its contract, no statement of the seat. | A region that draws its order, whose operations read and whose callees may lay blocks of their own: walked once, in the order of the text, at the class of worlds in which no old block has been turned. For whatever program; no statement of the seat. | ref03.Copy: a contract, no statement of the seat. | The insertion sort of the library keeps the order of equals: a plain law on the kit's own word 'Sort.insertionSort'. No program in sight. -/
import Derived.WalkKit
import Derived.WalkSpells
import Derived.WalkLawsBesides
import Derived.Lib.Hide
import Derived.Deep.QuietTactic
import Derived.BigQuiet
import Derived.Test.YtaihmldiglgipaaGreatRows
import Derived.Sort.Grow
import Derived.Sort.LotA
import Derived.Deep.MidRow
import Derived.Laws.StructEq
import Derived.Shelf.SlSortCmp.InsertionK
import Derived.Deep.Upon
import Derived.Laws.CopyOwn
import Derived.PlainAid
namespace Go.Proofs.YtaihmldiglgipaaGreat
open Go.RowKit

/-- Below block B the world w' is as w was, but for block p. -/
structure Ex (B : Nat) (p : Option Nat) (w w' : World) : Prop where
  os : w'.os = w.os
  tape : w'.tape = w.tape
  output : w'.output = w.output
  size : w.heap.size ≤ w'.heap.size
  block : ∀ k, k < B → some k ≠ p → w'.heap[k]? = w.heap[k]?

theorem Ex.refl (B : Nat) (p : Option Nat) (w : World) : Ex B p w w := ⟨rfl, rfl, rfl, Nat.le_refl _, fun _ _ _ => rfl⟩
theorem Ex.trans {B B' : Nat} {p p' : Option Nat} {a b c : World} (h : Ex B p a b) (k : Ex B' p' b c) (hB : B ≤ B') (hp : ∀ q, p' = some q → q < B → p = some q) : Ex B p a c :=
  ⟨k.os.trans h.os, k.tape.trans h.tape, k.output.trans h.output, Nat.le_trans h.size k.size, fun i hi hne =>
    (k.block i (Nat.lt_of_lt_of_le hi hB) (fun e => hne (by rw [hp i e.symm hi]))).trans (h.block i hi hne)⟩
theorem Ex.weaken {B : Nat} {w w' : World} (h : Ex B none w w') (p : Option Nat) : Ex B p w w' := ⟨h.os, h.tape, h.output, h.size, fun i hi _ => h.block i hi (by simp)⟩
theorem Ex.mono {B B' : Nat} {p : Option Nat} {w w' : World} (h : Ex B p w w') (hB : B' ≤ B) : Ex B' p w w' := ⟨h.os, h.tape, h.output, h.size, fun i hi => h.block i (Nat.lt_of_lt_of_le hi hB)⟩
theorem Ex.below {B : Nat} {w w' : World} (h : Ex B none w w') : Below B w w' := ⟨h.os, h.tape, h.output, h.size, fun i hi => h.block i hi (by simp)⟩
/-- What turns above B alone is not seen below B. -/
theorem Ex.above {B q : Nat} {w w' : World} (h : Ex B (some q) w w') (hq : B ≤ q) : Ex B none w w' := ⟨h.os, h.tape, h.output, h.size, fun i hi _ => h.block i hi (by simp; omega)⟩
theorem Ex.grown {B : Nat} {p row : Option Nat} {a w w' : World} (h : Ex B p a w) (hg : w.grownBy w' row) (hB : B ≤ w.heap.size) (hr : ∀ k, row = some k → B ≤ k) : Ex B p a w' :=
  ⟨hg.os.trans h.os, hg.tape.trans h.tape, hg.output.trans h.output, Nat.le_trans h.size hg.size, fun k hk hne => (hg.block k (by omega) (fun e => by have := hr k e.symm; omega)).trans (h.block k hk hne)⟩
theorem Ex.alloc {B : Nat} {p : Option Nat} {a w : World} (h : Ex B p a w) (hB : B ≤ w.heap.size) (o : Obj) : Ex B p a (w.alloc o) := h.grown (World.grownBy_alloc w o none) hB (by simp)
theorem Ex.new (w : World) (o : Obj) : Ex w.heap.size none w (w.alloc o) := (Ex.refl _ _ _).alloc (Nat.le_refl _) o
theorem Ex.drew {B : Nat} {p : Option Nat} {a w : World} (h : Ex B p a w) : Ex B p a w.drew := ⟨h.os, h.tape, h.output, h.size, h.block⟩
theorem Ex.drewN {B n : Nat} {p : Option Nat} {a w : World} (h : Ex B p a w) : Ex B p a (w.drewN n) := ⟨h.os, h.tape, h.output, h.size, h.block⟩
theorem Ex.setCell {B q : Nat} {p : Option Nat} {a w : World} (h : Ex B p a w) (o : Nat) (s : Option Nat) (u : Value) (hq : p = some q ∨ B ≤ q) : Ex B p a (w.setCell ⟨q, o, s⟩ u) :=
  ⟨h.os, h.tape, h.output, by simpa [World.setCell] using h.size, fun k hk hne => (Below.heap_setCell _ _ _ _ (by
    show k ≠ q
    rcases hq with hq | hq
    · intro e; exact hne (by rw [hq, e])
    · omega)).trans (h.block k hk hne)⟩

/-- A row that is owned stays so where its block is not turned. -/
theorem own_keep {w w' : World} {base e size n B : Nat} {p : Option Nat} {v : Value} {xs : List Value} (h : w.ownsRow base e size v n xs) (hx : Ex B p w w') (hB : w.heap.size ≤ B) (hp : ∀ q, p = some q → q < base) : w'.ownsRow base e size v n xs := by
  obtain ⟨h1, h2⟩ := h
  refine ⟨h1, ?_⟩
  rcases h2 with h2 | ⟨g, cap, cur, hv, hg, hh, r⟩
  · exact Or.inl h2
  · refine Or.inr ⟨g, cap, cur, hv, hg, ?_, r⟩
    have hlt := (Array.getElem?_eq_some_iff.1 hh).1
    rw [hx.block g (by omega) (fun e => by have := hp g e.symm; omega)]
    exact hh

/-- The slice at 'ao' with 'xs.length' elements reads as the list of ints xs. -/
def IntsAt (w : World) (ao : Option Addr) (xs : List Int) : Prop :=
  ∀ j, j < xs.length → ∃ b off, ao = some ⟨b, off, none⟩ ∧ ∀ i, i < xs.length → w.cell? ⟨b, off + i, none⟩ = some (.int .i64 (xs.getD i 0))

/-- Block q is not where the slice at 'ao' lies. -/
def Away (q : Nat) (ao : Option Addr) : Prop := ∀ a, ao = some a → a.block ≠ q

theorem IntsAt.keep {w w' : World} {ao : Option Addr} {xs : List Int} {B : Nat} {p : Option Nat} (h : IntsAt w ao xs) (hb : Ex B p w w') (hB : w.heap.size ≤ B) (hp : ∀ q, p = some q → xs ≠ [] → Away q ao) : IntsAt w' ao xs := by
  intro j hj
  obtain ⟨b, off, e, hc⟩ := h j hj
  refine ⟨b, off, e, fun i hi => ?_⟩
  have h1 := hc i hi
  have h2 : b < w.heap.size := World.block_lt_of_cell? w _ h1
  exact (World.cell?_of_block (w := w) (hb.block b (by omega) (fun e' => hp b e'.symm (by intro h; simp [h] at hj) _ e rfl))).trans h1

theorem IntsAt.get {w : World} {ao : Option Addr} {xs : List Int} (h : IntsAt w ao xs) (k : Nat) (hk : k < xs.length) : ∃ b off y, ao = some ⟨b, off, none⟩ ∧ w.cell? ⟨b, off + k, none⟩ = some (.int .i64 y) ∧ Hid (xs.getD k 0 = y) := by
  obtain ⟨b, off, e, hc⟩ := h k hk
  exact ⟨b, off, _, e, hc k hk, rfl⟩

theorem IntsAt.lt {w : World} {ao : Option Addr} {xs : List Int} (h : IntsAt w ao xs) (hne : xs ≠ []) : ∀ a, ao = some a → a.block < w.heap.size := by
  intro a ha
  obtain ⟨b, off, e, hc⟩ := h 0 (List.length_pos_iff.2 hne)
  rw [e] at ha; cases ha
  exact World.block_lt_of_cell? w _ (hc 0 (List.length_pos_iff.2 hne))

theorem IntsAt.nil (w : World) (ao : Option Addr) : IntsAt w ao [] := fun j hj => by cases hj

/-- The slice value v reads as xs. -/
def Ints (w : World) (v : Value) (xs : List Int) : Prop := ∃ ao cap, v = .slice ao xs.length cap ∧ IntsAt w ao xs
theorem Ints.keep {w w' : World} {v : Value} {xs : List Int} {B : Nat} (h : Ints w v xs) (hx : Ex B none w w') (hB : w.heap.size ≤ B) : Ints w' v xs := by
  obtain ⟨ao, cap, e, h⟩ := h
  exact ⟨ao, cap, e, h.keep hx hB (by simp)⟩
theorem Ints.nil (w : World) : Ints w (.slice none 0 0) [] := ⟨none, 0, rfl, IntsAt.nil _ _⟩
theorem IntsAt.lit (w : World) (xs : List Int) : IntsAt (w.alloc (.cells (xs.map (Value.int .i64)).toArray 3)) (some ⟨w.heap.size, 0, none⟩) xs := by
  intro j hj
  refine ⟨_, _, rfl, fun i hi => ?_⟩
  rw [cell_of_row _ _ _ _ _ _ (heap_alloc_new w _)]
  simp [List.getD, hi]
theorem Ints.lit {w : World} (xs : List Int) {n g : Nat} (hg : g = w.heap.size) (hn : n = xs.length) : Ints (w.alloc (.cells (xs.map (Value.int .i64)).toArray 3)) (.slice (some ⟨g, 0, none⟩) n n) xs := by
  subst hn hg; exact ⟨_, _, rfl, IntsAt.lit w xs⟩

/-- The slice at 'ao' owns the ints xs, in a block from 'base' on. -/
def OwnI (w : World) (base : Nat) (ao : Option Addr) (cap : Nat) (xs : List Int) : Prop := w.ownsRow base 3 1 (.slice ao xs.length cap) xs.length (xs.map (Value.int .i64))

theorem OwnI.nil (w : World) (base : Nat) : OwnI w base none 0 [] := World.ownsRow_nil w base _ 1
theorem OwnI.keep {w w' : World} {base B : Nat} {p : Option Nat} {ao : Option Addr} {cap : Nat} {xs : List Int} (h : OwnI w base ao cap xs) (hx : Ex B p w w') (hB : w.heap.size ≤ B) (hp : ∀ q, p = some q → q < base) : OwnI w' base ao cap xs := own_keep h hx hB hp
theorem OwnI.lt {w : World} {base : Nat} {ao : Option Addr} {cap : Nat} {xs : List Int} (h : OwnI w base ao cap xs) : ∀ a, ao = some a → base ≤ a.block ∧ a.block < w.heap.size := by
  intro a e; subst e; exact World.ownsRow.lt h _ rfl
theorem OwnI.ints {w : World} {base : Nat} {ao : Option Addr} {cap : Nat} {xs : List Int} (h : OwnI w base ao cap xs) : IntsAt w ao xs := by
  intro j hj
  rcases h.2 with ⟨_, h0⟩ | ⟨g, cap', cur, hv, _⟩
  · omega
  · simp only [Value.slice.injEq] at hv
    obtain ⟨rfl, _, rfl⟩ := hv
    refine ⟨g, 0, rfl, fun i hi => ?_⟩
    have := World.ownsRow.cells h (g := g) rfl i (.int .i64 (xs.getD i 0)) (by simp [List.getD, hi])
    simpa [Addr.add_lit] using this

theorem OwnI.v {w : World} {base : Nat} {ao : Option Addr} {cap : Nat} {xs : List Int} (h : OwnI w base ao cap xs) : Ints w (.slice ao xs.length cap) xs := ⟨_, _, rfl, h.ints⟩
/-- A contract whose answer is known. -/
theorem asB {P : Program} {f : FuncId} {args : Array Value} {w : World} {a b : Bool} {R : World → Prop} (h : Calls P f args w fun e w' => e = .returned (.bool a) ∧ R w') (hab : a = b) : Calls P f args w fun e w' => e = .returned (.bool b) ∧ R w' := by
  subst hab; exact h

/-- What the shell of a law's proof says of a slice of ints that came in, in the words of this text. -/
theorem ints_of_row {w : World} {a : Option Addr} {len cap : Nat} {zs : List Int} (h : (a = none ∧ len = 0 ∧ cap = 0 ∧ zs = []) ∨
    ∃ x, a = some x ∧ len ≤ cap ∧ cap ≤ maxLen ∧ zs.length = cap ∧ (∀ i, i < zs.length → w.cell? (x.add i) = some (.int .i64 (zs.getD i 0))) ∧ ∀ n ∈ zs, (Lit.int .i64 n).wf = true) :
    Ints w (.slice a len cap) (zs.take len) ∧ (zs.take len).length ≤ 9223372036854775807 ∧ ∀ n ∈ zs.take len, (Lit.int .i64 n).wf = true := by
  rcases h with ⟨rfl, rfl, rfl, rfl⟩ | ⟨x, rfl, h1, h2, h3, h4, h5⟩
  · exact ⟨Ints.nil w, by simp, by simp⟩
  · have hl : (zs.take len).length = len := by simp; omega
    unfold maxLen at h2
    refine ⟨⟨some x, cap, by rw [hl], fun j hj => ?_⟩, by omega, fun n hn => h5 n (List.mem_of_mem_take hn)⟩
    obtain ⟨b, off, spot⟩ := x
    have h0 := h4 0 (by omega)
    have hs : spot = none := by simpa [Addr.add] using World.cell?_spot h0
    subst hs
    refine ⟨b, off, rfl, fun i hi => ?_⟩
    have := h4 i (by omega)
    rw [Addr.add_lit] at this
    rw [this]
    simp only [List.getD, List.getElem?_take]
    rw [if_pos (by omega)]

theorem OwnI.cap {w : World} {base : Nat} {ao : Option Addr} {cap : Nat} {xs : List Int} (h : OwnI w base ao cap xs) : xs.length ≤ cap := by
  rcases h.2 with ⟨hv, h0⟩ | ⟨g, cap', cur, hv, _, _, hn, _⟩
  · omega
  · simp only [Value.slice.injEq] at hv
    obtain ⟨_, _, rfl⟩ := hv
    exact hn
theorem IntsAt.take {w : World} {ao : Option Addr} {xs : List Int} (h : IntsAt w ao xs) (k : Nat) : IntsAt w ao (xs.take k) := by
  intro j hj
  have hj' : j < xs.length := by simp at hj; omega
  obtain ⟨b, off, e, hc⟩ := h j hj'
  refine ⟨b, off, e, fun i hi => ?_⟩
  have hi' : i < xs.length ∧ i < k := by simp at hi; omega
  rw [hc i hi'.1]
  simp [List.getD, hi'.2]

/-- The slice value v reads as xs, and does not lie in block p. -/
def IntsO (p : Nat) (w : World) (v : Value) (xs : List Int) : Prop := ∃ ao cap, v = .slice ao xs.length cap ∧ IntsAt w ao xs ∧ (xs ≠ [] → Away p ao)
theorem Ints.at' {w : World} {ao : Option Addr} {n cap : Nat} {xs : List Int} (h : Ints w (.slice ao n cap) xs) : IntsAt w ao xs := by
  obtain ⟨ao', cap', e, h⟩ := h
  cases e; exact h
theorem own_shape {w : World} {base e size n : Nat} {v : Value} {xs : List Value} (h : w.ownsRow base e size v n xs) : ∃ ao cap, v = .slice ao n cap := by
  rcases h.2 with ⟨rfl, rfl⟩ | ⟨g, cap, _, rfl, _⟩
  · exact ⟨none, 0, rfl⟩
  · exact ⟨_, cap, rfl⟩

/-- 'append(out, x)', out a slice of ints of the call's own: w0 is a world in which out is owned, w the one behind the block of x. -/
theorem wpList_appI {P : Program} {w0 w : World} {ops : Array Oper} {rest : List Oper} {o : Oper} {a : Act} {Q : Exit → Act → World → Prop} (hgd : o.guard = none) (s x : Operand) (t : TypeId)
    (ho : o.op = .call { callee := .builtin .append, args := #[s, x], argTypes := #[t, t] })
    (ht : P.underlying t = some (.slice 3)) (hinfo : (P.info? 3).map (fun i => (i.zero, i.size, i.bytes)) = some (some (.int .i64 0), 1, 8))
    (base : Nat) (ao : Option Addr) (cap : Nat) (xs : List Int) (g : Nat) (y : Int) (hs : a.eval s = .slice ao xs.length cap) (hx : a.eval x = .slice (some ⟨g, 0, none⟩) 1 1)
    (hown : OwnI w0 base ao cap xs) (hw : Ex w0.heap.size none w0 w) (hcell : w.cell? ⟨g, 0, none⟩ = some (.int .i64 y)) (hlen : xs.length ≤ 1000000000000) (hbase : base ≤ w0.heap.size)
    (h : ∀ ao' cap' w', OwnI w' base ao' cap' (xs ++ [y]) → Ex base none w0 w' → wpList P ops Q rest (a.put o.dst (.slice ao' (xs.length + 1) cap')) w') : wpList P ops Q (o :: rest) a w := by
  obtain ⟨i0, hi, hz0, hz1, hz2⟩ := info_parts hinfo
  have hown' : OwnI w base ao cap xs := hown.keep hw (Nat.le_refl _) (by simp)
  have hsz := hw.size
  refine wpList_append_own _ hgd s x t ho base 3 i0 (.int .i64 0) 1 8 ht hi hz0 hz1 hz2 rfl (by decide) _ _ _ hs hown' ⟨g, 0, none⟩ 1 1 [.int .i64 y] hx rfl ?_ ?_ (by simp only [maxLen]; omega) (by omega) (by omega) ?_
  · intro j u hj
    match j, hj with
    | 0, hj => simp at hj; subst hj; simpa [Addr.add] using hcell
  · intro u hu; simp at hu; subst hu; rfl
  · intro v' w' ho' hg _
    obtain ⟨ao', cap', rfl⟩ := own_shape ho'
    refine h ao' cap' w' ?_ ((hw.mono hbase).grown hg (by omega) ?_)
    · simpa [OwnI] using ho'
    · intro k hk
      have := World.ownsRow.lt hown' k hk
      exact this.1

theorem run_append_none {P : Program} {w : World} (base : Nat) (t ty e : TypeId) (i : TypeInfo) (size : Nat) (ht : P.underlying t = some (.slice e)) (hi : P.info? e = some i)
    (v : Value) (n c : Nat) (xs : List Value) (hown : w.ownsRow base e size v n xs) :
    (Builtin.append_ #[t, t] ty #[v, .slice none 0 c]).run P w = .ok v w := by
  rcases hown.2 with ⟨rfl, rfl⟩ | ⟨g, cap, cur, rfl, _, _, hnc, _⟩
  · simp [Builtin.append_, run_underlying ht, sizeOf, typeInfo, hi, Builtin.lenOf, Builtin.firstCells]
  · simp [Builtin.append_, run_underlying ht, sizeOf, typeInfo, hi, Builtin.lenOf, Builtin.firstCells, hnc, storeCells]

/-- 'append(out, src...)', out a slice of ints of the call's own, src a slice that reads as ys. -/
theorem wpList_appIs {P : Program} {w0 w : World} {ops : Array Oper} {rest : List Oper} {o : Oper} {a : Act} {Q : Exit → Act → World → Prop} (hgd : o.guard = none) (s x : Operand) (t : TypeId)
    (ho : o.op = .call { callee := .builtin .append, args := #[s, x], argTypes := #[t, t] })
    (ht : P.underlying t = some (.slice 3)) (hinfo : (P.info? 3).map (fun i => (i.zero, i.size, i.bytes)) = some (some (.int .i64 0), 1, 8))
    (base : Nat) (ao : Option Addr) (cap : Nat) (xs ys : List Int) (v u : Value) (n : Nat) (hn : n = xs.length) (hv : v = .slice ao n cap) (hs : a.eval s = v) (hx : a.eval x = u) (hu : Ints w u ys)
    (hown : OwnI w0 base ao cap xs) (hw : Ex w0.heap.size none w0 w) (hlen : xs.length + ys.length ≤ 1000000000000) (hbase : base ≤ w0.heap.size)
    (h : ∀ ao' cap' w', OwnI w' base ao' cap' (xs ++ ys) → Ex base none w0 w' → wpList P ops Q rest (a.put o.dst (.slice ao' (xs.length + ys.length) cap')) w') : wpList P ops Q (o :: rest) a w := by
  subst hn
  obtain ⟨i0, hi, hz0, hz1, hz2⟩ := info_parts hinfo
  have hown' : OwnI w base ao cap xs := hown.keep hw (Nat.le_refl _) (by simp)
  have hsz := hw.size
  subst hv
  obtain ⟨so, sc, rfl, hr⟩ := hu
  cases so with
  | none =>
    have hy : ys = [] := by
      cases ys with
      | nil => rfl
      | cons y r => obtain ⟨b, off, e, _⟩ := hr 0 (by simp); cases e
    subst hy
    refine wpList_plain hgd fun K hK => ?_
    have hrun := run_append_none (P := P) (w := w) base t o.type 3 i0 1 ht hi _ _ sc _ hown'
    unfold Oper.wp
    simp only [List.length_nil] at hx
    simp [execOp, ho, resolve, invoke, builtin, hs, hx, hrun, Result.andThen]
    exact hK _ _ (by simpa using h ao cap w (by simpa using hown') (hw.mono hbase))
  | some ad =>
    refine wpList_append_own _ hgd s x t ho base 3 i0 (.int .i64 0) 1 8 ht hi hz0 hz1 hz2 rfl (by decide) _ _ _ hs hown' ad ys.length sc (ys.map (Value.int .i64)) hx (by simp) ?_ (ints_oneCell _ _) (by simp only [maxLen]; omega) (by omega) (by omega) ?_
    · intro j u hj
      have hjl : j < ys.length := by
        have := (List.getElem?_eq_some_iff.1 hj).1
        simpa using this
      obtain ⟨b, off, e, hc⟩ := hr j hjl
      cases e
      rw [Addr.add_lit, hc j hjl]
      rw [← hj]; simp [List.getD, hjl]
    · intro v' w' ho' hg _
      obtain ⟨ao', cap', rfl⟩ := own_shape ho'
      refine h ao' cap' w' ?_ ((hw.mono hbase).grown hg (by omega) ?_)
      · simpa [OwnI] using ho'
      · intro k hk
        exact (World.ownsRow.lt hown' k hk).1

theorem take_succ_getD (xs : List Int) (k : Nat) (h : k < xs.length) : xs.take (k + 1) = xs.take k ++ [xs.getD k 0] := by
  rw [List.take_add_one, List.getElem?_eq_getElem h]; simp [List.getD, h]

theorem drewN_add (w : World) (n m : Nat) : (w.drewN n).drewN m = w.drewN (n + m) := by simp [World.drewN, Nat.add_assoc]

theorem ret_int {k : IntKind} {a b : Int} (h : a = b) : Ending.returned (.int k a) = .returned (.int k b) := by rw [h]
theorem ret_bool {a b : Bool} (h : a = b) : Ending.returned (.bool a) = .returned (.bool b) := by rw [h]
end Go.Proofs.YtaihmldiglgipaaGreat

namespace Go.Proofs.YtaihmldiglgipaaGreat
open Go.RowKit

/-- cmp.Compare of two numbers. -/
def cmpI (x y : Int) : Int := if x < y then -1 else if y < x then 1 else 0
theorem cmpI_zero {x y : Int} : cmpI x y = 0 ↔ x = y := by unfold cmpI; split <;> (try split) <;> omega
theorem isNaN_any (x : Int) (w : World) : Calls Tryz.prog 78 #[.int .i64 x] w fun e w' => e = .returned (.bool false) ∧ w = w' := by
  have h : (x != x) = false := by simp
  go_enter Tryz.func78, Tryz.ntmps78
  go_wp2
  go_ret
  exact ⟨rfl, rfl⟩

set_option maxHeartbeats 400000 in
theorem compare_any (x y : Int) (w : World) : Calls Tryz.prog 50 #[.int .i64 x, .int .i64 y] w fun e w' => e = .returned (.int .i64 (cmpI x y)) ∧ w = w' := by
  by_cases h1 : x < y
  · have d1 : decide (x < y) = true := decide_eq_true h1
    have HK : Hid (cmpI x y = -1) := by show _ = _; simp [cmpI, h1]
    go_enter Tryz.func50, Tryz.ntmps50
    go_wp2_with (go_at_call 78; refine (isNaN_any _ _).mono ?_; rintro e w' ⟨rfl, rfl⟩)
    go_ret
    exact ⟨by rw [HK.out]; rfl, rfl⟩
  · have d1 : decide (x < y) = false := decide_eq_false h1
    by_cases h2 : y < x
    · have d2 : decide (y < x) = true := decide_eq_true h2
      have HK : Hid (cmpI x y = 1) := by show _ = _; simp [cmpI, h1, h2]
      go_enter Tryz.func50, Tryz.ntmps50
      go_wp2_with (go_at_call 78; refine (isNaN_any _ _).mono ?_; rintro e w' ⟨rfl, rfl⟩)
      go_ret
      exact ⟨by rw [HK.out]; rfl, rfl⟩
    · have d2 : decide (y < x) = false := decide_eq_false h2
      have HK : Hid (cmpI x y = 0) := by show _ = _; simp [cmpI, h1, h2]
      go_enter Tryz.func50, Tryz.ntmps50
      go_wp2_with (go_at_call 78; refine (isNaN_any _ _).mono ?_; rintro e w' ⟨rfl, rfl⟩)
      go_ret
      exact ⟨by rw [HK.out]; rfl, rfl⟩
end Go.Proofs.YtaihmldiglgipaaGreat

namespace Go.Proofs.YtaihmldiglgipaaGreat
open Go.RowKit Go.Sort

/-- cmp.Or of three numbers. -/
def or3 (a b c : Int) : Int := if a = 0 then (if b = 0 then c else b) else a
set_option maxHeartbeats 1000000 in
theorem cmpOr_any (v : Value) (xs : List Int) (w : World) (hv : Ints w v xs) (hm : xs.length ≤ 1000000) : Calls Tryz.prog 49 #[v] w fun e w' => e = .returned (.int .i64 ((xs.find? (· != 0)).getD 0)) ∧ w = w' := by
  obtain ⟨ao, cap, rfl, hx⟩ := hv
  go_enter Tryz.func49, Tryz.ntmps49
  go_wp2
  go_loop [8] (fun i => ∃ k : Nat, k ≤ xs.length ∧ i = .int .i64 k ∧ Hid ((xs.take k).find? (· != 0) = none)) (fun i => xs.length - (intOf i).toNat)
  case atStart => exact ⟨0, Nat.zero_le _, rfl, (show _ = _ by simp)⟩
  case round =>
    obtain ⟨k, hk, rfl, HN⟩ := hrel
    by_cases hlt : k < xs.length
    · obtain ⟨b, off, y, rfl, hck, HY⟩ := hx.get k hlt
      have ht : xs.take (k + 1) = xs.take k ++ [y] := by
        rw [List.take_add_one, List.getElem?_eq_getElem hlt]
        have := HY.out
        rw [List.getD_eq_getElem?_getD, List.getElem?_eq_getElem hlt] at this
        simp at this; simp [this]
      by_cases he : y = 0
      · have hb : (y != 0) = false := by simp [he]
        have HR : Hid ((xs.take (k + 1)).find? (· != 0) = none) := by
          show _ = _
          rw [ht, List.find?_append, HN.out]; simp [he]
        clear he ht
        go_wp2
        go_round
        case rel => exact ⟨k + 1, by omega, by go_num, HR⟩
        case measure => simp [intOf]; omega
      · have hb : (y != 0) = true := by simp [he]
        have HR : Hid (xs.find? (· != 0) = some y) := by
          show _ = _
          rw [← List.take_append_drop (k + 1) xs, ht, List.find?_append, List.find?_append, HN.out]; simp [he]
        clear he ht
        go_wp2
        go_ret
        exact ⟨by rw [HR.out]; rfl, rfl⟩
    · have HR : Hid (xs.find? (· != 0) = none) := by
        have h := HN.out
        rwa [List.take_of_length_le (by omega)] at h
      go_wp2
      go_ret
      exact ⟨by rw [HR.out]; rfl, rfl⟩
end Go.Proofs.YtaihmldiglgipaaGreat

namespace Go.Proofs.YtaihmldiglgipaaGreat
open Go.RowKit Go.Sort

/-- cmp.Compare of two strings. -/
def lssS (x y : ByteArray) : Bool := Op.bytesLess x.toList y.toList
def cmpS (x y : ByteArray) : Int := if lssS x y then -1 else if x.toList == y.toList then 0 else 1
end Go.Proofs.YtaihmldiglgipaaGreat

namespace Go.Proofs.YtaihmldiglgipaaGreat
open Go.RowKit

/-- How values are held: k cells each; R P w cs x: in the world w the cells cs hold x, and all blocks that they lead to satisfy P. -/
structure Rep (α : Type) where
  k : Nat
  R : (Nat → Prop) → World → List Value → α → Prop
  len : ∀ {P w cs x}, R P w cs x → cs.length = k
  one : ∀ {P w cs x}, R P w cs x → ∀ v ∈ cs, v.oneCell' = true
  keep : ∀ {P w w' cs x}, R P w cs x → (∀ b, P b → b < w.heap.size → w'.heap[b]? = w.heap[b]?) → R P w' cs x
  mono : ∀ {P P' w cs x}, R P w cs x → (∀ b, P b → b < w.heap.size → P' b) → R P' w cs x

def intRep : Rep Int where
  k := 1
  R := fun _ _ cs n => cs = [.int .i64 n]
  len := fun h => by subst h; rfl
  one := fun h => by subst h; intro v hv; simp at hv; subst hv; rfl
  keep := fun h _ => h
  mono := fun h _ => h

def strRep : Rep ByteArray where
  k := 1
  R := fun _ _ cs s => cs = [.string s]
  len := fun h => by subst h; rfl
  one := fun h => by subst h; intro v hv; simp at hv; subst hv; rfl
  keep := fun h _ => h
  mono := fun h _ => h

section
variable {α : Type} (r : Rep α)

/-- The slice at 'ao' with 'xs.length' elements reads as xs. -/
def SlAt (P : Nat → Prop) (w : World) (ao : Option Addr) (xs : List α) : Prop :=
  ∀ i (h : i < xs.length), ∃ b off cs, ao = some ⟨b, off, none⟩ ∧ P b ∧ w.rangeAt b (off + i * r.k) cs ∧ r.R P w cs xs[i]
def Sl (P : Nat → Prop) (w : World) (v : Value) (xs : List α) : Prop := ∃ ao cap, v = .slice ao xs.length cap ∧ SlAt r P w ao xs

variable {r}
theorem rangeAt_lt {w : World} {b o : Nat} {cs : List Value} (h : w.rangeAt b o cs) (hc : 0 < cs.length) : b < w.heap.size :=
  World.block_lt_of_cell? w ⟨b, o + 0, none⟩ (h 0 cs[0] (by simp [hc]))
theorem rangeAt_keep {w w' : World} {b o : Nat} {cs : List Value} (h : w.rangeAt b o cs) (hb : w'.heap[b]? = w.heap[b]?) : w'.rangeAt b o cs := fun j v hv =>
  (World.cell?_of_block (w := w) (a := ⟨b, o + j, none⟩) hb).trans (h j v hv)
theorem SlAt.keep {P : Nat → Prop} {w w' : World} {ao : Option Addr} {xs : List α} (h : SlAt r P w ao xs) (hk : 0 < r.k) (hx : ∀ b, P b → b < w.heap.size → w'.heap[b]? = w.heap[b]?) : SlAt r P w' ao xs := by
  intro i hi
  obtain ⟨b, off, cs, e, hp, hr, hR⟩ := h i hi
  exact ⟨b, off, cs, e, hp, rangeAt_keep hr (hx b hp (rangeAt_lt hr (by rw [r.len hR]; exact hk))), r.keep hR hx⟩
theorem SlAt.mono {P P' : Nat → Prop} {w : World} {ao : Option Addr} {xs : List α} (h : SlAt r P w ao xs) (hk : 0 < r.k) (hx : ∀ b, P b → b < w.heap.size → P' b) : SlAt r P' w ao xs := by
  intro i hi
  obtain ⟨b, off, cs, e, hp, hr, hR⟩ := h i hi
  exact ⟨b, off, cs, e, hx b hp (rangeAt_lt hr (by rw [r.len hR]; exact hk)), hr, r.mono hR hx⟩
theorem SlAt.nil (P : Nat → Prop) (w : World) (ao : Option Addr) : SlAt r P w ao [] := fun i hi => by cases hi
theorem SlAt.get {P : Nat → Prop} {w : World} {ao : Option Addr} {xs : List α} (h : SlAt r P w ao xs) (i : Nat) (hi : i < xs.length) : ∃ b off cs x, ao = some ⟨b, off, none⟩ ∧ P b ∧ w.rangeAt b (off + i * r.k) cs ∧ r.R P w cs x ∧ Hid (xs[i]? = some x) := by
  obtain ⟨b, off, cs, e, hp, hr, hR⟩ := h i hi
  exact ⟨b, off, cs, xs[i], e, hp, hr, hR, by show _ = _; simp [hi]⟩
theorem Sl.at' {P : Nat → Prop} {w : World} {ao : Option Addr} {n cap : Nat} {xs : List α} (h : Sl r P w (.slice ao n cap) xs) : SlAt r P w ao xs := by
  obtain ⟨ao', cap', e, h⟩ := h
  cases e; exact h
theorem Sl.keep {P : Nat → Prop} {w w' : World} {v : Value} {xs : List α} (h : Sl r P w v xs) (hk : 0 < r.k) (hx : ∀ b, P b → b < w.heap.size → w'.heap[b]? = w.heap[b]?) : Sl r P w' v xs := by
  obtain ⟨ao, cap, e, h⟩ := h
  exact ⟨ao, cap, e, h.keep hk hx⟩
theorem Sl.mono {P P' : Nat → Prop} {w : World} {v : Value} {xs : List α} (h : Sl r P w v xs) (hk : 0 < r.k) (hx : ∀ b, P b → b < w.heap.size → P' b) : Sl r P' w v xs := by
  obtain ⟨ao, cap, e, h⟩ := h
  exact ⟨ao, cap, e, h.mono hk hx⟩
theorem Sl.nil (P : Nat → Prop) (w : World) : Sl r P w (.slice none 0 0) ([] : List α) := ⟨none, 0, rfl, SlAt.nil _ _ _⟩
theorem SlAt.take {P : Nat → Prop} {w : World} {ao : Option Addr} {xs : List α} (h : SlAt r P w ao xs) (n : Nat) : SlAt r P w ao (xs.take n) := by
  intro i hi
  have hi' : i < xs.length := by simp at hi; omega
  obtain ⟨b, off, cs, e, hp, hr, hR⟩ := h i hi'
  exact ⟨b, off, cs, e, hp, hr, by simpa using hR⟩
theorem SlAt.drop {P : Nat → Prop} {w : World} {b off : Nat} {xs : List α} (h : SlAt r P w (some ⟨b, off, none⟩) xs) (n : Nat) : SlAt r P w (some ⟨b, off + n * r.k, none⟩) (xs.drop n) := by
  intro i hi
  have hi' : n + i < xs.length := by simp at hi; omega
  obtain ⟨b', off', cs, e, hp, hr, hR⟩ := h (n + i) hi'
  cases e
  exact ⟨b, _, cs, rfl, hp, by rw [show off + n * r.k + i * r.k = off + (n + i) * r.k by rw [Nat.add_mul]; omega]; exact hr, by simpa using hR⟩

/-- A slice as a value that is held in a cell. -/
def slRep (r : Rep α) (hk : 0 < r.k) : Rep (List α) where
  k := 1
  R := fun P w cs xs => ∃ v, cs = [v] ∧ Sl r P w v xs
  len := fun ⟨v, h, _⟩ => by subst h; rfl
  one := fun ⟨v, h, hs⟩ => by
    subst h; intro u hu; simp at hu; subst hu
    obtain ⟨ao, cap, e, _⟩ := hs
    subst e; rfl
  keep := fun ⟨v, h, hs⟩ hx => ⟨v, h, hs.keep hk hx⟩
  mono := fun ⟨v, h, hs⟩ hx => ⟨v, h, hs.mono hk hx⟩
end
end Go.Proofs.YtaihmldiglgipaaGreat

namespace Go.Proofs.YtaihmldiglgipaaGreat
open Go.RowKit Go.Sort

theorem tape_setCells (g : Nat) : ∀ (vs : List Value) (o : Nat) (w : World), (w.setCells g o vs).tape = w.tape
  | [], _, _ => rfl
  | v :: r, o, w => by rw [World.setCells, tape_setCells g r]; rfl
theorem ex_sortWorldK {α : Type} [Inhabited α] (enc : α → List Value) (k : Nat) (w : World) (g off n : Nat) (d : Array α) (os : Array Obj) : Ex w.heap.size (some g) w (sortWorldK enc k w g off n d os) := by
  unfold sortWorldK
  refine ⟨rfl, rfl, rfl, ?_, fun i hi hne => ?_⟩
  · rw [size_grow]
    unfold putRowK putRow mapBlock Go.Sort.ahead
    simp
  · rw [heap_grow_old _ _ (by unfold putRowK putRow mapBlock Go.Sort.ahead; simpa using hi)]
    unfold putRowK putRow mapBlock Go.Sort.ahead
    simp only [Array.getElem?_modify]
    rw [if_neg (by intro e; exact hne (by rw [e]))]

theorem holdsK_range {α : Type} [Inhabited α] {enc : α → List Value} {k : Nat} {w : World} {g off : Nat} {d : Array α} (hk : ∀ x, (enc x).length = k) (h : HoldsK enc k w g off d) (i : Nat) (hi : i < d.size) : w.rangeAt g (off + i * k) (enc d[i]!) := by
  intro j v hv
  have hj : j < k := by rw [← hk d[i]!]; exact (List.getElem?_eq_some_iff.1 hv).1
  have := (h.cell hi hj).1
  rw [this, getElem!_def, hv]

theorem holdsK_of {α : Type} [Inhabited α] {enc : α → List Value} {k : Nat} {w : World} {g off : Nat} {d : Array α} (h : ∀ i c, i < d.size → c < k → w.cell? ⟨g, off + i * k + c, none⟩ = some (enc d[i]!)[c]! ∧ w.frozen? ⟨g, off + i * k + c, none⟩ = false) : HoldsK enc k w g off d := fun t ht => by
  have ht' : t < d.size * k := by simpa using ht
  have k0 : 0 < k := by
    rcases Nat.eq_zero_or_pos k with h0 | h0
    · subst h0; simp at ht'
    · exact h0
  have e : t / k * k + t % k = t := Nat.div_add_mod' t k
  have := h (t / k) (t % k) (Nat.div_lt_of_lt_mul (by rw [Nat.mul_comm]; exact ht')) (Nat.mod_lt _ k0)
  rw [Nat.add_assoc, e] at this
  rw [get_flatK _ _ _ t ht']
  exact this
theorem ex_setCells (w : World) (g o : Nat) (vs : List Value) : Ex w.heap.size (some g) w (w.setCells g o vs) := by
  have h := World.keptBut_setCells g (may := fun _ => True) vs o w (fun _ _ => trivial)
  refine ⟨World.os_setCells w g o vs, tape_setCells g vs o w, World.output_setCells w g o vs, by rw [size_setCells]; exact Nat.le_refl _, fun k hk hne => World.heap_setCells_other w g o vs hk (fun e => hne (by rw [e]))⟩
/-- The row's first elements. -/
theorem holdsK_first {α : Type} [Inhabited α] {enc : α → List Value} {k : Nat} {w : World} {g off : Nat} {d d' : Array α} (h : HoldsK enc k w g off d) (hs : d'.size ≤ d.size) (he : ∀ t, t < d'.size → d'[t]! = d[t]!) : HoldsK enc k w g off d' :=
  holdsK_of fun i c hi hc => by rw [he i hi]; exact HoldsK.cell h (by omega) hc
/-- One element is laid anew. -/
theorem holdsK_set {α : Type} [Inhabited α] {enc : α → List Value} {k : Nat} (hk : ∀ x, (enc x).length = k) {w : World} {g off : Nat} {d : Array α} (h : HoldsK enc k w g off d) (i : Nat) (x : α) (hi : i < d.size) : HoldsK enc k (w.setCells g (off + i * k) (enc x)) g off (d.setIfInBounds i x) :=
  holdsK_of fun j c hj hc => by
    have hj' : j < d.size := by simpa using hj
    rw [World.frozen?_setCells]
    refine ⟨?_, (HoldsK.cell h hj' hc).2⟩
    by_cases e : j = i
    · subst e
      rw [World.cell?_setCells_in g (enc x) (off + j * k) w (fun c hc => by rw [hk] at hc; rw [(HoldsK.cell h hj' hc).1]; rfl) c (by rw [hk]; exact hc)]
      rw [getElem!_pos (d.setIfInBounds j x) j hj, Array.getElem_setIfInBounds, if_pos rfl, getElem!_pos (enc x) c (by rw [hk]; exact hc)]
      exact hj'
    · rw [World.cell?_setCells_out g (enc x) (off + i * k) w _ (fun _ _ => by
        rw [hk]
        show off + j * k + c < off + i * k ∨ off + i * k + k ≤ off + j * k + c
        rcases Nat.lt_or_gt_of_ne e with h' | h'
        · have := Nat.mul_le_mul_right k (show j + 1 ≤ i by omega); rw [Nat.add_mul, Nat.one_mul] at this; omega
        · have := Nat.mul_le_mul_right k (show i + 1 ≤ j by omega); rw [Nat.add_mul, Nat.one_mul] at this; omega), (HoldsK.cell h hj' hc).1]
      rw [getElem!_pos (d.setIfInBounds i x) j hj, Array.getElem_setIfInBounds, if_neg (Ne.symm e), getElem!_pos d j hj']
/-- Stores behind the row. -/
theorem holdsK_behind {α : Type} [Inhabited α] {enc : α → List Value} {k : Nat} {w : World} {g off : Nat} {d : Array α} (h : HoldsK enc k w g off d) (s : Nat) (vs : List Value) (hs : d.size * k ≤ s) : HoldsK enc k (w.setCells g (off + s) vs) g off d :=
  holdsK_of fun i c hi hc => by
    rw [World.frozen?_setCells]
    refine ⟨?_, (HoldsK.cell h hi hc).2⟩
    rw [World.cell?_setCells_out g vs (off + s) w _ (fun _ _ => Or.inl (by
      show off + i * k + c < off + s
      have := Nat.mul_le_mul_right k (show i + 1 ≤ d.size from hi); rw [Nat.add_mul, Nat.one_mul] at this; omega)), (HoldsK.cell h hi hc).1]
end Go.Proofs.YtaihmldiglgipaaGreat

namespace Go.Proofs.YtaihmldiglgipaaGreat
open Go.RowKit Go.Sort

variable {α : Type} [Inhabited α]

/-- The cells of a list of elements, one behind the other. -/
def flatL (enc : α → List Value) (xs : List α) : List Value := xs.flatMap enc
omit [Inhabited α] in
theorem flatL_len {enc : α → List Value} {k : Nat} (hk : ∀ x, (enc x).length = k) (xs : List α) : (flatL enc xs).length = xs.length * k := by
  induction xs with
  | nil => simp [flatL]
  | cons x r ih => simp only [flatL, List.flatMap_cons, List.length_append, hk, List.length_cons, Nat.add_mul, Nat.one_mul] at *; omega
omit [Inhabited α] in
theorem flatL_get {enc : α → List Value} {k : Nat} (hk : ∀ x, (enc x).length = k) : ∀ (xs : List α) (i c : Nat) (h : i < xs.length), c < k → (flatL enc xs)[i * k + c]? = (enc xs[i])[c]?
  | [], i, c, h, _ => by simp at h
  | x :: r, 0, c, h, hc => by
    simp only [flatL, List.flatMap_cons, Nat.zero_mul, Nat.zero_add]
    rw [List.getElem?_append_left (by rw [hk]; exact hc)]; rfl
  | x :: r, i + 1, c, h, hc => by
    simp only [flatL, List.flatMap_cons]
    rw [List.getElem?_append_right (by rw [hk, Nat.add_mul, Nat.one_mul]; omega), hk, show (i + 1) * k + c - k = i * k + c by rw [Nat.add_mul, Nat.one_mul]; omega]
    exact flatL_get hk r i c (by simpa using h) hc
omit [Inhabited α] in
theorem flatL_one {enc : α → List Value} (h1 : ∀ x, ∀ v ∈ enc x, v.oneCell' = true) (xs : List α) : ∀ v ∈ flatL enc xs, v.oneCell' = true := fun v hv => by
  simp only [flatL, List.mem_flatMap] at hv
  obtain ⟨x, _, hv⟩ := hv
  exact h1 x v hv
/-- A row whose cells are those of xs holds xs. -/
theorem holdsK_flat {enc : α → List Value} {k : Nat} (hk : ∀ x, (enc x).length = k) {w : World} {g off : Nat} {xs : List α} (hc : ∀ j v, (flatL enc xs)[j]? = some v → w.cell? ⟨g, off + j, none⟩ = some v) (hf : ∀ j, j < (flatL enc xs).length → w.frozen? ⟨g, off + j, none⟩ = false) : HoldsK enc k w g off xs.toArray :=
  holdsK_of fun i c hi hcc => by
    have hi' : i < xs.length := by simpa using hi
    have e := flatL_get hk xs i c hi' hcc
    have hlen : c < (enc xs[i]).length := by rw [hk]; exact hcc
    rw [List.getElem?_eq_getElem hlen] at e
    have hb : i * k + c < (flatL enc xs).length := (List.getElem?_eq_some_iff.1 e).1
    rw [Nat.add_assoc]
    refine ⟨?_, hf _ hb⟩
    rw [hc _ _ e, getElem!_pos xs.toArray i (by simpa using hi'), List.getElem_toArray, getElem!_pos (enc xs[i]) c hlen]
/-- Cells of a row that is owned. -/
theorem own_there {w : World} {base e size n cap : Nat} {xs : List Value} {g o : Nat} (h : w.ownsRow base e size (.slice (some ⟨g, o, none⟩) n cap) n xs) : o = 0 ∧ base ≤ g ∧ g < w.heap.size ∧ n ≤ cap ∧ (∀ (j : Nat) (v : Value), xs[j]? = some v → w.cell? ⟨g, j, none⟩ = some v) ∧ ∀ j, w.frozen? ⟨g, j, none⟩ = false := by
  rcases h.2 with ⟨h1, h2⟩ | ⟨g', cap', cur, hv, hg, hh, hn, hcm, hcur, hpre⟩
  · cases h1
  · cases hv
    refine ⟨rfl, hg, (Array.getElem?_eq_some_iff.1 hh).1, hn, fun j v hj => ?_, fun j => by simp [World.frozen?, hh]⟩
    rw [← hpre] at hj
    have : cur.toList[j]? = some v := by
      rw [List.getElem?_take] at hj
      split at hj
      · exact hj
      · cases hj
    simp only [World.cell?, hh]
    simpa using this
/-- A row of elements that is owned holds them. -/
theorem own_holdsK {enc : α → List Value} {k : Nat} (hk : ∀ x, (enc x).length = k) {w : World} {base e n cap : Nat} {xs : List α} {g o : Nat} (h : w.ownsRow base e k (.slice (some ⟨g, o, none⟩) n cap) n (flatL enc xs)) : HoldsK enc k w g 0 xs.toArray := by
  obtain ⟨_, _, _, _, h1, h2⟩ := own_there h
  exact holdsK_flat hk (fun j v hv => by rw [Nat.zero_add]; exact h1 j v hv) (fun j _ => by rw [Nat.zero_add]; exact h2 j)
/-- A slice of elements of k cells that the call owns. -/
def OwnE (enc : α → List Value) (k : Nat) (e : TypeId) (w : World) (base : Nat) (ao : Option Addr) (cap : Nat) (xs : List α) : Prop := w.ownsRow base e k (.slice ao xs.length cap) xs.length (flatL enc xs)
omit [Inhabited α] in
theorem OwnE.nil (enc : α → List Value) (k : Nat) (e : TypeId) (w : World) (base : Nat) : OwnE enc k e w base none 0 [] := World.ownsRow_nil w base e k
omit [Inhabited α] in
theorem OwnE.keep {enc : α → List Value} {k : Nat} {e : TypeId} {w w' : World} {base B : Nat} {p : Option Nat} {ao : Option Addr} {cap : Nat} {xs : List α} (h : OwnE enc k e w base ao cap xs) (hx : Ex B p w w') (hB : w.heap.size ≤ B) (hp : ∀ q, p = some q → q < base) : OwnE enc k e w' base ao cap xs := own_keep h hx hB hp
omit [Inhabited α] in
theorem OwnE.lt {enc : α → List Value} {k : Nat} {e : TypeId} {w : World} {base : Nat} {ao : Option Addr} {cap : Nat} {xs : List α} (h : OwnE enc k e w base ao cap xs) : ∀ a, ao = some a → base ≤ a.block ∧ a.block < w.heap.size := by
  intro a e; subst e; exact World.ownsRow.lt h _ rfl
omit [Inhabited α] in
theorem OwnE.cases {enc : α → List Value} {k : Nat} {e : TypeId} {w : World} {base : Nat} {ao : Option Addr} {cap : Nat} {xs : List α} (h : OwnE enc k e w base ao cap xs) : (ao = none ∧ cap = 0 ∧ xs = []) ∨ ∃ g, ao = some ⟨g, 0, none⟩ ∧ base ≤ g ∧ g < w.heap.size ∧ xs.length ≤ cap := by
  rcases h.2 with ⟨h1, h2⟩ | ⟨g, cap', cur, hv, hg, hh, hn, _⟩
  · simp only [Value.slice.injEq] at h1
    obtain ⟨rfl, _, rfl⟩ := h1
    exact Or.inl ⟨rfl, rfl, List.eq_nil_of_length_eq_zero h2⟩
  · cases hv; exact Or.inr ⟨g, rfl, hg, (Array.getElem?_eq_some_iff.1 hh).1, hn⟩
theorem OwnE.holds {enc : α → List Value} {k : Nat} (hk : ∀ x, (enc x).length = k) {e : TypeId} {w : World} {base g o cap : Nat} {xs : List α} (h : OwnE enc k e w base (some ⟨g, o, none⟩) cap xs) : HoldsK enc k w g 0 xs.toArray := own_holdsK hk h

omit [Inhabited α] in
/-- 'append(out, src...)', out a slice of such elements of the call's own, src as many cells as ys says (nil too). -/
theorem wpList_appE {P : Program} {w0 w : World} {ops : Array Oper} {rest : List Oper} {o : Oper} {a : Act} {Q : Exit → Act → World → Prop} (hgd : o.guard = none) (s x : Operand) (t e : TypeId)
    (ho : o.op = .call { callee := .builtin .append, args := #[s, x], argTypes := #[t, t] })
    (ht : P.underlying t = some (.slice e)) (z : Value) (k bytes : Nat) (hinfo : (P.info? e).map (fun i => (i.zero, i.size, i.bytes)) = some (some z, k, bytes)) (hzc : z.cells.size = k) (hk0 : 0 < k) (hb : bytes ≤ 1000)
    (enc : α → List Value) (hk : ∀ x, (enc x).length = k) (h1 : ∀ x, ∀ v ∈ enc x, v.oneCell' = true)
    (base : Nat) (ao : Option Addr) (cap : Nat) (xs ys : List α) (v u : Value) (n : Nat) (hn : n = xs.length) (hv : v = .slice ao n cap) (hs : a.eval s = v) (so : Option Addr) (m sc : Nat) (hx : a.eval x = u) (hu : u = .slice so m sc) (hm : m = ys.length)
    (hsrc : ys.length = 0 ∨ ∃ ad, so = some ad ∧ ∀ (j : Nat) (v : Value), (flatL enc ys)[j]? = some v → w.cell? (ad.add j) = some v)
    (hown : OwnE enc k e w0 base ao cap xs) (hw : Ex w0.heap.size none w0 w) (hlen : xs.length + ys.length ≤ 10000000) (hbase : base ≤ w0.heap.size)
    (h : ∀ ao' cap' w', OwnE enc k e w' base ao' cap' (xs ++ ys) → Ex base none w0 w' → wpList P ops Q rest (a.put o.dst (.slice ao' (xs.length + ys.length) cap')) w') : wpList P ops Q (o :: rest) a w := by
  subst hn hm hu hv
  obtain ⟨i0, hi, hz0, hz1, hz2⟩ := info_parts hinfo
  have hown' : OwnE enc k e w base ao cap xs := hown.keep hw (Nat.le_refl _) (by simp)
  have hsz := hw.size
  have key : ∀ so ad, so = some ad → a.eval x = .slice so ys.length sc → (∀ (j : Nat) (v : Value), (flatL enc ys)[j]? = some v → w.cell? (ad.add j) = some v) → wpList P ops Q (o :: rest) a w := fun so ad e1 hx hsrc => by
    subst e1
    refine wpList_append_own _ hgd s x t ho base e i0 z k bytes ht hi hz0 hz1 hz2 hzc hk0 _ _ _ hs hown' ad ys.length sc (flatL enc ys) hx (flatL_len hk ys) hsrc (flatL_one h1 ys) (by simp only [maxLen]; omega) ?_ (by omega) ?_
    · have := Nat.mul_le_mul hlen hb; omega
    · intro v' w' ho' hg _
      obtain ⟨ao', cap', rfl⟩ := own_shape ho'
      refine h ao' cap' w' ?_ ((hw.mono hbase).grown hg (by omega) ?_)
      · unfold OwnE
        have e1 : flatL enc (xs ++ ys) = flatL enc xs ++ flatL enc ys := by simp [flatL]
        rw [e1, List.length_append]; exact ho'
      · intro q hq
        exact (World.ownsRow.lt hown' q hq).1
  rcases hsrc with h0 | ⟨ad, e1, hc⟩
  · have hy : ys = [] := List.eq_nil_of_length_eq_zero h0
    cases so with
    | some ad => exact key _ ad rfl hx (fun j v hv => by subst hy; simp [flatL] at hv)
    | none =>
      subst hy
      refine wpList_plain hgd fun K hK => ?_
      have hrun := run_append_none (P := P) (w := w) base t o.type e i0 k ht hi _ _ sc _ hown'
      unfold Oper.wp
      simp only [List.length_nil] at hx
      simp [execOp, ho, resolve, invoke, builtin, hs, hx, hrun, Result.andThen]
      exact hK _ _ (by simpa using h ao cap w (by simpa using hown') (hw.mono hbase))
  · exact key so ad e1 hx hc
omit [Inhabited α] in
/-- The one element of a literal. -/
theorem lit_cells {enc : α → List Value} {w : World} {x : α} {t : TypeId} {cs : Array Value} (h : cs.toList = enc x) : ([x] : List α).length = 0 ∨ ∃ ad, some (⟨w.heap.size, 0, none⟩ : Addr) = some ad ∧ ∀ (j : Nat) (v : Value), (flatL enc [x])[j]? = some v → (w.alloc (.cells cs t)).cell? (ad.add j) = some v := by
  refine Or.inr ⟨_, rfl, fun j v hv => ?_⟩
  rw [Addr.add_lit, Nat.zero_add, cell_of_row _ _ _ _ _ _ (heap_alloc_new w _)]
  simp only [flatL, List.flatMap_cons, List.flatMap_nil, List.append_nil] at hv
  rw [← h] at hv
  simpa using hv
end Go.Proofs.YtaihmldiglgipaaGreat

namespace Go.Proofs.YtaihmldiglgipaaGreat
open Go.RowKit

theorem Tryz.infoInt : (Tryz.prog.info? 3).map (fun i => (i.zero, i.size, i.bytes)) = some (some (.int .i64 0), 1, 8) := by kernel_rfl
end Go.Proofs.YtaihmldiglgipaaGreat

namespace Go.Proofs.YtaihmldiglgipaaGreat
open Go.RowKit Go.Sort

/-- A pin: author, height, digest. -/
abbrev PinD := Int × Int × ByteArray
def pinE (p : PinD) : List Value := [.int .i64 p.1, .int .i64 p.2.1, .string p.2.2]
theorem pinE_len (p : PinD) : (pinE p).length = 3 := rfl
theorem one_pinE : ∀ p, ∀ v ∈ pinE p, v.oneCell' = true := fun p v hv => by simp [pinE] at hv; rcases hv with rfl | rfl | rfl <;> rfl
/-- Elements that are held by value. -/
def valRep {α : Type} (enc : α → List Value) (k : Nat) (hk : ∀ x, (enc x).length = k) (h1 : ∀ x, ∀ v ∈ enc x, v.oneCell' = true) : Rep α where
  k := k
  R := fun _ _ cs x => cs = enc x
  len := fun h => by subst h; exact hk _
  one := fun h => by subst h; exact h1 _
  keep := fun h _ => h
  mono := fun h _ => h
def pinRep : Rep PinD := valRep pinE 3 pinE_len one_pinE

/-- A statement. -/
structure St where
  author : Int
  number : Int
  prev : ByteArray
  time : Int
  kind : Int
  a : Int
  b : Int
  c : Int
  list : List Int
  pins : List PinD
  body : ByteArray
  key : Int
  dig : ByteArray
instance : Inhabited St := ⟨⟨0, 0, ⟨#[]⟩, 0, 0, 0, 0, 0, [], [], ⟨#[]⟩, 0, ⟨#[]⟩⟩⟩
/-- Equal, field for field. -/
def sameS (s t : St) : Bool :=
  decide (s.author = t.author) && decide (s.number = t.number) && decide (s.prev = t.prev) && decide (s.time = t.time) && decide (s.kind = t.kind) && decide (s.a = t.a) && decide (s.b = t.b) && decide (s.c = t.c) &&
  decide (s.list = t.list) && decide (s.pins = t.pins) && decide (s.body = t.body) && (decide (s.key = t.key) && decide (s.dig = t.dig))
/-- A slice's header. -/
structure Sv where
  ao : Option Addr
  n : Nat
  c : Nat
instance : Inhabited Sv := ⟨⟨none, 0, 0⟩⟩
def Sv.v (x : Sv) : Value := .slice x.ao x.n x.c
/-- The cells of a statement whose lists lie at l and p. -/
def stE (x : St × Sv × Sv) : List Value :=
  [.int .i64 x.1.author, .int .i64 x.1.number, .string x.1.prev, .int .i64 x.1.time, .int .i64 x.1.kind, .int .i64 x.1.a, .int .i64 x.1.b, .int .i64 x.1.c, x.2.1.v, x.2.2.v, .string x.1.body, .int .i64 x.1.key, .string x.1.dig]
theorem stE_len (x : St × Sv × Sv) : (stE x).length = 13 := rfl
theorem one_stE : ∀ x, ∀ v ∈ stE x, v.oneCell' = true := fun x v hv => by
  simp only [stE, List.mem_cons, List.not_mem_nil, or_false] at hv
  rcases hv with rfl | rfl | rfl | rfl | rfl | rfl | rfl | rfl | rfl | rfl | rfl | rfl | rfl <;> rfl
/-- The lists of a statement lie where its headers say. -/
def Lies (P : Nat → Prop) (w : World) (x : St × Sv × Sv) : Prop := Sl intRep P w x.2.1.v x.1.list ∧ Sl pinRep P w x.2.2.v x.1.pins
theorem Lies.keep {P : Nat → Prop} {w w' : World} {x : St × Sv × Sv} (h : Lies P w x) (hx : ∀ b, P b → b < w.heap.size → w'.heap[b]? = w.heap[b]?) : Lies P w' x := ⟨h.1.keep (by decide) hx, h.2.keep (by decide) hx⟩
theorem Lies.mono {P P' : Nat → Prop} {w : World} {x : St × Sv × Sv} (h : Lies P w x) (hx : ∀ b, P b → b < w.heap.size → P' b) : Lies P' w x := ⟨h.1.mono (by decide) hx, h.2.mono (by decide) hx⟩
def stRep : Rep St where
  k := 13
  R := fun P w cs s => ∃ l p, cs = stE (s, l, p) ∧ Lies P w (s, l, p)
  len := fun ⟨l, p, h, _⟩ => by subst h; exact stE_len _
  one := fun ⟨l, p, h, _⟩ => by subst h; exact one_stE _
  keep := fun ⟨l, p, h, hs⟩ hx => ⟨l, p, h, hs.keep hx⟩
  mono := fun ⟨l, p, h, hs⟩ hx => ⟨l, p, h, hs.mono hx⟩
theorem sl_ints {P : Nat → Prop} {w : World} {v : Value} {xs : List Int} (h : Sl intRep P w v xs) : Ints w v xs := by
  obtain ⟨ao, cap, rfl, h⟩ := h
  refine ⟨ao, cap, rfl, fun j hj => ?_⟩
  obtain ⟨b, off, cs, e, hp, hr, hR⟩ := h 0 (by omega)
  refine ⟨b, off, e, fun i hi => ?_⟩
  obtain ⟨b', off', cs', e', hp', hr', hR'⟩ := h i hi
  rw [e] at e'; cases e'
  have := hr' 0 (.int .i64 xs[i]) (by rw [show cs' = _ from hR']; rfl)
  rw [show off + i = off + i * intRep.k + 0 by simp [intRep]]
  rw [this]; simp [List.getD, hi]
theorem ints_sl {P : Nat → Prop} {w : World} {v : Value} {xs : List Int} (h : Ints w v xs) (hP : ∀ ao n c, v = .slice ao n c → xs ≠ [] → ∀ a, ao = some a → P a.block) : Sl intRep P w v xs := by
  obtain ⟨ao, cap, rfl, h⟩ := h
  refine ⟨ao, cap, rfl, fun i hi => ?_⟩
  obtain ⟨b, off, e, hc⟩ := h i hi
  refine ⟨b, off, [.int .i64 xs[i]], e, hP _ _ _ rfl (by intro h0; subst h0; simp at hi) _ e, fun j v hv => ?_, rfl⟩
  match j, hv with
  | 0, hv =>
    simp at hv; subst hv
    have := hc i hi
    rw [show off + i * intRep.k + 0 = off + i by simp [intRep]]
    rw [this]; simp [List.getD, hi]
  | j + 1, hv => simp at hv
/-- The cells of a slice of elements that are held by value. -/
theorem val_cells {α : Type} {enc : α → List Value} {k : Nat} {hk : ∀ x, (enc x).length = k} {h1 : ∀ x, ∀ v ∈ enc x, v.oneCell' = true} (hk0 : 0 < k) {P : Nat → Prop} {w : World} {ao : Option Addr} {xs : List α} (h : SlAt (valRep enc k hk h1) P w ao xs) : xs.length = 0 ∨ ∃ ad, ao = some ad ∧ ∀ (j : Nat) (v : Value), (flatL enc xs)[j]? = some v → w.cell? (ad.add j) = some v := by
  rcases Nat.eq_zero_or_pos xs.length with h0 | h0
  · exact Or.inl h0
  · obtain ⟨b, off, _, e, _, _, _⟩ := h 0 h0
    refine Or.inr ⟨_, e, fun j v hv => ?_⟩
    have hl := flatL_len hk xs
    have hj := (List.getElem?_eq_some_iff.1 hv).1
    have hi : j / k < xs.length := Nat.div_lt_of_lt_mul (by rw [Nat.mul_comm]; omega)
    obtain ⟨b', off', cs, e', _, hr, hR⟩ := h (j / k) hi
    rw [e] at e'; cases e'
    have hm : j / k * k + j % k = j := Nat.div_add_mod' j k
    have hg := flatL_get hk xs (j / k) (j % k) hi (Nat.mod_lt _ hk0)
    rw [hm, hv] at hg
    have hcs : cs = enc xs[j / k] := hR
    have := hr (j % k) v (by rw [hcs]; exact hg.symm)
    rw [Addr.add_lit, ← hm, ← Nat.add_assoc]
    exact this
/-- A row that holds elements by value is a slice of them. -/
theorem val_sl {α : Type} [Inhabited α] {enc : α → List Value} {k : Nat} {hk : ∀ x, (enc x).length = k} {h1 : ∀ x, ∀ v ∈ enc x, v.oneCell' = true} {P : Nat → Prop} {w : World} {g : Nat} {xs : List α} (hP : P g) (h : HoldsK enc k w g 0 xs.toArray) : SlAt (valRep enc k hk h1) P w (some ⟨g, 0, none⟩) xs := fun i hi => by
  refine ⟨g, 0, enc xs[i], rfl, hP, ?_, rfl⟩
  have := holdsK_range hk h i (by simpa using hi)
  rwa [getElem!_pos xs.toArray i hi, List.getElem_toArray] at this
/-- A row that holds statements is a slice of them, if their lists lie somewhere. -/
theorem st_sl {P : Nat → Prop} {w : World} {g : Nat} {xs : List (St × Sv × Sv)} (hP : P g) (h : HoldsK stE 13 w g 0 xs.toArray) (hl : ∀ x ∈ xs, Lies P w x) : SlAt stRep P w (some ⟨g, 0, none⟩) (xs.map (·.1)) := fun i hi => by
  have hi' : i < xs.length := by simpa using hi
  refine ⟨g, 0, stE xs[i], rfl, hP, ?_, xs[i].2.1, xs[i].2.2, by simp, by simpa using hl _ (List.getElem_mem hi')⟩
  have := holdsK_range stE_len h i (by simpa using hi')
  rwa [getElem!_pos xs.toArray i hi', List.getElem_toArray] at this
end Go.Proofs.YtaihmldiglgipaaGreat

namespace Go.Proofs.YtaihmldiglgipaaGreat

def hasI (xs : List Int) (x : Int) : Bool := xs.contains x
theorem hasI_iff {xs : List Int} {x : Int} : hasI xs x = true ↔ x ∈ xs := by simp [hasI]
theorem hasI_snoc (xs : List Int) (y x : Int) : hasI (xs ++ [y]) x = (hasI xs x || y == x) := by
  unfold hasI; rw [Bool.eq_iff_iff]; simp [List.mem_append, Bool.or_eq_true, @eq_comm _ x y]
theorem hasI_get {xs : List Int} {x : Int} {k : Nat} (hk : k < xs.length) (h : xs.getD k 0 = x) : hasI xs x = true := by
  rw [hasI_iff]; subst h; simp [List.getD, hk]
theorem take_snoc (xs : List Int) (k : Nat) (h : k < xs.length) : xs.take (k + 1) = xs.take k ++ [xs.getD k 0] := by
  rw [List.take_add_one, List.getElem?_eq_getElem h]; simp [List.getD, h]
theorem hasI_take_succ {xs : List Int} {x : Int} {k : Nat} (hk : k < xs.length) (h : hasI (xs.take k) x = false) (hne : xs.getD k 0 ≠ x) : hasI (xs.take (k + 1)) x = false := by
  rw [take_snoc xs k hk, hasI_snoc, h]; simpa using hne

/-- 0 .. n-1 for which c holds. -/
def keysTo (c : Int → Bool) : Nat → List Int
  | 0 => []
  | k + 1 => keysTo c k ++ (if c k then [(k : Int)] else [])
theorem keysTo_le (c : Int → Bool) (k : Nat) : (keysTo c k).length ≤ k := by
  induction k with
  | zero => simp [keysTo]
  | succ k ih => simp only [keysTo, List.length_append]; split <;> simp <;> omega
def joinI (a b : List Int) : List Int := keysTo (fun k => hasI a k || hasI b k) 64
def minusI (a b : List Int) : List Int := keysTo (fun k => hasI a k && !hasI b k) 64

/-- n modulo m, from 0 on. -/
def modI (n m : Int) : Int := if m < 1 then 0 else n % m
theorem modI_pos {n m : Int} (h : 1 ≤ m) : modI n m = n % m := by unfold modI; rw [if_neg (by omega)]
theorem modI_bd {n m : Int} (h : 1 ≤ m) : 0 ≤ modI n m ∧ modI n m < m := by
  rw [modI_pos h]; exact ⟨Int.emod_nonneg _ (by omega), Int.emod_lt_of_pos _ (by omega)⟩

/-- Dice: the numbers that are left. -/
def dVal (d : List Int) (n : Int) : Int := match d with | [] => 0 | x :: _ => modI x n
theorem dVal_bd {d : List Int} {n : Int} (h : 1 ≤ n) : 0 ≤ dVal d n ∧ dVal d n < n := by
  cases d with
  | nil => simp [dVal]; omega
  | cons x r => exact modI_bd h
def someTo (d : List Int) : Nat → List Int × List Int
  | 0 => ([], d)
  | k + 1 => ((someTo d k).1 ++ (if dVal (someTo d k).2 3 = 0 then [(k : Int)] else []), (someTo d k).2.tail)
theorem someTo_le (d : List Int) (k : Nat) : (someTo d k).1.length ≤ k := by
  induction k with
  | zero => simp [someTo]
  | succ k ih => simp only [someTo, List.length_append]; split <;> simp <;> omega
/-- Some keys below n, at least one: the keys, and what is left of the dice. -/
def keysD (d : List Int) (n : Int) : List Int × List Int :=
  if (someTo d n.toNat).1 = [] then ([dVal (someTo d n.toNat).2 n], (someTo d n.toNat).2.tail) else someTo d n.toNat

/-- The first newcomers of an order. -/
def newcTo (xs old : List Int) (q : Int) : Nat → List Int
  | 0 => []
  | k + 1 => if ((newcTo xs old q k).length : Int) < q ∧ hasI old (xs.getD k 0) = false ∧ hasI (newcTo xs old q k) (xs.getD k 0) = false then newcTo xs old q k ++ [xs.getD k 0] else newcTo xs old q k
def newc (xs old : List Int) (q : Int) : List Int := newcTo xs old q xs.length
def fitsI (old next : List Int) (q : Int) : Bool := decide (((newc next old next.length).length : Int) ≤ q)
def thereTo (g ks : List Int) : Nat → Nat
  | 0 => 0
  | k + 1 => thereTo g ks k + (if hasI g (ks.getD k 0) then 1 else 0)
def mostI (g ks : List Int) (e q : Int) : Int := min (ks.length : Int) (thereTo g ks ks.length + e * q)
end Go.Proofs.YtaihmldiglgipaaGreat

namespace Go.Proofs.YtaihmldiglgipaaGreat
open Go.RowKit Go.Sort

theorem bytes_inj {a b : ByteArray} : a.toList = b.toList ↔ a = b := by
  constructor
  · intro h
    rw [ByteArray.toList_eq, ByteArray.toList_eq] at h
    obtain ⟨⟨x⟩⟩ := a
    obtain ⟨⟨y⟩⟩ := b
    simp at h; subst h; rfl
  · rintro rfl; rfl
end Go.Proofs.YtaihmldiglgipaaGreat

namespace Go.Proofs.YtaihmldiglgipaaGreat
open Go.RowKit Go.Sort

theorem seal_eql (k l : Int) (d e : ByteArray) : ∀ w, (binOp .eql 33 (.agg #[.int .i64 k, .string d]) (.agg #[.int .i64 l, .string e])).run Tryz.prog w = .ok (.bool (decide (k = l) && decide (d = e))) w := fun w => by
  simp [go_sem, bytes_inj]
  by_cases h1 : k = l <;> by_cases h2 : d = e <;> simp [h1, h2]
theorem bytes_nbeq {a b : ByteArray} (h : ¬ a = b) : (a == b) = false ∧ (a.toList == b.toList) = false := by
  have h2 : (a.toList == b.toList) = false := by
    rw [Bool.eq_false_iff]; intro h'
    exact h (bytes_inj.1 (by simpa using h'))
  exact ⟨by rw [beq_toListBytes]; exact h2, h2⟩
end Go.Proofs.YtaihmldiglgipaaGreat

namespace Go.Proofs.YtaihmldiglgipaaGreat
open Go.RowKit Go.Sort

/-- A world in which no block of w has been turned. -/
structure ExW (w : World) where
  w' : World
  ex : Ex w.heap.size none w w'
instance (w : World) : Inhabited (ExW w) := ⟨⟨w, Ex.refl _ _ _⟩⟩
theorem wp_region_quiet_ex {P : Program} {id : Nat} {Q : Exit → Act → World → Prop} {a : Act} {w : World} {l : List Oper} (hm : P.follows .mixedOrders = true) (hB : Region.lexB .any l.toArray = true)
    (h : wpQuiet P l.toArray (fun v => ∃ p : ExW w, v = p.w') (fun a' => ∀ v, (∃ p : ExW w, v = p.w') → Q .normal a' v) l a) : (Code.region id l.toArray true).wp P Q a w :=
  wp_region_quiet (C := fun v => ∃ p : ExW w, v = p.w') hm hB ⟨⟨w.drew, (Ex.refl _ _ _).drew⟩, rfl⟩ (by simpa using h)
theorem calls_ex_of {P : Program} {f : FuncId} {args : Array Value} {w : World} {p : ExW w} {v : Value} (h : Calls P f args p.w' fun e w' => e = .returned v ∧ Ex p.w'.heap.size none p.w' w') : Calls P f args p.w' fun e w'' => e = .returned v ∧ ∃ q : ExW w, w'' = q.w' :=
  h.mono fun _ _ ⟨he, hx⟩ => ⟨he, ⟨_, p.ex.trans hx p.ex.size (by simp)⟩, rfl⟩
/-- The cells of a statement, one by one. -/
theorem st_at {w : World} {b o : Nat} {x : St × Sv × Sv} (h : w.rangeAt b o (stE x)) :
    w.cell? ⟨b, o, none⟩ = some (.int .i64 x.1.author) ∧ w.cell? ⟨b, o + 1, none⟩ = some (.int .i64 x.1.number) ∧ w.cell? ⟨b, o + 2, none⟩ = some (.string x.1.prev) ∧ w.cell? ⟨b, o + 3, none⟩ = some (.int .i64 x.1.time) ∧
    w.cell? ⟨b, o + 4, none⟩ = some (.int .i64 x.1.kind) ∧ w.cell? ⟨b, o + 5, none⟩ = some (.int .i64 x.1.a) ∧ w.cell? ⟨b, o + 6, none⟩ = some (.int .i64 x.1.b) ∧ w.cell? ⟨b, o + 7, none⟩ = some (.int .i64 x.1.c) ∧
    w.cell? ⟨b, o + 8, none⟩ = some x.2.1.v ∧ w.cell? ⟨b, o + 9, none⟩ = some x.2.2.v ∧ w.cell? ⟨b, o + 10, none⟩ = some (.string x.1.body) ∧ w.cell? ⟨b, o + 11, none⟩ = some (.int .i64 x.1.key) ∧ w.cell? ⟨b, o + 12, none⟩ = some (.string x.1.dig) :=
  ⟨h 0 _ rfl, h 1 _ rfl, h 2 _ rfl, h 3 _ rfl, h 4 _ rfl, h 5 _ rfl, h 6 _ rfl, h 7 _ rfl, h 8 _ rfl, h 9 _ rfl, h 10 _ rfl, h 11 _ rfl, h 12 _ rfl⟩
end Go.Proofs.YtaihmldiglgipaaGreat

namespace Go.Proofs.YtaihmldiglgipaaGreat
open Go.RowKit Go.Sort

theorem Tryz.infoPin : (Tryz.prog.info? 85).map (fun i => (i.zero, i.size, i.bytes)) = some (some (.agg #[.int .i64 0, .int .i64 0, .string ⟨#[]⟩]), 3, 32) := by kernel_rfl
theorem ex_two0 {w : World} (o1 o2 : Obj) : Ex w.heap.size none w ((w.alloc o1).alloc o2) := (Ex.new w o1).trans ((Ex.new _ o2).mono (by simp)) (Nat.le_refl _) (by simp)
theorem ex_two_trans {w w' : World} {o1 o2 : Obj} (h : Ex ((w.alloc o1).alloc o2).heap.size none ((w.alloc o1).alloc o2) w') : Ex w.heap.size none w w' := (ex_two0 o1 o2).trans (h.mono (by simp <;> omega)) (Nat.le_refl _) (by simp)
theorem set_far {w : World} {b q o : Nat} {v : Value} {x : Option Obj} (h : b ≠ q) (e : w.heap[b]? = x) : (w.setCell ⟨q, o, none⟩ v).heap[b]? = x := (Below.heap_setCell _ _ _ _ (show b ≠ q from h)).trans e
theorem bcell {W w1 : World} (hb : Below W.heap.size W w1) : (∀ b o, b < W.heap.size → w1.cell? ⟨b, o, none⟩ = W.cell? ⟨b, o, none⟩) ∧ (∀ b o, b < W.heap.size → w1.frozen? ⟨b, o, none⟩ = W.frozen? ⟨b, o, none⟩) :=
  ⟨fun b o h => hb.cell (p := ⟨b, o, none⟩) h, fun b o h => hb.frozen (p := ⟨b, o, none⟩) h⟩
theorem own_ints_sl {w : World} {base : Nat} {ao : Option Addr} {cap : Nat} {xs : List Int} (h : OwnI w base ao cap xs) : Sl intRep (fun b => base ≤ b) w (.slice ao xs.length cap) xs :=
  ints_sl h.v (fun ao' n c e _ a ha => by cases e; exact (h.lt a ha).1)
theorem own_val_sl {α : Type} [Inhabited α] {enc : α → List Value} {k : Nat} {hk : ∀ x, (enc x).length = k} {h1 : ∀ x, ∀ v ∈ enc x, v.oneCell' = true} {w : World} {base : Nat} {e : TypeId} {ao : Option Addr} {cap : Nat} {xs : List α} (h : OwnE enc k e w base ao cap xs) : Sl (valRep enc k hk h1) (fun b => base ≤ b) w (.slice ao xs.length cap) xs := by
  refine ⟨ao, cap, rfl, ?_⟩
  rcases h.cases with ⟨_, _, h0⟩ | ⟨g, rfl, h2, _, _⟩
  · subst h0; exact SlAt.nil _ _ _
  · exact val_sl h2 (h.holds hk)

set_option maxHeartbeats 2000000 in
set_option maxRecDepth 100000 in
theorem copy03_any {P : Nat → Prop} (s : St) (lo po : Option Addr) (ln lc pn pc : Nat) (w : World) (hx1 : Sl intRep P w (.slice lo ln lc) s.list) (hx2 : Sl pinRep P w (.slice po pn pc) s.pins) (hm : s.list.length ≤ 1000000) (hm2 : s.pins.length ≤ 1000000) :
    Calls Tryz.prog 74 #[.agg #[.int .i64 s.author, .int .i64 s.number, .string s.prev, .int .i64 s.time, .int .i64 s.kind, .int .i64 s.a, .int .i64 s.b, .int .i64 s.c, .slice lo ln lc, .slice po pn pc, .string s.body, .int .i64 s.key, .string s.dig]] w fun e w' =>
      ∃ l p : Sv, e = .returned (.agg (stE (s, l, p)).toArray) ∧ Lies (fun b => w.heap.size ≤ b) w' (s, l, p) ∧ Ex w.heap.size none w w' := by
  have HX1 := Lib.hid hx1
  have HX2 := Lib.hid hx2
  obtain ⟨x0, c0, e0, r0⟩ := hx1
  obtain ⟨x1, c1, e1, r1⟩ := hx2
  clear r0 r1
  simp only [Value.slice.injEq] at e0 e1
  obtain ⟨rfl, rfl, rfl⟩ := e0
  obtain ⟨rfl, rfl, rfl⟩ := e1
  go_enter Tryz.func74, Tryz.ntmps74
  go_wp2_with (first
    | (at_builtin; refine wpList_appIs rfl (.const (.slice none 0 0)) (.tmp 4) _ rfl Tryz.underlying22 Tryz.infoInt _ none 0 [] s.list (.slice none 0 0) _ 0 rfl rfl (by rfl) (by rfl) (sl_ints (HX1.out.keep (by decide) (fun b _ hb => (ex_two0 _ _).block b hb (by simp)))) (OwnI.nil _ _) (Ex.refl _ _ _) (by simp; omega) (Nat.le_refl _) ?_; intro la lcap w1 hown1 hex1; obtain ⟨hc1, hf1⟩ := bcell hex1.below; have hz1 := hex1.size; simp at hz1; have hy1 : w.heap.size < w1.heap.size := (by omega); have hx1 : w.heap.size + 1 < w1.heap.size := (by omega); have HE1 : Hid (Ex w.heap.size none w w1) := ex_two_trans hex1; have HO1 := Lib.hid hown1; clear hown1 hex1)
    | (at_builtin
       have _tt := HE1
       refine wpList_appE rfl (.const (.slice none 0 0)) (.tmp 8) _ 85 rfl Tryz.underlying31 (.agg #[.int .i64 0, .int .i64 0, .string ⟨#[]⟩]) 3 32 Tryz.infoPin rfl (by decide) (by decide) pinE pinE_len one_pinE _ none 0 [] s.pins (.slice none 0 0) _ 0 rfl rfl (by rfl) po s.pins.length pc (by rfl) rfl rfl (val_cells (hk := pinE_len) (h1 := one_pinE) (by decide) (HX2.out.keep (by decide) (fun b _ hb => (HE1.out.setCell 8 none _ (Or.inr (Nat.le_refl _))).block b hb (by simp))).at') (OwnE.nil _ _ _ _ _) (Ex.refl _ _ _) (by simp; omega) (Nat.le_refl _) ?_
       intro pa pcap w2 hown2 hex2
       obtain ⟨hc2, hf2⟩ := bcell hex2.below
       have hz2 := hex2.size
       simp at hz2
       have hy2 : w.heap.size < w2.heap.size := (by omega)
       have hx2 : w.heap.size + 1 < w2.heap.size := (by omega)
       have HE2 : Hid (Ex w.heap.size none w w2) := ((HE1.out.setCell (q := w.heap.size) 8 none (.slice la s.list.length lcap) (Or.inr (Nat.le_refl _))).trans (hex2.mono (by simp <;> omega)) (Nat.le_refl _) (by simp))
       have HO2 := Lib.hid hown2
       have HX12 := Lib.hid hex2
       clear hown2 hex2
       have q8 : w2.cell? ⟨w.heap.size, 8, none⟩ = some (.slice la s.list.length lcap) := (hc2 w.heap.size 8 (by simpa using hy1)).trans (World.cell?_setCell_same _ _ _ (show w1.cell? ⟨w.heap.size, 8, none⟩ = some (.slice lo s.list.length lc) from (hc1 w.heap.size 8 (by simp <;> omega)).trans (by go_simp)))
       have qs := fun (o : Nat) (h : o ≠ 8) => ((hc2 w.heap.size o (by simpa using hy1)).trans (World.cell?_setCell_other _ _ _ _ (by simp <;> omega))).trans (hc1 w.heap.size o (by simp <;> omega))
       have qr := fun (o : Nat) => ((hc2 (w.heap.size + 1) o (by simpa using hx1)).trans (World.cell?_setCell_other _ _ _ _ (by simp))).trans (hc1 (w.heap.size + 1) o (by simp <;> omega))
       clear hc1 hc2))
  refine bodyPost_ret (v := .agg #[.int .i64 s.author, .int .i64 s.number, .string s.prev, .int .i64 s.time, .int .i64 s.kind, .int .i64 s.a, .int .i64 s.b, .int .i64 s.c, .slice la s.list.length lcap, .slice pa s.pins.length pcap, .string s.body, .int .i64 s.key, .string s.dig]) (by simp [results, Tryz.results74, go_sem, qr]) rfl ?_
  have hO1 : OwnI w2 (w.heap.size + 2) la lcap s.list := by
    have h1 := HO1.out
    have h2 : Ex w1.heap.size (some w.heap.size) w1 w2 := ((Ex.refl w1.heap.size (some w.heap.size) w1).setCell (q := w.heap.size) 8 none (.slice la s.list.length lcap) (Or.inl rfl)).trans HX12.out (by simp) (by simp)
    have h3 := h1.keep h2 (Nat.le_refl _) (fun q e => by cases e; simp <;> omega)
    simpa using h3
  have hO2 : OwnE pinE 3 85 w2 (w.heap.size + 2) pa pcap s.pins := by
    have h1 := HO2.out
    refine ⟨by simpa using h1.1, ?_⟩
    rcases h1.2 with h | ⟨g, cap, cur, h3, h4, h5⟩
    · exact Or.inl (by simpa using h)
    · exact Or.inr ⟨g, cap, cur, by simpa using h3, by simp at h4; omega, by simpa using h5⟩
  refine ⟨⟨la, s.list.length, lcap⟩, ⟨pa, s.pins.length, pcap⟩, rfl, ?_, ?_⟩
  · refine Lies.mono (P := fun b => w.heap.size + 2 ≤ b) (Lies.keep (w := w2) ⟨own_ints_sl hO1, own_val_sl hO2⟩ fun b hb _ => ?_) (fun b hb _ => by omega)
    iterate 14 refine set_far (by omega) ?_
    rfl
  · iterate 14 refine Ex.setCell ?_ _ none _ (Or.inr (by omega))
    exact HE2.out
end Go.Proofs.YtaihmldiglgipaaGreat

namespace Go.Proofs.YtaihmldiglgipaaGreat
open Go.Sort

variable {α : Type} [Inhabited α]

/-- A kind of elements of which none is less than another one. -/
def Kind (lt : α → α → Bool) (p : α → Bool) : Prop := ∀ x y, p x = true → p y = true → lt x y = false

end Go.Proofs.YtaihmldiglgipaaGreat
