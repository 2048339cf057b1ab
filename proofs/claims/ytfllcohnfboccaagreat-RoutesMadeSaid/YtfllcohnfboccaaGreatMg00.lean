/- Plain words on slices of ints in memory, for whatever program: what a slice reads as, which blocks a call may turn, an append of one number. No statement of the seat is proved here. | How values of a type are held in memory, as a word on lists: numbers, texts, structs, slices of these. For whatever program. No statement of the seat is proved here. | The row of int in the table of types: a fact, no statement of the seat. | Plain Lean functions on lists of ints: what the Go functions of the Quota laws compute. No program in sight. | made.Mod: contracts, no statement of the seat. | Dice: Roll, Next, Some, Keys: contracts, no statement of the seat. | Dice.One: a contract, no statement of the seat. | The library's bits.Len by the shelf's contract, laid in plain words. No statement of the seat. | cmp.Compare at int: a contract, no statement of the seat. | ref24.Has: contracts, no statement of the seat. | Join, Minus: contracts, no statement of the seat. | Heirs as data; ref35.heir, Follow: contracts, no statement of the seat. | The closures on heirs that the program's mourning hands to the library: contracts, no statement of the seat. | The library's insertion sort at heirs, by the shelf's contract: its laying in plain words, and the contract at heirs sorted by the lost key. No statement of the seat. | The insertion sort of the library keeps the order of equals: a plain law on the kit's own word 'Sort.insertionSort'. No program in sight. | Routes over tables, plain: each step determines the one before. No statement of the seat. -/
import Derived.WalkKit
import Derived.WalkSpells
import Derived.WalkLawsBesides
import Derived.Lib.Hide
import Derived.Deep.QuietTactic
import Derived.BigQuiet
import Derived.Deep.MidRow
import Derived.Laws.StructEq
import Derived.Test.YtfllcohnfboccaaGreatRows
import Derived.PlainAid
import Derived.Shelf.Small.Bits
import Derived.Sort.Grow
import Derived.Shelf.SlSortCmp.InsertionK
import Derived.Sort.LotA
namespace Go.Proofs.YtfllcohnfboccaaGreat
open Go.RowKit

/-- Below block B the world w' is as w was, but for block p. -/
structure Ex (B : Nat) (p : Option Nat) (w w' : World) : Prop where
  os : w'.os = w.os
  tape : w'.tape = w.tape
  output : w'.output = w.output
  size : w.heap.size ≤ w'.heap.size
  block : ∀ k, k < B → some k ≠ p → w'.heap[k]? = w.heap[k]?

theorem Ex.refl (B : Nat) (p : Option Nat) (w : World) : Ex B p w w := ⟨rfl, rfl, rfl, Nat.le_refl _, fun _ _ _ => rfl⟩
theorem Ex.trans {B B' : Nat} {p p' : Option Nat} {a b c : World} (h : Ex B p a b) (k : Ex B' p' b c) (hB : B ≤ B') (hp : ∀ q, p' = some q → q < B → p = some q) : Ex B p a c :=
  ⟨k.os.trans h.os, k.tape.trans h.tape, k.output.trans h.output, Nat.le_trans h.size k.size, fun i hi hne =>
    (k.block i (Nat.lt_of_lt_of_le hi hB) (fun e => hne (by rw [hp i e.symm hi]))).trans (h.block i hi hne)⟩
theorem Ex.weaken {B : Nat} {w w' : World} (h : Ex B none w w') (p : Option Nat) : Ex B p w w' := ⟨h.os, h.tape, h.output, h.size, fun i hi _ => h.block i hi (by simp)⟩
theorem Ex.mono {B B' : Nat} {p : Option Nat} {w w' : World} (h : Ex B p w w') (hB : B' ≤ B) : Ex B' p w w' := ⟨h.os, h.tape, h.output, h.size, fun i hi => h.block i (Nat.lt_of_lt_of_le hi hB)⟩
theorem Ex.below {B : Nat} {w w' : World} (h : Ex B none w w') : Below B w w' := ⟨h.os, h.tape, h.output, h.size, fun i hi => h.block i hi (by simp)⟩
theorem Ex.of_below {B : Nat} {w w' : World} (h : Below B w w') : Ex B none w w' := ⟨h.os, h.tape, h.output, h.size, fun i hi _ => h.block i hi⟩
/-- What turns above B alone is not seen below B. -/
theorem Ex.above {B q : Nat} {w w' : World} (h : Ex B (some q) w w') (hq : B ≤ q) : Ex B none w w' := ⟨h.os, h.tape, h.output, h.size, fun i hi _ => h.block i hi (by simp; omega)⟩
theorem Ex.grown {B : Nat} {p row : Option Nat} {a w w' : World} (h : Ex B p a w) (hg : w.grownBy w' row) (hB : B ≤ w.heap.size) (hr : ∀ k, row = some k → B ≤ k) : Ex B p a w' :=
  ⟨hg.os.trans h.os, hg.tape.trans h.tape, hg.output.trans h.output, Nat.le_trans h.size hg.size, fun k hk hne => (hg.block k (by omega) (fun e => by have := hr k e.symm; omega)).trans (h.block k hk hne)⟩
theorem Ex.alloc {B : Nat} {p : Option Nat} {a w : World} (h : Ex B p a w) (hB : B ≤ w.heap.size) (o : Obj) : Ex B p a (w.alloc o) := h.grown (World.grownBy_alloc w o none) hB (by simp)
theorem Ex.new (w : World) (o : Obj) : Ex w.heap.size none w (w.alloc o) := (Ex.refl _ _ _).alloc (Nat.le_refl _) o
theorem Ex.drew {B : Nat} {p : Option Nat} {a w : World} (h : Ex B p a w) : Ex B p a w.drew := ⟨h.os, h.tape, h.output, h.size, h.block⟩
theorem Ex.drewN {B n : Nat} {p : Option Nat} {a w : World} (h : Ex B p a w) : Ex B p a (w.drewN n) := ⟨h.os, h.tape, h.output, h.size, h.block⟩
theorem Ex.setCell {B q : Nat} {p : Option Nat} {a w : World} (h : Ex B p a w) (o : Nat) (s : Option Nat) (u : Value) (hq : p = some q ∨ B ≤ q) : Ex B p a (w.setCell ⟨q, o, s⟩ u) :=
  ⟨h.os, h.tape, h.output, by simpa [World.setCell] using h.size, fun k hk hne => (Below.heap_setCell _ _ _ _ (by
    show k ≠ q
    rcases hq with hq | hq
    · intro e; exact hne (by rw [hq, e])
    · omega)).trans (h.block k hk hne)⟩

/-- A row that is owned stays so where its block is not turned. -/
theorem own_keep {w w' : World} {base e size n B : Nat} {p : Option Nat} {v : Value} {xs : List Value} (h : w.ownsRow base e size v n xs) (hx : Ex B p w w') (hB : w.heap.size ≤ B) (hp : ∀ q, p = some q → q < base) : w'.ownsRow base e size v n xs := by
  obtain ⟨h1, h2⟩ := h
  refine ⟨h1, ?_⟩
  rcases h2 with h2 | ⟨g, cap, cur, hv, hg, hh, r⟩
  · exact Or.inl h2
  · refine Or.inr ⟨g, cap, cur, hv, hg, ?_, r⟩
    have hlt := (Array.getElem?_eq_some_iff.1 hh).1
    rw [hx.block g (by omega) (fun e => by have := hp g e.symm; omega)]
    exact hh

/-- The slice at 'ao' with 'xs.length' elements reads as the list of ints xs. -/
def IntsAt (w : World) (ao : Option Addr) (xs : List Int) : Prop :=
  ∀ j, j < xs.length → ∃ b off, ao = some ⟨b, off, none⟩ ∧ ∀ i, i < xs.length → w.cell? ⟨b, off + i, none⟩ = some (.int .i64 (xs.getD i 0))

/-- Block q is not where the slice at 'ao' lies. -/
def Away (q : Nat) (ao : Option Addr) : Prop := ∀ a, ao = some a → a.block ≠ q

theorem IntsAt.keep {w w' : World} {ao : Option Addr} {xs : List Int} {B : Nat} {p : Option Nat} (h : IntsAt w ao xs) (hb : Ex B p w w') (hB : w.heap.size ≤ B) (hp : ∀ q, p = some q → xs ≠ [] → Away q ao) : IntsAt w' ao xs := by
  intro j hj
  obtain ⟨b, off, e, hc⟩ := h j hj
  refine ⟨b, off, e, fun i hi => ?_⟩
  have h1 := hc i hi
  have h2 : b < w.heap.size := World.block_lt_of_cell? w _ h1
  exact (World.cell?_of_block (w := w) (hb.block b (by omega) (fun e' => hp b e'.symm (by intro h; simp [h] at hj) _ e rfl))).trans h1

theorem IntsAt.get {w : World} {ao : Option Addr} {xs : List Int} (h : IntsAt w ao xs) (k : Nat) (hk : k < xs.length) : ∃ b off y, ao = some ⟨b, off, none⟩ ∧ w.cell? ⟨b, off + k, none⟩ = some (.int .i64 y) ∧ Hid (xs.getD k 0 = y) := by
  obtain ⟨b, off, e, hc⟩ := h k hk
  exact ⟨b, off, _, e, hc k hk, rfl⟩

theorem IntsAt.lt {w : World} {ao : Option Addr} {xs : List Int} (h : IntsAt w ao xs) (hne : xs ≠ []) : ∀ a, ao = some a → a.block < w.heap.size := by
  intro a ha
  obtain ⟨b, off, e, hc⟩ := h 0 (List.length_pos_iff.2 hne)
  rw [e] at ha; cases ha
  exact World.block_lt_of_cell? w _ (hc 0 (List.length_pos_iff.2 hne))

theorem IntsAt.nil (w : World) (ao : Option Addr) : IntsAt w ao [] := fun j hj => by cases hj

/-- The slice value v reads as xs. -/
def Ints (w : World) (v : Value) (xs : List Int) : Prop := ∃ ao cap, v = .slice ao xs.length cap ∧ IntsAt w ao xs
theorem Ints.keep {w w' : World} {v : Value} {xs : List Int} {B : Nat} (h : Ints w v xs) (hx : Ex B none w w') (hB : w.heap.size ≤ B) : Ints w' v xs := by
  obtain ⟨ao, cap, e, h⟩ := h
  exact ⟨ao, cap, e, h.keep hx hB (by simp)⟩
theorem Ints.nil (w : World) : Ints w (.slice none 0 0) [] := ⟨none, 0, rfl, IntsAt.nil _ _⟩
theorem IntsAt.lit (w : World) (xs : List Int) : IntsAt (w.alloc (.cells (xs.map (Value.int .i64)).toArray 3)) (some ⟨w.heap.size, 0, none⟩) xs := by
  intro j hj
  refine ⟨_, _, rfl, fun i hi => ?_⟩
  rw [cell_of_row _ _ _ _ _ _ (heap_alloc_new w _)]
  simp [List.getD, hi]
theorem Ints.lit {w : World} (xs : List Int) {n g : Nat} (hg : g = w.heap.size) (hn : n = xs.length) : Ints (w.alloc (.cells (xs.map (Value.int .i64)).toArray 3)) (.slice (some ⟨g, 0, none⟩) n n) xs := by
  subst hn hg; exact ⟨_, _, rfl, IntsAt.lit w xs⟩

/-- The slice at 'ao' owns the ints xs, in a block from 'base' on. -/
def OwnI (w : World) (base : Nat) (ao : Option Addr) (cap : Nat) (xs : List Int) : Prop := w.ownsRow base 3 1 (.slice ao xs.length cap) xs.length (xs.map (Value.int .i64))

theorem OwnI.nil (w : World) (base : Nat) : OwnI w base none 0 [] := World.ownsRow_nil w base _ 1
theorem OwnI.keep {w w' : World} {base B : Nat} {p : Option Nat} {ao : Option Addr} {cap : Nat} {xs : List Int} (h : OwnI w base ao cap xs) (hx : Ex B p w w') (hB : w.heap.size ≤ B) (hp : ∀ q, p = some q → q < base) : OwnI w' base ao cap xs := own_keep h hx hB hp
theorem OwnI.lt {w : World} {base : Nat} {ao : Option Addr} {cap : Nat} {xs : List Int} (h : OwnI w base ao cap xs) : ∀ a, ao = some a → base ≤ a.block ∧ a.block < w.heap.size := by
  intro a e; subst e; exact World.ownsRow.lt h _ rfl
theorem OwnI.away {w : World} {base : Nat} {ao : Option Addr} {cap : Nat} {xs : List Int} (h : OwnI w base ao cap xs) {q : Nat} (hq : q < base) : Away q ao := fun a e => by have := h.lt a e; omega
theorem OwnI.ints {w : World} {base : Nat} {ao : Option Addr} {cap : Nat} {xs : List Int} (h : OwnI w base ao cap xs) : IntsAt w ao xs := by
  intro j hj
  rcases h.2 with ⟨_, h0⟩ | ⟨g, cap', cur, hv, _⟩
  · omega
  · simp only [Value.slice.injEq] at hv
    obtain ⟨rfl, _, rfl⟩ := hv
    refine ⟨g, 0, rfl, fun i hi => ?_⟩
    have := World.ownsRow.cells h (g := g) rfl i (.int .i64 (xs.getD i 0)) (by simp [List.getD, hi])
    simpa [Addr.add_lit] using this

theorem OwnI.v {w : World} {base : Nat} {ao : Option Addr} {cap : Nat} {xs : List Int} (h : OwnI w base ao cap xs) : Ints w (.slice ao xs.length cap) xs := ⟨_, _, rfl, h.ints⟩
/-- A contract whose answer is known. -/
theorem asB {P : Program} {f : FuncId} {args : Array Value} {w : World} {a b : Bool} {R : World → Prop} (h : Calls P f args w fun e w' => e = .returned (.bool a) ∧ R w') (hab : a = b) : Calls P f args w fun e w' => e = .returned (.bool b) ∧ R w' := by
  subst hab; exact h

/-- What the shell of a law's proof says of a slice of ints that came in, in the words of this text. -/
theorem ints_of_row {w : World} {a : Option Addr} {len cap : Nat} {zs : List Int} (h : (a = none ∧ len = 0 ∧ cap = 0 ∧ zs = []) ∨
    ∃ x, a = some x ∧ len ≤ cap ∧ cap ≤ maxLen ∧ zs.length = cap ∧ (∀ i, i < zs.length → w.cell? (x.add i) = some (.int .i64 (zs.getD i 0))) ∧ ∀ n ∈ zs, (Lit.int .i64 n).wf = true) :
    Ints w (.slice a len cap) (zs.take len) ∧ (zs.take len).length ≤ 9223372036854775807 ∧ ∀ n ∈ zs.take len, (Lit.int .i64 n).wf = true := by
  rcases h with ⟨rfl, rfl, rfl, rfl⟩ | ⟨x, rfl, h1, h2, h3, h4, h5⟩
  · exact ⟨Ints.nil w, by simp, by simp⟩
  · have hl : (zs.take len).length = len := by simp; omega
    unfold maxLen at h2
    refine ⟨⟨some x, cap, by rw [hl], fun j hj => ?_⟩, by omega, fun n hn => h5 n (List.mem_of_mem_take hn)⟩
    obtain ⟨b, off, spot⟩ := x
    have h0 := h4 0 (by omega)
    have hs : spot = none := by simpa [Addr.add] using World.cell?_spot h0
    subst hs
    refine ⟨b, off, rfl, fun i hi => ?_⟩
    have := h4 i (by omega)
    rw [Addr.add_lit] at this
    rw [this]
    simp only [List.getD, List.getElem?_take]
    rw [if_pos (by omega)]

theorem OwnI.cap {w : World} {base : Nat} {ao : Option Addr} {cap : Nat} {xs : List Int} (h : OwnI w base ao cap xs) : xs.length ≤ cap := by
  rcases h.2 with ⟨hv, h0⟩ | ⟨g, cap', cur, hv, _, _, hn, _⟩
  · omega
  · simp only [Value.slice.injEq] at hv
    obtain ⟨_, _, rfl⟩ := hv
    exact hn
theorem IntsAt.take {w : World} {ao : Option Addr} {xs : List Int} (h : IntsAt w ao xs) (k : Nat) : IntsAt w ao (xs.take k) := by
  intro j hj
  have hj' : j < xs.length := by simp at hj; omega
  obtain ⟨b, off, e, hc⟩ := h j hj'
  refine ⟨b, off, e, fun i hi => ?_⟩
  have hi' : i < xs.length ∧ i < k := by simp at hi; omega
  rw [hc i hi'.1]
  simp [List.getD, hi'.2]

/-- The slice value v reads as xs, and does not lie in block p. -/
def IntsO (p : Nat) (w : World) (v : Value) (xs : List Int) : Prop := ∃ ao cap, v = .slice ao xs.length cap ∧ IntsAt w ao xs ∧ (xs ≠ [] → Away p ao)
theorem IntsO.v {p : Nat} {w : World} {v : Value} {xs : List Int} (h : IntsO p w v xs) : Ints w v xs := by
  obtain ⟨ao, cap, e, h, _⟩ := h
  exact ⟨ao, cap, e, h⟩
theorem IntsO.keep {p : Nat} {q : Option Nat} {w w' : World} {v : Value} {xs : List Int} {B : Nat} (h : IntsO p w v xs) (hx : Ex B q w w') (hB : w.heap.size ≤ B) (hq : q = none ∨ q = some p) : IntsO p w' v xs := by
  obtain ⟨ao, cap, e, h, ha⟩ := h
  exact ⟨ao, cap, e, h.keep hx hB (fun x e' hne => by
    rcases hq with hq | hq
    · rw [hq] at e'; cases e'
    · rw [hq] at e'; cases e'; exact ha hne), ha⟩
theorem Ints.at' {w : World} {ao : Option Addr} {n cap : Nat} {xs : List Int} (h : Ints w (.slice ao n cap) xs) : IntsAt w ao xs := by
  obtain ⟨ao', cap', e, h⟩ := h
  cases e; exact h
/-- What lay there before block p was made does not lie in it. -/
theorem Ints.o {p : Nat} {w : World} {v : Value} {xs : List Int} (h : Ints w v xs) (hp : w.heap.size ≤ p) : IntsO p w v xs := by
  obtain ⟨ao, cap, e, h⟩ := h
  exact ⟨ao, cap, e, h, fun hne a ha => by have := h.lt hne a ha; omega⟩
theorem OwnI.o {p : Nat} {w : World} {base : Nat} {ao : Option Addr} {cap : Nat} {xs : List Int} (h : OwnI w base ao cap xs) (hp : p < base) : IntsO p w (.slice ao xs.length cap) xs := ⟨_, _, rfl, h.ints, fun _ => h.away hp⟩

theorem own_shape {w : World} {base e size n : Nat} {v : Value} {xs : List Value} (h : w.ownsRow base e size v n xs) : ∃ ao cap, v = .slice ao n cap := by
  rcases h.2 with ⟨rfl, rfl⟩ | ⟨g, cap, _, rfl, _⟩
  · exact ⟨none, 0, rfl⟩
  · exact ⟨_, cap, rfl⟩

/-- 'append(out, x)', out a slice of ints of the call's own: w0 is a world in which out is owned, w the one behind the block of x. -/
theorem wpList_appI {P : Program} {w0 w : World} {ops : Array Oper} {rest : List Oper} {o : Oper} {a : Act} {Q : Exit → Act → World → Prop} (hgd : o.guard = none) (s x : Operand) (t : TypeId)
    (ho : o.op = .call { callee := .builtin .append, args := #[s, x], argTypes := #[t, t] })
    (ht : P.underlying t = some (.slice 3)) (hinfo : (P.info? 3).map (fun i => (i.zero, i.size, i.bytes)) = some (some (.int .i64 0), 1, 8))
    (base : Nat) (ao : Option Addr) (cap : Nat) (xs : List Int) (g : Nat) (y : Int) (hs : a.eval s = .slice ao xs.length cap) (hx : a.eval x = .slice (some ⟨g, 0, none⟩) 1 1)
    (hown : OwnI w0 base ao cap xs) (hw : Ex w0.heap.size none w0 w) (hcell : w.cell? ⟨g, 0, none⟩ = some (.int .i64 y)) (hlen : xs.length ≤ 1000000000000) (hbase : base ≤ w0.heap.size)
    (h : ∀ ao' cap' w', OwnI w' base ao' cap' (xs ++ [y]) → Ex base none w0 w' → wpList P ops Q rest (a.put o.dst (.slice ao' (xs.length + 1) cap')) w') : wpList P ops Q (o :: rest) a w := by
  obtain ⟨i0, hi, hz0, hz1, hz2⟩ := info_parts hinfo
  have hown' : OwnI w base ao cap xs := hown.keep hw (Nat.le_refl _) (by simp)
  have hsz := hw.size
  refine wpList_append_own _ hgd s x t ho base 3 i0 (.int .i64 0) 1 8 ht hi hz0 hz1 hz2 rfl (by decide) _ _ _ hs hown' ⟨g, 0, none⟩ 1 1 [.int .i64 y] hx rfl ?_ ?_ (by simp only [maxLen]; omega) (by omega) (by omega) ?_
  · intro j u hj
    match j, hj with
    | 0, hj => simp at hj; subst hj; simpa [Addr.add] using hcell
  · intro u hu; simp at hu; subst hu; rfl
  · intro v' w' ho' hg _
    obtain ⟨ao', cap', rfl⟩ := own_shape ho'
    refine h ao' cap' w' ?_ ((hw.mono hbase).grown hg (by omega) ?_)
    · simpa [OwnI] using ho'
    · intro k hk
      have := World.ownsRow.lt hown' k hk
      exact this.1

theorem run_append_none {P : Program} {w : World} (base : Nat) (t ty e : TypeId) (i : TypeInfo) (size : Nat) (ht : P.underlying t = some (.slice e)) (hi : P.info? e = some i)
    (v : Value) (n c : Nat) (xs : List Value) (hown : w.ownsRow base e size v n xs) :
    (Builtin.append_ #[t, t] ty #[v, .slice none 0 c]).run P w = .ok v w := by
  rcases hown.2 with ⟨rfl, rfl⟩ | ⟨g, cap, cur, rfl, _, _, hnc, _⟩
  · simp [Builtin.append_, run_underlying ht, sizeOf, typeInfo, hi, Builtin.lenOf, Builtin.firstCells]
  · simp [Builtin.append_, run_underlying ht, sizeOf, typeInfo, hi, Builtin.lenOf, Builtin.firstCells, hnc, storeCells]

/-- 'append(out, src...)', out a slice of ints of the call's own, src a slice that reads as ys. -/
theorem wpList_appIs {P : Program} {w0 w : World} {ops : Array Oper} {rest : List Oper} {o : Oper} {a : Act} {Q : Exit → Act → World → Prop} (hgd : o.guard = none) (s x : Operand) (t : TypeId)
    (ho : o.op = .call { callee := .builtin .append, args := #[s, x], argTypes := #[t, t] })
    (ht : P.underlying t = some (.slice 3)) (hinfo : (P.info? 3).map (fun i => (i.zero, i.size, i.bytes)) = some (some (.int .i64 0), 1, 8))
    (base : Nat) (ao : Option Addr) (cap : Nat) (xs ys : List Int) (v u : Value) (n : Nat) (hn : n = xs.length) (hv : v = .slice ao n cap) (hs : a.eval s = v) (hx : a.eval x = u) (hu : Ints w u ys)
    (hown : OwnI w0 base ao cap xs) (hw : Ex w0.heap.size none w0 w) (hlen : xs.length + ys.length ≤ 1000000000000) (hbase : base ≤ w0.heap.size)
    (h : ∀ ao' cap' w', OwnI w' base ao' cap' (xs ++ ys) → Ex base none w0 w' → wpList P ops Q rest (a.put o.dst (.slice ao' (xs.length + ys.length) cap')) w') : wpList P ops Q (o :: rest) a w := by
  subst hn
  obtain ⟨i0, hi, hz0, hz1, hz2⟩ := info_parts hinfo
  have hown' : OwnI w base ao cap xs := hown.keep hw (Nat.le_refl _) (by simp)
  have hsz := hw.size
  subst hv
  obtain ⟨so, sc, rfl, hr⟩ := hu
  cases so with
  | none =>
    have hy : ys = [] := by
      cases ys with
      | nil => rfl
      | cons y r => obtain ⟨b, off, e, _⟩ := hr 0 (by simp); cases e
    subst hy
    refine wpList_plain hgd fun K hK => ?_
    have hrun := run_append_none (P := P) (w := w) base t o.type 3 i0 1 ht hi _ _ sc _ hown'
    unfold Oper.wp
    simp only [List.length_nil] at hx
    simp [execOp, ho, resolve, invoke, builtin, hs, hx, hrun, Result.andThen]
    exact hK _ _ (by simpa using h ao cap w (by simpa using hown') (hw.mono hbase))
  | some ad =>
    refine wpList_append_own _ hgd s x t ho base 3 i0 (.int .i64 0) 1 8 ht hi hz0 hz1 hz2 rfl (by decide) _ _ _ hs hown' ad ys.length sc (ys.map (Value.int .i64)) hx (by simp) ?_ (ints_oneCell _ _) (by simp only [maxLen]; omega) (by omega) (by omega) ?_
    · intro j u hj
      have hjl : j < ys.length := by
        have := (List.getElem?_eq_some_iff.1 hj).1
        simpa using this
      obtain ⟨b, off, e, hc⟩ := hr j hjl
      cases e
      rw [Addr.add_lit, hc j hjl]
      rw [← hj]; simp [List.getD, hjl]
    · intro v' w' ho' hg _
      obtain ⟨ao', cap', rfl⟩ := own_shape ho'
      refine h ao' cap' w' ?_ ((hw.mono hbase).grown hg (by omega) ?_)
      · simpa [OwnI] using ho'
      · intro k hk
        exact (World.ownsRow.lt hown' k hk).1

theorem OwnI.empty {base : Nat} (w : World) (hb : base ≤ w.heap.size) : OwnI (w.alloc (.cells #[] 3)) base (some ⟨w.heap.size, 0, none⟩) 0 [] := World.ownsRow_lit w #[] 0 hb (by decide) rfl

theorem take_succ_getD (xs : List Int) (k : Nat) (h : k < xs.length) : xs.take (k + 1) = xs.take k ++ [xs.getD k 0] := by
  rw [List.take_add_one, List.getElem?_eq_getElem h]; simp [List.getD, h]

theorem drewN_add (w : World) (n m : Nat) : (w.drewN n).drewN m = w.drewN (n + m) := by simp [World.drewN, Nat.add_assoc]

theorem ret_int {k : IntKind} {a b : Int} (h : a = b) : Ending.returned (.int k a) = .returned (.int k b) := by rw [h]
theorem ret_bool {a b : Bool} (h : a = b) : Ending.returned (.bool a) = .returned (.bool b) := by rw [h]
end Go.Proofs.YtfllcohnfboccaaGreat

namespace Go.Proofs.YtfllcohnfboccaaGreat
open Go.RowKit

/-- How values are held: k cells each; R P w cs x: in the world w the cells cs hold x, and all blocks that they lead to satisfy P. -/
structure Rep (α : Type) where
  k : Nat
  R : (Nat → Prop) → World → List Value → α → Prop
  len : ∀ {P w cs x}, R P w cs x → cs.length = k
  one : ∀ {P w cs x}, R P w cs x → ∀ v ∈ cs, v.oneCell' = true
  keep : ∀ {P w w' cs x}, R P w cs x → (∀ b, P b → b < w.heap.size → w'.heap[b]? = w.heap[b]?) → R P w' cs x
  mono : ∀ {P P' w cs x}, R P w cs x → (∀ b, P b → b < w.heap.size → P' b) → R P' w cs x

def intRep : Rep Int where
  k := 1
  R := fun _ _ cs n => cs = [.int .i64 n]
  len := fun h => by subst h; rfl
  one := fun h => by subst h; intro v hv; simp at hv; subst hv; rfl
  keep := fun h _ => h
  mono := fun h _ => h

def strRep : Rep ByteArray where
  k := 1
  R := fun _ _ cs s => cs = [.string s]
  len := fun h => by subst h; rfl
  one := fun h => by subst h; intro v hv; simp at hv; subst hv; rfl
  keep := fun h _ => h
  mono := fun h _ => h

section
variable {α : Type} (r : Rep α)

/-- The slice at 'ao' with 'xs.length' elements reads as xs. -/
def SlAt (P : Nat → Prop) (w : World) (ao : Option Addr) (xs : List α) : Prop :=
  ∀ i (h : i < xs.length), ∃ b off cs, ao = some ⟨b, off, none⟩ ∧ P b ∧ w.rangeAt b (off + i * r.k) cs ∧ r.R P w cs xs[i]
def Sl (P : Nat → Prop) (w : World) (v : Value) (xs : List α) : Prop := ∃ ao cap, v = .slice ao xs.length cap ∧ SlAt r P w ao xs

variable {r}
theorem rangeAt_lt {w : World} {b o : Nat} {cs : List Value} (h : w.rangeAt b o cs) (hc : 0 < cs.length) : b < w.heap.size :=
  World.block_lt_of_cell? w ⟨b, o + 0, none⟩ (h 0 cs[0] (by simp [hc]))
theorem rangeAt_keep {w w' : World} {b o : Nat} {cs : List Value} (h : w.rangeAt b o cs) (hb : w'.heap[b]? = w.heap[b]?) : w'.rangeAt b o cs := fun j v hv =>
  (World.cell?_of_block (w := w) (a := ⟨b, o + j, none⟩) hb).trans (h j v hv)
theorem SlAt.keep {P : Nat → Prop} {w w' : World} {ao : Option Addr} {xs : List α} (h : SlAt r P w ao xs) (hk : 0 < r.k) (hx : ∀ b, P b → b < w.heap.size → w'.heap[b]? = w.heap[b]?) : SlAt r P w' ao xs := by
  intro i hi
  obtain ⟨b, off, cs, e, hp, hr, hR⟩ := h i hi
  exact ⟨b, off, cs, e, hp, rangeAt_keep hr (hx b hp (rangeAt_lt hr (by rw [r.len hR]; exact hk))), r.keep hR hx⟩
theorem SlAt.mono {P P' : Nat → Prop} {w : World} {ao : Option Addr} {xs : List α} (h : SlAt r P w ao xs) (hk : 0 < r.k) (hx : ∀ b, P b → b < w.heap.size → P' b) : SlAt r P' w ao xs := by
  intro i hi
  obtain ⟨b, off, cs, e, hp, hr, hR⟩ := h i hi
  exact ⟨b, off, cs, e, hx b hp (rangeAt_lt hr (by rw [r.len hR]; exact hk)), hr, r.mono hR hx⟩
theorem SlAt.nil (P : Nat → Prop) (w : World) (ao : Option Addr) : SlAt r P w ao [] := fun i hi => by cases hi
theorem SlAt.get {P : Nat → Prop} {w : World} {ao : Option Addr} {xs : List α} (h : SlAt r P w ao xs) (i : Nat) (hi : i < xs.length) : ∃ b off cs x, ao = some ⟨b, off, none⟩ ∧ P b ∧ w.rangeAt b (off + i * r.k) cs ∧ r.R P w cs x ∧ Hid (xs[i]? = some x) := by
  obtain ⟨b, off, cs, e, hp, hr, hR⟩ := h i hi
  exact ⟨b, off, cs, xs[i], e, hp, hr, hR, by show _ = _; simp [hi]⟩
theorem Sl.at' {P : Nat → Prop} {w : World} {ao : Option Addr} {n cap : Nat} {xs : List α} (h : Sl r P w (.slice ao n cap) xs) : SlAt r P w ao xs := by
  obtain ⟨ao', cap', e, h⟩ := h
  cases e; exact h
theorem Sl.keep {P : Nat → Prop} {w w' : World} {v : Value} {xs : List α} (h : Sl r P w v xs) (hk : 0 < r.k) (hx : ∀ b, P b → b < w.heap.size → w'.heap[b]? = w.heap[b]?) : Sl r P w' v xs := by
  obtain ⟨ao, cap, e, h⟩ := h
  exact ⟨ao, cap, e, h.keep hk hx⟩
theorem Sl.mono {P P' : Nat → Prop} {w : World} {v : Value} {xs : List α} (h : Sl r P w v xs) (hk : 0 < r.k) (hx : ∀ b, P b → b < w.heap.size → P' b) : Sl r P' w v xs := by
  obtain ⟨ao, cap, e, h⟩ := h
  exact ⟨ao, cap, e, h.mono hk hx⟩
theorem Sl.nil (P : Nat → Prop) (w : World) : Sl r P w (.slice none 0 0) ([] : List α) := ⟨none, 0, rfl, SlAt.nil _ _ _⟩
theorem SlAt.take {P : Nat → Prop} {w : World} {ao : Option Addr} {xs : List α} (h : SlAt r P w ao xs) (n : Nat) : SlAt r P w ao (xs.take n) := by
  intro i hi
  have hi' : i < xs.length := by simp at hi; omega
  obtain ⟨b, off, cs, e, hp, hr, hR⟩ := h i hi'
  exact ⟨b, off, cs, e, hp, hr, by simpa using hR⟩
theorem SlAt.drop {P : Nat → Prop} {w : World} {b off : Nat} {xs : List α} (h : SlAt r P w (some ⟨b, off, none⟩) xs) (n : Nat) : SlAt r P w (some ⟨b, off + n * r.k, none⟩) (xs.drop n) := by
  intro i hi
  have hi' : n + i < xs.length := by simp at hi; omega
  obtain ⟨b', off', cs, e, hp, hr, hR⟩ := h (n + i) hi'
  cases e
  exact ⟨b, _, cs, rfl, hp, by rw [show off + n * r.k + i * r.k = off + (n + i) * r.k by rw [Nat.add_mul]; omega]; exact hr, by simpa using hR⟩

/-- A slice as a value that is held in a cell. -/
def slRep (r : Rep α) (hk : 0 < r.k) : Rep (List α) where
  k := 1
  R := fun P w cs xs => ∃ v, cs = [v] ∧ Sl r P w v xs
  len := fun ⟨v, h, _⟩ => by subst h; rfl
  one := fun ⟨v, h, hs⟩ => by
    subst h; intro u hu; simp at hu; subst hu
    obtain ⟨ao, cap, e, _⟩ := hs
    subst e; rfl
  keep := fun ⟨v, h, hs⟩ hx => ⟨v, h, hs.keep hk hx⟩
  mono := fun ⟨v, h, hs⟩ hx => ⟨v, h, hs.mono hk hx⟩
end
end Go.Proofs.YtfllcohnfboccaaGreat

namespace Go.Proofs.YtfllcohnfboccaaGreat
open Go.RowKit

theorem Tryz.infoInt : (Tryz.prog.info? 3).map (fun i => (i.zero, i.size, i.bytes)) = some (some (.int .i64 0), 1, 8) := by kernel_rfl
end Go.Proofs.YtfllcohnfboccaaGreat

namespace Go.Proofs.YtfllcohnfboccaaGreat

def hasI (xs : List Int) (x : Int) : Bool := xs.contains x
theorem hasI_nil (x : Int) : hasI [] x = false := rfl
theorem hasI_iff {xs : List Int} {x : Int} : hasI xs x = true ↔ x ∈ xs := by simp [hasI]
theorem hasI_not {xs : List Int} {x : Int} : hasI xs x = false ↔ x ∉ xs := by simp [hasI]
theorem hasI_snoc (xs : List Int) (y x : Int) : hasI (xs ++ [y]) x = (hasI xs x || y == x) := by
  unfold hasI; rw [Bool.eq_iff_iff]; simp [List.mem_append, Bool.or_eq_true, @eq_comm _ x y]
theorem hasI_take_none {xs : List Int} {x : Int} (h : hasI (xs.take xs.length) x = false) : hasI xs x = false := by simpa using h
theorem hasI_get {xs : List Int} {x : Int} {k : Nat} (hk : k < xs.length) (h : xs.getD k 0 = x) : hasI xs x = true := by
  rw [hasI_iff]; subst h; simp [List.getD, hk]
theorem take_snoc (xs : List Int) (k : Nat) (h : k < xs.length) : xs.take (k + 1) = xs.take k ++ [xs.getD k 0] := by
  rw [List.take_add_one, List.getElem?_eq_getElem h]; simp [List.getD, h]
theorem hasI_take_succ {xs : List Int} {x : Int} {k : Nat} (hk : k < xs.length) (h : hasI (xs.take k) x = false) (hne : xs.getD k 0 ≠ x) : hasI (xs.take (k + 1)) x = false := by
  rw [take_snoc xs k hk, hasI_snoc, h]; simpa using hne

/-- 0 .. n-1 for which c holds. -/
def keysTo (c : Int → Bool) : Nat → List Int
  | 0 => []
  | k + 1 => keysTo c k ++ (if c k then [(k : Int)] else [])
theorem keysTo_le (c : Int → Bool) (k : Nat) : (keysTo c k).length ≤ k := by
  induction k with
  | zero => simp [keysTo]
  | succ k ih => simp only [keysTo, List.length_append]; split <;> simp <;> omega
theorem mem_keysTo {c : Int → Bool} {n : Nat} {x : Int} : x ∈ keysTo c n ↔ 0 ≤ x ∧ x < n ∧ c x = true := by
  induction n with
  | zero => simp [keysTo]; omega
  | succ k ih =>
    simp only [keysTo, List.mem_append, ih]
    constructor
    · rintro (⟨a, b, d⟩ | h)
      · exact ⟨a, by omega, d⟩
      · split at h
        · simp at h; subst h; refine ⟨by omega, by omega, ?_⟩; assumption
        · simp at h
    · rintro ⟨a, b, d⟩
      by_cases e : x < k
      · exact Or.inl ⟨a, e, d⟩
      · have : x = k := by omega
        subst this; right; simp [d]
def joinI (a b : List Int) : List Int := keysTo (fun k => hasI a k || hasI b k) 64
def minusI (a b : List Int) : List Int := keysTo (fun k => hasI a k && !hasI b k) 64

/-- n modulo m, from 0 on. -/
def modI (n m : Int) : Int := if m < 1 then 0 else n % m
theorem modI_pos {n m : Int} (h : 1 ≤ m) : modI n m = n % m := by unfold modI; rw [if_neg (by omega)]
theorem modI_bd {n m : Int} (h : 1 ≤ m) : 0 ≤ modI n m ∧ modI n m < m := by
  rw [modI_pos h]; exact ⟨Int.emod_nonneg _ (by omega), Int.emod_lt_of_pos _ (by omega)⟩

/-- Dice: the numbers that are left. -/
def dVal (d : List Int) (n : Int) : Int := match d with | [] => 0 | x :: _ => modI x n
theorem dVal_bd {d : List Int} {n : Int} (h : 1 ≤ n) : 0 ≤ dVal d n ∧ dVal d n < n := by
  cases d with
  | nil => simp [dVal]; omega
  | cons x r => exact modI_bd h
def someTo (d : List Int) : Nat → List Int × List Int
  | 0 => ([], d)
  | k + 1 => ((someTo d k).1 ++ (if dVal (someTo d k).2 3 = 0 then [(k : Int)] else []), (someTo d k).2.tail)
theorem someTo_le (d : List Int) (k : Nat) : (someTo d k).1.length ≤ k := by
  induction k with
  | zero => simp [someTo]
  | succ k ih => simp only [someTo, List.length_append]; split <;> simp <;> omega
/-- Some keys below n, at least one: the keys, and what is left of the dice. -/
def keysD (d : List Int) (n : Int) : List Int × List Int :=
  if (someTo d n.toNat).1 = [] then ([dVal (someTo d n.toNat).2 n], (someTo d n.toNat).2.tail) else someTo d n.toNat

/-- The first newcomers of an order. -/
def newcTo (xs old : List Int) (q : Int) : Nat → List Int
  | 0 => []
  | k + 1 => if ((newcTo xs old q k).length : Int) < q ∧ hasI old (xs.getD k 0) = false ∧ hasI (newcTo xs old q k) (xs.getD k 0) = false then newcTo xs old q k ++ [xs.getD k 0] else newcTo xs old q k
def newc (xs old : List Int) (q : Int) : List Int := newcTo xs old q xs.length
theorem newcTo_le (xs old : List Int) (q : Int) (k : Nat) : (newcTo xs old q k).length ≤ k := by
  induction k with
  | zero => simp [newcTo]
  | succ k ih =>
    rw [newcTo]; split
    · rw [List.length_append]; simp; omega
    · omega
/-- When there are enough, nobody comes any more. -/
theorem newcTo_full {xs old : List Int} {q : Int} {k : Nat} (h : q ≤ ((newcTo xs old q k).length : Int)) (j : Nat) (hj : k ≤ j) : newcTo xs old q j = newcTo xs old q k := by
  induction j with
  | zero => have : k = 0 := by omega
            subst this; rfl
  | succ j ih =>
    by_cases e : k = j + 1
    · subst e; rfl
    · have := ih (by omega)
      rw [newcTo, this, if_neg (by omega)]
def fitsI (old next : List Int) (q : Int) : Bool := decide (((newc next old next.length).length : Int) ≤ q)
def thereTo (g ks : List Int) : Nat → Nat
  | 0 => 0
  | k + 1 => thereTo g ks k + (if hasI g (ks.getD k 0) then 1 else 0)
theorem thereTo_le (g ks : List Int) (k : Nat) : thereTo g ks k ≤ k := by
  induction k with
  | zero => simp [thereTo]
  | succ k ih => simp only [thereTo]; split <;> omega
def mostI (g ks : List Int) (e q : Int) : Int := min (ks.length : Int) (thereTo g ks ks.length + e * q)
end Go.Proofs.YtfllcohnfboccaaGreat

namespace Go.Proofs.YtfllcohnfboccaaGreat
open Go.RowKit

theorem tmod_neg {n m : Int} (hm : 1 ≤ m) (h : n.tmod m < 0) : n.tmod m + m = modI n m := by
  rw [modI_pos hm, Int.tmod_eq_emod]
  rw [Int.tmod_eq_emod] at h
  split at h <;> rename_i h' <;> simp only [h', ↓reduceIte] at h ⊢
  · have := Int.emod_nonneg n (show m ≠ 0 by omega); omega
  · have : (m.natAbs : Int) = m := by omega
    omega
theorem tmod_pos {n m : Int} (hm : 1 ≤ m) (h : ¬ n.tmod m < 0) : n.tmod m = modI n m := by
  rw [modI_pos hm, Int.tmod_eq_emod]
  rw [Int.tmod_eq_emod] at h
  have := Int.emod_lt_of_pos n (show 0 < m by omega)
  split at h <;> rename_i h' <;> simp only [h', ↓reduceIte] at h ⊢
  · simp
  · have : (m.natAbs : Int) = m := by omega
    omega
theorem tmod_bd {n m : Int} (hm : 1 ≤ m) : -m ≤ n.tmod m ∧ n.tmod m < m := by
  by_cases h : n.tmod m < 0
  · have := tmod_neg hm h; have := modI_bd (n := n) hm; omega
  · have := tmod_pos hm h; have := modI_bd (n := n) hm; omega

set_option maxHeartbeats 400000 in
theorem mod_any (n m : Int) (w : World) (hm : m ≤ 4611686018427387904) :
    Calls Tryz.prog 49 #[.int .i64 n, .int .i64 m] w fun e w' => e = .returned (.int .i64 (modI n m)) ∧ w = w' := by
  by_cases h1 : m < 1
  · go_enter Tryz.func49, Tryz.ntmps49
    go_wp2
    go_ret
    exact ⟨ret_int (by unfold modI; rw [if_pos h1]), rfl⟩
  · obtain ⟨b1, b2⟩ := tmod_bd (n := n) (show 1 ≤ m by omega)
    by_cases h2 : n.tmod m < 0
    · have H := Lib.hid (tmod_neg (show 1 ≤ m by omega) h2)
      go_enter Tryz.func49, Tryz.ntmps49
      go_wp2
      go_ret
      exact ⟨ret_int H.out, rfl⟩
    · have H := Lib.hid (tmod_pos (show 1 ≤ m by omega) h2)
      go_enter Tryz.func49, Tryz.ntmps49
      go_wp2
      go_ret
      exact ⟨ret_int H.out, rfl⟩

end Go.Proofs.YtfllcohnfboccaaGreat

namespace Go.Proofs.YtfllcohnfboccaaGreat
open Go.RowKit

/-- Block p is a Dice whose numbers that are left are d; it and its list lie below block N. -/
def DiceAt (N : Nat) (w : World) (p : Nat) (d : List Int) : Prop :=
  ∃ (L : List Int) (at' : Nat) (ao : Option Addr) (cap : Nat), w.heap[p]? = some (.cells #[.slice ao L.length cap, .int .i64 at'] 94 (0, 0)) ∧ at' ≤ L.length ∧ d = L.drop at' ∧ L.length ≤ 1000000 ∧ IntsAt w ao L ∧ (L ≠ [] → ∀ a, ao = some a → a.block < N ∧ a.block ≠ p) ∧ p < N

theorem DiceAt.keep {N : Nat} {w w' : World} {p B : Nat} {d : List Int} (h : DiceAt N w p d) (hx : Ex B none w w') (hB : N ≤ B) : DiceAt N w' p d := by
  obtain ⟨L, at', ao, cap, h1, h2, h3, h4, h5, h6, h7⟩ := h
  refine ⟨L, at', ao, cap, ?_, h2, h3, h4, fun j hj => ?_, h6, h7⟩
  · rw [hx.block p (by omega) (by simp)]
    exact h1
  · obtain ⟨b, off, e, hc⟩ := h5 j hj
    refine ⟨b, off, e, fun i hi => ?_⟩
    have hbN : b < N := (h6 (by intro h; simp [h] at hj) _ e).1
    exact (World.cell?_of_block (w := w) (hx.block b (by omega) (by simp))).trans (hc i hi)
theorem DiceAt.lt {N : Nat} {w : World} {p : Nat} {d : List Int} (h : DiceAt N w p d) : p < N := by
  obtain ⟨L, at', ao, cap, _, _, _, _, _, _, h7⟩ := h
  exact h7

theorem cell_at {w : World} {b o : Nat} {cs : Array Value} {e : TypeId} {fr : Nat × Nat} {v : Value} (h : w.heap[b]? = some (.cells cs e fr)) (hv : cs[o]? = some v) : w.cell? ⟨b, o, none⟩ = some v := by
  simp [World.cell?, h, hv]
theorem free_at {w : World} {b o : Nat} {cs : Array Value} {e : TypeId} (h : w.heap[b]? = some (.cells cs e (0, 0))) : w.frozen? ⟨b, o, none⟩ = false := by
  simp [World.frozen?, h]
/-- A block of literals that the call has just laid owns them. -/
theorem own_lit {base : Nat} (w : World) (hb : base ≤ w.heap.size) (xs : List Int) (n : Nat) (hn : xs.length = n) (hm : n ≤ maxLen) (hx : 0 < n) : OwnI (w.alloc (.cells (xs.map (Value.int .i64)).toArray 3)) base (some ⟨w.heap.size, 0, none⟩) n xs := by
  subst hn
  refine ⟨by simp, .inr ⟨w.heap.size, xs.length, _, rfl, hb, heap_alloc_new w _, Nat.le_refl _, hm, by simp, ?_⟩⟩
  rw [List.take_of_length_le (by simp)]
theorem own_lit1 {base : Nat} (w : World) (hb : base ≤ w.heap.size) (x : Int) : OwnI (w.alloc (.cells #[.int .i64 x] 3)) base (some ⟨w.heap.size, 0, none⟩) 1 [x] := own_lit w hb [x] 1 rfl (by decide) (by decide)

theorem heap_setCell {w : World} {b o : Nat} {cs : Array Value} {e : TypeId} {fr : Nat × Nat} (h : w.heap[b]? = some (.cells cs e fr)) (v : Value) : (w.setCell ⟨b, o, none⟩ v).heap[b]? = some (.cells (cs.setIfInBounds o v) e fr) := by
  simp [World.setCell, Array.getElem?_modify, h]

set_option maxHeartbeats 400000 in
theorem next_any (N p : Nat) (d : List Int) (n : Int) (w : World) (hd : DiceAt N w p d) (hn : n ≤ 4611686018427387904) :
    Calls Tryz.prog 20 #[.pointer (some ⟨p, 0, none⟩), .int .i64 n] w fun e w' => e = .returned (.int .i64 (dVal d n)) ∧ DiceAt N w' p d.tail ∧ Ex w.heap.size (some p) w w' := by
  obtain ⟨L, k, ao, cap, hh, hk, hdl, hL, hx, haw, hpN⟩ := hd
  have c0 := cell_at (o := 0) hh rfl
  have c1 := cell_at (o := 1) hh rfl
  have f1 := free_at (o := 1) hh
  by_cases hlt : k < L.length
  · obtain ⟨b, off, y, rfl, hck, HY⟩ := hx.get k hlt
    have hbp : b ≠ p := (haw (by intro h; simp [h] at hlt) _ rfl).2
    have HA := Lib.hid haw
    have hdd : d = y :: L.drop (k + 1) := by
      rw [hdl, List.drop_eq_getElem_cons hlt, ← HY.out]; simp [List.getD, hlt]
    have HD := Lib.hid hdd
    have HH := Lib.hid hh
    have HX := Lib.hid hx
    clear hdd hdl hh hx haw
    have hbp2 : p ≠ b := fun h => hbp h.symm
    go_enter Tryz.func20, Tryz.ntmps20
    go_wp2
    go_quiet (fail)
    go_wp2
    go_quiet ((go_at_call 49; exact Calls.quiet_of_same ((mod_any _ _ _ hn).mono fun _ _ h => ⟨h.1, h.2.symm⟩)))
    go_wp2
    go_ret
    refine ⟨by rw [HD.out]; rfl, ?_, (((Ex.refl _ _ _).drewN).setCell _ _ _ (Or.inl rfl)).drewN⟩
    refine ⟨L, k + 1, some ⟨b, off, none⟩, cap, ?_, by omega, by rw [HD.out]; rfl, hL, fun j hj => ?_, HA.out, hpN⟩
    · exact (heap_setCell (w := w) (o := 1) HH.out (.int .i64 ((k : Int) + 1))).trans (by simp)
    · obtain ⟨b', off', e, hc⟩ := HX.out j hj
      refine ⟨b', off', e, fun i hi => ?_⟩
      cases e
      exact (World.cell?_setCell_other (w := w) _ _ _ (by simp)).trans (hc i hi)
  · have hd0 : d = [] := by rw [hdl, List.drop_eq_nil_of_le (by omega)]
    have hge : L.length ≤ k := by omega
    have HH : DiceAt N w p [] := ⟨L, k, ao, cap, hh, hk, by rw [List.drop_eq_nil_of_le (by omega)], hL, hx, haw, hpN⟩
    have HH := Lib.hid HH
    subst hd0
    clear hdl hh hx haw
    go_enter Tryz.func20, Tryz.ntmps20
    go_wp2
    go_quiet (fail)
    go_wp2
    go_ret
    exact ⟨rfl, HH.out, (Ex.refl _ _ _).drewN⟩

set_option maxHeartbeats 400000 in
theorem madeRoll_any (v1 : Value) (L : List Int) (w : World) (hv1 : Ints w v1 L) (hL : L.length ≤ 1000000) :
    Calls Tryz.prog 33 #[v1] w fun e w' => ∃ p, e = .returned (.pointer (some ⟨p, 0, none⟩)) ∧ DiceAt (p + 1) w' p L ∧ w.heap.size ≤ p ∧ p + 1 ≤ w'.heap.size ∧ Ex w.heap.size none w w' := by
  obtain ⟨ao, cap, rfl, hx⟩ := hv1
  have HX := Lib.hid hx
  clear hx
  go_enter Tryz.func33, Tryz.ntmps33
  go_wp2
  go_ret
  exact ⟨_, rfl, ⟨L, 0, ao, cap, heap_alloc_new w _, Nat.zero_le _, rfl, hL, HX.out.keep (Ex.new w _) (Nat.le_refl _) (by simp), fun hne a ha => by have := HX.out.lt hne a ha; omega, by omega⟩, Nat.le_refl _, by simp, Ex.new w _⟩

end Go.Proofs.YtfllcohnfboccaaGreat

namespace Go.Proofs.YtfllcohnfboccaaGreat
open Go.RowKit

set_option maxHeartbeats 400000 in
theorem one_any (N p : Nat) (d : List Int) (n : Int) (w : World) (hd : DiceAt N w p d) (h1 : 1 ≤ n) (hn : n ≤ 4611686018427387904) :
    Calls Tryz.prog 74 #[.pointer (some ⟨p, 0, none⟩), .int .i64 n] w fun e w' => e = .returned (.bool (dVal d n == n - 1)) ∧ DiceAt N w' p d.tail ∧ Ex w.heap.size (some p) w w' := by
  go_enter Tryz.func74, Tryz.ntmps74
  go_wp2_with fail
  refine (next_any N p d n w hd hn).mono ?_
  rintro e w1 ⟨rfl, hd1, hex1⟩
  go_wp2
  go_ret
  exact ⟨rfl, hd1, hex1⟩
end Go.Proofs.YtfllcohnfboccaaGreat

namespace Go.Proofs
open Go.Shelf
def Tryz.laysBits_ren : Go.Shelf.Ren := ⟨fun | 125 => 108 | 128 => 154 | 129 => 155 | n => n, fun | 46 => 143 | 3 => 3 | 51 => 159 | 53 => 158 | 4 => 4 | 5 => 5 | 9 => 9 | n => n, fun | n => n⟩
theorem Tryz.laysBits : Go.Proofs.Lays.n125 Tryz.prog Tryz.laysBits_ren := {
  mixed := by kernel_rfl
  f125 := Tryz.func108.trans (congrArg some (by kernel_rfl))
  f128 := Tryz.func154.trans (congrArg some (by kernel_rfl))
  f129 := Tryz.func155.trans (congrArg some (by kernel_rfl))
  t3 := Tryz.underlying3
  a3 := Tryz.isAgg3
  z3 := Tryz.sizeOf3
  v3 := Tryz.zeroValue3
  t4 := Tryz.underlying4
  a4 := Tryz.isAgg4
  z4 := Tryz.sizeOf4
  v4 := Tryz.zeroValue4
  t5 := Tryz.underlying5
  a5 := Tryz.isAgg5
  z5 := Tryz.sizeOf5
  v5 := Tryz.zeroValue5
  t9 := Tryz.underlying9
  a9 := Tryz.isAgg9
  z9 := Tryz.sizeOf9
  v9 := Tryz.zeroValue9
  t46 := Tryz.underlying143
  a46 := Tryz.isAgg143
  z46 := Tryz.sizeOf143
  v46 := Tryz.zeroValue143
  t51 := Tryz.underlying159
  a51 := Tryz.isAgg159
  z51 := Tryz.sizeOf159
  v51 := Tryz.zeroValue159
  t53 := Tryz.underlying158
  a53 := Tryz.isAgg158
  z53 := Tryz.sizeOf158
  v53 := Tryz.zeroValue158 }
theorem Tryz.bitsLen (x : Int) (w : World) (h0 : 0 ≤ x) (h1 : x ≤ 18446744073709551615) :
    Calls Tryz.prog 108 #[.int .u64 x] w fun e w' => e = .returned (.int .i64 (Lib.bitLen x.toNat)) ∧ w' = w := Any.bits_Len Tryz.laysBits x w h0 h1
end Go.Proofs

namespace Go.Proofs.YtfllcohnfboccaaGreat
open Go.RowKit

/-- cmp.Compare of two numbers. -/
def cmpI (x y : Int) : Int := if x < y then -1 else if y < x then 1 else 0
theorem cmpI_lt {x y : Int} : cmpI x y < 0 ↔ x < y := by unfold cmpI; split <;> (try split) <;> omega
theorem cmpI_zero {x y : Int} : cmpI x y = 0 ↔ x = y := by unfold cmpI; split <;> (try split) <;> omega
theorem cmpI_gt {x y : Int} : 0 < cmpI x y ↔ y < x := by unfold cmpI; split <;> (try split) <;> omega

theorem isNaN_any (x : Int) (w : World) : Calls Tryz.prog 113 #[.int .i64 x] w fun e w' => e = .returned (.bool false) ∧ w = w' := by
  have h : (x != x) = false := by simp
  go_enter Tryz.func113, Tryz.ntmps113
  go_wp2
  go_ret
  exact ⟨rfl, rfl⟩

set_option maxHeartbeats 400000 in
theorem compare_any (x y : Int) (w : World) : Calls Tryz.prog 67 #[.int .i64 x, .int .i64 y] w fun e w' => e = .returned (.int .i64 (cmpI x y)) ∧ w = w' := by
  by_cases h1 : x < y
  · have d1 : decide (x < y) = true := decide_eq_true h1
    have HK : Hid (cmpI x y = -1) := by show _ = _; simp [cmpI, h1]
    go_enter Tryz.func67, Tryz.ntmps67
    go_wp2_with (go_at_call 113; refine (isNaN_any _ _).mono ?_; rintro e w' ⟨rfl, rfl⟩)
    go_ret
    exact ⟨by rw [HK.out]; rfl, rfl⟩
  · have d1 : decide (x < y) = false := decide_eq_false h1
    by_cases h2 : y < x
    · have d2 : decide (y < x) = true := decide_eq_true h2
      have HK : Hid (cmpI x y = 1) := by show _ = _; simp [cmpI, h1, h2]
      go_enter Tryz.func67, Tryz.ntmps67
      go_wp2_with (go_at_call 113; refine (isNaN_any _ _).mono ?_; rintro e w' ⟨rfl, rfl⟩)
      go_ret
      exact ⟨by rw [HK.out]; rfl, rfl⟩
    · have d2 : decide (y < x) = false := decide_eq_false h2
      have HK : Hid (cmpI x y = 0) := by show _ = _; simp [cmpI, h1, h2]
      go_enter Tryz.func67, Tryz.ntmps67
      go_wp2_with (go_at_call 113; refine (isNaN_any _ _).mono ?_; rintro e w' ⟨rfl, rfl⟩)
      go_ret
      exact ⟨by rw [HK.out]; rfl, rfl⟩
end Go.Proofs.YtfllcohnfboccaaGreat

namespace Go.Proofs.YtfllcohnfboccaaGreat
open Go.RowKit

set_option maxHeartbeats 400000 in
theorem refHas_any (v1 : Value) (xs : List Int) (x : Int) (w : World) (hv1 : Ints w v1 xs) (hm : xs.length ≤ 9223372036854775807) :
    Calls Tryz.prog 18 #[v1, .int .i64 x] w fun e w' => e = .returned (.bool (hasI xs x)) ∧ w = w' := by
  obtain ⟨ao, cap, rfl, hx⟩ := hv1
  go_enter Tryz.func18, Tryz.ntmps18
  go_wp2
  go_loop [5] (fun i => ∃ k : Nat, k ≤ xs.length ∧ i = .int .i64 k ∧ hasI (xs.take k) x = false) (fun i => xs.length - (intOf i).toNat)
  case atStart => exact ⟨0, Nat.zero_le _, rfl, rfl⟩
  case round =>
    obtain ⟨k, hk, rfl, hno⟩ := hrel
    have HN := Lib.hid hno
    clear hno
    by_cases hlt : k < xs.length
    · obtain ⟨b, off, y, rfl, hck, HY⟩ := hx.get k hlt
      by_cases he : y = x
      · have hb : (y == x) = true := by simpa using he
        have HR := Lib.hid (hasI_get hlt (HY.out.trans he))
        clear he
        go_wp2
        go_ret
        exact ⟨by rw [HR.out]; rfl, rfl⟩
      · have hb : (y == x) = false := by simpa using he
        have HR := Lib.hid (hasI_take_succ hlt HN.out (by rw [HY.out]; exact he))
        clear he
        go_wp2
        go_round
        case rel => exact ⟨k + 1, by omega, by go_num, HR.out⟩
        case measure => simp [intOf]; omega
    · have HR : Hid (hasI xs x = false) := by
        have h := HN.out
        rwa [List.take_of_length_le (by omega)] at h
      go_wp2
      go_ret
      exact ⟨by rw [HR.out]; rfl, rfl⟩

end Go.Proofs.YtfllcohnfboccaaGreat

namespace Go.Proofs.YtfllcohnfboccaaGreat
open Go.RowKit

theorem keysTo_yes {c : Int → Bool} {k : Nat} (h : c k = true) : keysTo c (k + 1) = keysTo c k ++ [(k : Int)] := by rw [keysTo, if_pos h]
theorem keysTo_no {c : Int → Bool} {k : Nat} (h : c k = false) : keysTo c (k + 1) = keysTo c k := by rw [keysTo, if_neg (by simp [h]), List.append_nil]

end Go.Proofs.YtfllcohnfboccaaGreat

namespace Go.Proofs.YtfllcohnfboccaaGreat
open Go.RowKit

def heirRep : Rep (Int × Int) where
  k := 2
  R := fun _ _ cs x => cs = [.int .i64 x.1, .int .i64 x.2]
  len := fun h => by subst h; rfl
  one := fun h => by subst h; intro v hv; simp at hv; rcases hv with rfl | rfl <;> rfl
  keep := fun h _ => h
  mono := fun h _ => h

def heirI (hs : List (Int × Int)) (k : Int) : Option Int := (hs.find? (fun x => x.1 == k)).map (·.2)
theorem heirI_take {hs : List (Int × Int)} {k : Int} {i : Nat} {x : Int × Int} (h : heirI (hs.take i) k = none) (hx : hs[i]? = some x) : heirI hs k = if x.1 = k then some x.2 else heirI hs k := by
  split
  · rename_i e
    unfold heirI at *
    obtain ⟨hl, he⟩ := List.getElem?_eq_some_iff.1 hx
    rw [← List.take_append_drop i hs, List.find?_append]
    simp only [Option.map_eq_none_iff] at h
    rw [h, List.drop_eq_getElem_cons hl, he]
    simp [e]
  · rfl
theorem heirI_hit {hs : List (Int × Int)} {k : Int} {i : Nat} {x : Int × Int} (h : heirI (hs.take i) k = none) (hx : hs[i]? = some x) (e : x.1 = k) : heirI hs k = some x.2 := by
  rw [heirI_take h hx, if_pos e]
theorem heirI_miss {hs : List (Int × Int)} {k : Int} {i : Nat} {x : Int × Int} (h : heirI (hs.take i) k = none) (hx : hs[i]? = some x) (e : ¬ x.1 = k) : heirI (hs.take (i + 1)) k = none := by
  unfold heirI at *
  obtain ⟨hl, he⟩ := List.getElem?_eq_some_iff.1 hx
  rw [List.take_add_one, List.find?_append]
  simp only [Option.map_eq_none_iff] at h
  rw [h, hx]; simp [e]

end Go.Proofs.YtfllcohnfboccaaGreat

namespace Go.Proofs.YtfllcohnfboccaaGreat
open Go.RowKit Go.Sort

def heirV (x : Int × Int) : Value := .agg #[.int .i64 x.1, .int .i64 x.2]

set_option maxHeartbeats 400000 in
theorem byLost_any (x y : Int × Int) (w : World) : Calls Tryz.prog 110 #[heirV x, heirV y] w fun e w' => e = .returned (.int .i64 (cmpI x.1 y.1)) ∧ ∃ q os', w' = grow (w.drewN q) os' := by
  unfold heirV
  go_enter Tryz.func110, Tryz.ntmps110
  go_wp2_with (go_at_call 67; refine (compare_any _ _ _).mono ?_; rintro e w' ⟨rfl, rfl⟩)
  go_ret
  exact ⟨rfl, 0, #[_, _], by rw [alloc_eq_grow, alloc_eq_grow, grow_grow]; rfl⟩

set_option maxHeartbeats 400000 in
theorem sameLost_any (x y : Int × Int) (w : World) : Calls Tryz.prog 112 #[heirV x, heirV y] w fun e w' => e = .returned (.bool (x.1 == y.1)) ∧ ∃ q os', w' = grow (w.drewN q) os' := by
  unfold heirV
  go_enter Tryz.func112, Tryz.ntmps112
  go_wp2
  go_ret
  exact ⟨rfl, 0, #[_, _], by rw [alloc_eq_grow, alloc_eq_grow, grow_grow]; rfl⟩

set_option maxHeartbeats 400000 in
theorem lostAt_any (x : Int × Int) (n : Int) (w : World) : Calls Tryz.prog 66 #[heirV x, .int .i64 n] w fun e w' => e = .returned (.int .i64 (cmpI x.1 n)) ∧ ∃ q os', w' = grow (w.drewN q) os' := by
  unfold heirV
  go_enter Tryz.func66, Tryz.ntmps66
  go_wp2_with (go_at_call 67; refine (compare_any _ _ _).mono ?_; rintro e w' ⟨rfl, rfl⟩)
  go_ret
  exact ⟨rfl, 0, #[_], by rw [alloc_eq_grow]; rfl⟩
end Go.Proofs.YtfllcohnfboccaaGreat

namespace Go.Proofs
open Go.Shelf
def Tryz.insHeir_ren : Go.Shelf.Ren := ⟨fun | 20 => 180 | n => n, fun | 24 => 34 | 22 => 31 | 3 => 3 | 25 => 145 | 4 => 4 | 0 => 0 | n => n, fun | n => n⟩
theorem Tryz.insHeir : Go.Proofs.SlLaysF0.n20 Tryz.prog Tryz.insHeir_ren := {
  mixed := by kernel_rfl
  f20 := ⟨Tryz.f180.name, by decide, Tryz.func180.trans (congrArg some (by kernel_rfl))⟩
  t0 := Tryz.underlying0
  a0 := Tryz.isAgg0
  z0 := Tryz.sizeOf0
  v0 := Tryz.zeroValue0
  t3 := Tryz.underlying3
  a3 := Tryz.isAgg3
  z3 := Tryz.sizeOf3
  v3 := Tryz.zeroValue3
  t4 := Tryz.underlying4
  a4 := Tryz.isAgg4
  z4 := Tryz.sizeOf4
  v4 := Tryz.zeroValue4
  t22 := Tryz.underlying31
  a22 := Tryz.isAgg31
  z22 := Tryz.sizeOf31
  v22 := Tryz.zeroValue31
  t25 := Tryz.underlying145
  a25 := Tryz.isAgg145
  z25 := Tryz.sizeOf145
  v25 := Tryz.zeroValue145 }
end Go.Proofs
namespace Go.Proofs.YtfllcohnfboccaaGreat
open Go.RowKit Go.Sort

def encH (x : Int × Int) : List Value := [.int .i64 x.1, .int .i64 x.2]
theorem one_encH : ∀ x, ∀ v ∈ encH x, v.oneCell' = true := fun x v hv => by simp [encH] at hv; rcases hv with rfl | rfl <;> rfl
def byLost (x y : Int × Int) : Int := cmpI x.1 y.1

theorem insHeir_any (g off cap a b n : Nat) (A B : Int) (hA : (a : Int) = A) (hB : (b : Int) = B) (d : Array (Int × Int)) (w : World) (hH : HoldsK encH 2 w g off d) (hg : g < w.heap.size) (hab : a ≤ b) (hb : b ≤ d.size) (hsz : d.size < 4611686018427387904) (hn : d.size = n) :
    Calls Tryz.prog 180 #[.slice (some ⟨g, off, none⟩) n cap, .int .i64 A, .int .i64 B, .func (.func 110) #[] #[]] w fun e w' =>
      e = .returned (.tuple #[]) ∧ ∃ n os, w' = sortWorldK encH 2 w g off n (Sort.insertionSort (ltOf byLost) d a b) os := by
  subst hA hB hn
  exact AnyQ.insertionSortCmpFunc Tryz.insHeir 2 Tryz.isAgg34 Tryz.sizeOf34 encH (fun _ => rfl) (fun x v hv => by simp [encH] at hv; rcases hv with rfl | rfl <;> rfl) byLost 110 #[] g off cap a b d w
    (enters_of Tryz.func110 (by kernel_rfl) rfl) (fun m os dk _ x y => byLost_any x y _) hH hg hab hb hsz
end Go.Proofs.YtfllcohnfboccaaGreat

namespace Go.Proofs.YtfllcohnfboccaaGreat
open Go.Sort

variable {α : Type} [Inhabited α]

/-- A kind of elements of which none is less than another one. -/
def Kind (lt : α → α → Bool) (p : α → Bool) : Prop := ∀ x y, p x = true → p y = true → lt x y = false

theorem toList_split2 (d : Array α) (j : Nat) (h : j + 1 < d.size) : d.toList = d.toList.take j ++ d[j]! :: d[j + 1]! :: d.toList.drop (j + 2) := by
  rw [getElem!_pos d j (by omega), getElem!_pos d (j + 1) h]
  have h1 : d.toList.drop j = d[j] :: d.toList.drop (j + 1) := by rw [List.drop_eq_getElem_cons (by simpa using (by omega : j < d.size))]; simp
  have h2 : d.toList.drop (j + 1) = d[j + 1] :: d.toList.drop (j + 2) := by rw [List.drop_eq_getElem_cons (by simpa using h)]; simp
  rw [← h2, ← h1, List.take_append_drop]
theorem swp_adj (d : Array α) (j : Nat) (h : j + 1 < d.size) : (swp d (j + 1) j).toList = d.toList.take j ++ d[j + 1]! :: d[j]! :: d.toList.drop (j + 2) := by
  apply List.ext_getElem?
  intro i
  unfold swp
  have e1 : d[j]! = d[j] := getElem!_pos d j (by omega)
  have e2 : d[j + 1]! = d[j + 1] := getElem!_pos d (j + 1) h
  rw [e1, e2]
  simp only [Array.getElem?_toList, Array.getElem?_setIfInBounds, Array.size_setIfInBounds]
  rcases Nat.lt_trichotomy i j with hi | hi | hi
  · rw [if_neg (by omega), if_neg (by omega), List.getElem?_append_left (by simp; omega)]
    simp [hi]
  · subst hi
    rw [if_pos rfl, if_pos (by omega), List.getElem?_append_right (by simp; omega)]
    simp [show min i d.size = i by omega]
  · by_cases hi2 : i = j + 1
    · subst hi2
      rw [if_neg (by omega), if_pos rfl, if_pos h, List.getElem?_append_right (by simp; omega)]
      simp [show j + 1 - min j d.size = 1 by omega]
    · rw [if_neg (by omega), if_neg (by omega), List.getElem?_append_right (by simp; omega)]
      obtain ⟨n, rfl⟩ : ∃ n, i = j + 2 + n := ⟨i - (j + 2), by omega⟩
      simp [show j + 2 + n - min j d.size = n + 2 by omega]
theorem swp_filter {lt : α → α → Bool} {p : α → Bool} (hp : Kind lt p) (d : Array α) (j : Nat) (h : j + 1 < d.size) (hl : lt d[j + 1]! d[j]! = true) : (swp d (j + 1) j).toList.filter p = d.toList.filter p := by
  have e : d.toList.filter p = (d.toList.take j ++ d[j]! :: d[j + 1]! :: d.toList.drop (j + 2)).filter p := congrArg (List.filter p) (toList_split2 d j h)
  rw [swp_adj d j h, e]
  simp only [List.filter_append, List.filter_cons]
  by_cases h1 : p d[j + 1]! = true
  · by_cases h2 : p d[j]! = true
    · rw [hp _ _ h1 h2] at hl; cases hl
    · rw [if_neg h2]
      simp [h2]
  · simp [h1]
theorem insInner_filter {lt : α → α → Bool} {p : α → Bool} (hp : Kind lt p) (a : Nat) : ∀ (j : Nat) (d : Array α), j < d.size → (insInner lt a j d).toList.filter p = d.toList.filter p ∧ (insInner lt a j d).size = d.size
  | 0, d, _ => ⟨rfl, rfl⟩
  | j + 1, d, hj => by
    unfold insInner
    split
    · rename_i hc
      simp only [Bool.and_eq_true, decide_eq_true_eq] at hc
      have hs : (swp d (j + 1) j).size = d.size := swp_size d (j + 1) j
      obtain ⟨h1, h2⟩ := insInner_filter hp a j (swp d (j + 1) j) (by rw [hs]; omega)
      exact ⟨h1.trans (swp_filter hp d j hj hc.2), h2.trans hs⟩
    · exact ⟨rfl, rfl⟩
theorem insOuter_filter {lt : α → α → Bool} {p : α → Bool} (hp : Kind lt p) (a b : Nat) : ∀ (n i : Nat) (d : Array α), b - i = n → b ≤ d.size → (insOuter lt a b i d).toList.filter p = d.toList.filter p
  | 0, i, d, hn, hb => by rw [insOuter, if_neg (by omega)]
  | n + 1, i, d, hn, hb => by
    rw [insOuter, if_pos (by omega)]
    obtain ⟨h1, h2⟩ := insInner_filter hp a i d (by omega)
    exact (insOuter_filter hp a b n (i + 1) _ (by omega) (by omega)).trans h1
theorem insertionSort_filter {lt : α → α → Bool} {p : α → Bool} (hp : Kind lt p) (d : Array α) (a b : Nat) (hb : b ≤ d.size) : (insertionSort lt d a b).toList.filter p = d.toList.filter p := insOuter_filter hp a b _ _ d rfl hb
end Go.Proofs.YtfllcohnfboccaaGreat

namespace Go.Proofs.YtfllcohnfboccaaGreat

/-- The place of a number in a list. -/
def idxI (l : List Int) (x : Int) : Nat := l.findIdx fun y => y == x
theorem idxI_lt {l : List Int} {x : Int} (h : x ∈ l) : idxI l x < l.length := List.findIdx_lt_length_of_exists ⟨x, h, by simp⟩
theorem idxI_get {l : List Int} {x : Int} (h : x ∈ l) : l[idxI l x]'(idxI_lt h) = x := by
  have := List.findIdx_getElem (p := fun y : Int => y == x) (w := idxI_lt h)
  exact eq_of_beq this
theorem idxI_of {l : List Int} (hn : l.Nodup) {i : Nat} (hi : i < l.length) : idxI l l[i] = i := by
  have h := idxI_get (List.getElem_mem hi)
  exact (List.getElem_inj hn).1 h
/-- Where who comes to b from a goes on. -/
def nxI (T : Int → List Int) (a b : Int) : Int := (T b).getD ((idxI (T b) a + 1) % (T b).length) 0
/-- From where who leaves b for c has come. -/
def pvI (T : Int → List Int) (b c : Int) : Int := (T b).getD ((idxI (T b) c + ((T b).length - 1)) % (T b).length) 0
theorem getD_eq {l : List Int} {i : Nat} (h : i < l.length) : l.getD i 0 = l[i] := by simp [List.getD, h]
theorem nxI_mem {T : Int → List Int} {a b : Int} (h : a ∈ T b) : nxI T a b ∈ T b := by
  have h0 : 0 < (T b).length := List.length_pos_of_mem h
  unfold nxI
  rw [getD_eq (Nat.mod_lt _ h0)]
  exact List.getElem_mem _
theorem pvI_mem {T : Int → List Int} {c b : Int} (h : c ∈ T b) : pvI T b c ∈ T b := by
  have h0 : 0 < (T b).length := List.length_pos_of_mem h
  unfold pvI
  rw [getD_eq (Nat.mod_lt _ h0)]
  exact List.getElem_mem _
theorem mod_next {n i : Nat} (h : i < n) : ((i + 1) % n + (n - 1)) % n = i := by
  by_cases e : i + 1 = n
  · rw [e, Nat.mod_self, Nat.zero_add, Nat.mod_eq_of_lt (by omega)]; omega
  · rw [Nat.mod_eq_of_lt (show i + 1 < n by omega), show i + 1 + (n - 1) = i + n by omega, Nat.add_mod_right, Nat.mod_eq_of_lt h]
theorem mod_prev {n i : Nat} (h : i < n) : ((i + (n - 1)) % n + 1) % n = i := by
  by_cases e : i = 0
  · subst e; rw [Nat.zero_add, Nat.mod_eq_of_lt (show n - 1 < n by omega), show n - 1 + 1 = n by omega, Nat.mod_self]
  · rw [show i + (n - 1) = (i - 1) + n by omega, Nat.add_mod_right, Nat.mod_eq_of_lt (show i - 1 < n by omega), show i - 1 + 1 = i by omega, Nat.mod_eq_of_lt h]
theorem pv_nx {T : Int → List Int} {a b : Int} (hn : (T b).Nodup) (h : a ∈ T b) : pvI T b (nxI T a b) = a := by
  have h0 : 0 < (T b).length := List.length_pos_of_mem h
  have hi := idxI_lt h
  unfold pvI
  have e : nxI T a b = (T b)[(idxI (T b) a + 1) % (T b).length]'(Nat.mod_lt _ h0) := by unfold nxI; rw [getD_eq (Nat.mod_lt _ h0)]
  rw [e, idxI_of hn, mod_next hi, getD_eq hi, idxI_get h]
theorem nx_pv {T : Int → List Int} {c b : Int} (hn : (T b).Nodup) (h : c ∈ T b) : nxI T (pvI T b c) b = c := by
  have h0 : 0 < (T b).length := List.length_pos_of_mem h
  have hi := idxI_lt h
  unfold nxI
  have e : pvI T b c = (T b)[(idxI (T b) c + ((T b).length - 1)) % (T b).length]'(Nat.mod_lt _ h0) := by unfold pvI; rw [getD_eq (Nat.mod_lt _ h0)]
  rw [e, idxI_of hn, mod_prev hi, getD_eq hi, idxI_get h]

/-- Tables of neighbours: each key once; who has a neighbour is one of its own. -/
structure Tabs (T : Int → List Int) : Prop where
  nd : ∀ k, (T k).Nodup
  sym : ∀ a b, a ∈ T b → b ∈ T a
/-- The steps of a route that begins with a step. -/
def prI (T : Int → List Int) (e : Int × Int) : Nat → Int × Int
  | 0 => e
  | m + 1 => ((prI T e m).2, nxI T (prI T e m).1 (prI T e m).2)
/-- The keys of a route of m + 1 steps. -/
def rtI (T : Int → List Int) (e : Int × Int) (m : Nat) : List Int := e.1 :: (List.range (m + 1)).map fun i => (prI T e i).2
theorem rtI_len (T : Int → List Int) (e : Int × Int) (m : Nat) : (rtI T e m).length = m + 2 := by simp [rtI]
theorem rtI_zero (T : Int → List Int) (e : Int × Int) : rtI T e 0 = [e.1, e.2] := rfl
theorem rtI_succ (T : Int → List Int) (e : Int × Int) (m : Nat) : rtI T e (m + 1) = rtI T e m ++ [nxI T (prI T e m).1 (prI T e m).2] := by
  unfold rtI
  rw [List.range_succ, List.map_append]
  rfl
theorem prI_fst (T : Int → List Int) (e : Int × Int) (m : Nat) : (prI T e (m + 1)).1 = (prI T e m).2 := rfl
theorem rtI_snd (T : Int → List Int) (e : Int × Int) {m i : Nat} (h : i ≤ m) : (rtI T e m).getD (i + 1) 0 = (prI T e i).2 := by
  simp [rtI, List.getD, show i < m + 1 by omega]
theorem rtI_fst (T : Int → List Int) (e : Int × Int) {m i : Nat} (h : i ≤ m) : (rtI T e m).getD i 0 = (prI T e i).1 := by
  cases i with
  | zero => rfl
  | succ i => rw [rtI_snd T e (show i ≤ m by omega), prI_fst]
theorem rtI_take (T : Int → List Int) (e : Int × Int) {m k : Nat} (h : k ≤ m) : (rtI T e m).take (k + 2) = rtI T e k := by
  unfold rtI
  rw [List.take_succ_cons, ← List.map_take, List.take_range, Nat.min_eq_left (by omega)]
theorem pr_mem {T : Int → List Int} (hT : Tabs T) {e : Int × Int} (he : e.1 ∈ T e.2) (m : Nat) : (prI T e m).1 ∈ T (prI T e m).2 := by
  induction m with
  | zero => exact he
  | succ m ih => exact hT.sym _ _ (nxI_mem ih)
theorem pr_inj {T : Int → List Int} (hT : Tabs T) {e e' : Int × Int} (he : e.1 ∈ T e.2) (he' : e'.1 ∈ T e'.2) (m : Nat) (h : prI T e m = prI T e' m) : e = e' := by
  induction m with
  | zero => exact h
  | succ m ih =>
    apply ih
    have h1 := congrArg Prod.fst h
    have h2 := congrArg Prod.snd h
    simp only [prI] at h1 h2
    have a := pv_nx (hT.nd _) (pr_mem hT he m)
    have b := pv_nx (hT.nd _) (pr_mem hT he' m)
    rw [h2, h1, b] at a
    exact Prod.ext a.symm h1
theorem pr_surj {T : Int → List Int} (hT : Tabs T) {e : Int × Int} (he : e.1 ∈ T e.2) (m : Nat) : ∃ f : Int × Int, f.1 ∈ T f.2 ∧ prI T f m = e := by
  induction m generalizing e with
  | zero => exact ⟨e, he, rfl⟩
  | succ m ih =>
    have h2 : e.2 ∈ T e.1 := hT.sym _ _ he
    obtain ⟨f, hf, h⟩ := ih (e := (pvI T e.1 e.2, e.1)) (pvI_mem h2)
    refine ⟨f, hf, ?_⟩
    simp only [prI]
    rw [h]
    exact Prod.ext rfl (nx_pv (hT.nd _) h2)
end Go.Proofs.YtfllcohnfboccaaGreat
