/- Plain words on slices of ints in memory, for whatever program: what a slice reads as, which blocks a call may turn, an append of one number. No statement of the seat is proved here. | The keys of the map of losses: a struct of two numbers. No statement of the seat. | What the map of losses holds: of each author the last one named. Plain. No statement of the seat. | The map of the losses at whatever lost keys: plain facts. No statement of the seat. | How values of a type are held in memory, as a word on lists: numbers, texts, structs, slices of these. For whatever program. No statement of the seat is proved here. | The row of int in the table of types: a fact, no statement of the seat. | Plain Lean functions on lists of ints: what the Go functions of the Quota laws compute. No program in sight. | ref24.Has: contracts, no statement of the seat. | ref24.Valid: whether a list of keys is ascending: a contract, no statement of the seat. | How many voices there are, all together: as many as authors have named somebody. Plain. No statement of the seat. | A map that holds whatever values, by the kit's own datum 'held': plain facts. No statement of the seat. | Join, Minus: contracts, no statement of the seat. | Heirs as data; ref35.heir, Follow: contracts, no statement of the seat. | mourning.key: a contract, no statement of the seat. | The map of the losses, asked at whatever lost key. No statement of the seat. | slices.Index, Contains: contracts, no statement of the seat. | cmp.Compare at int: a contract, no statement of the seat. | The closures on heirs that the program's mourning hands to the library: contracts, no statement of the seat. | The library's insertion sort at heirs, by the shelf's contract: its laying in plain words, and the contract at heirs sorted by the lost key. No statement of the seat. | The insertion sort of the library keeps the order of equals: a plain law on the kit's own word 'Sort.insertionSort'. No program in sight. -/
import Derived.WalkKit
import Derived.WalkSpells
import Derived.WalkLawsBesides
import Derived.Lib.Hide
import Derived.Deep.QuietTactic
import Derived.BigQuiet
import Derived.Test.YtdgfankkapeclaaGreatRows
import Derived.DeepKeys4
import Derived.WideKeyPair
import Derived.Maps.OwnSet
import Derived.Deep.MidRow
import Derived.Laws.StructEq
import Derived.PlainAid
import Derived.IntWalk
import Derived.ChangeKeys
import Derived.Sort.Grow
import Derived.Shelf.SlSortCmp.InsertionK
import Derived.Sort.LotA
namespace Go.Proofs.YtdgfankkapeclaaGreat
open Go.RowKit

/-- Below block B the world w' is as w was, but for block p. -/
structure Ex (B : Nat) (p : Option Nat) (w w' : World) : Prop where
  os : w'.os = w.os
  tape : w'.tape = w.tape
  output : w'.output = w.output
  size : w.heap.size ≤ w'.heap.size
  block : ∀ k, k < B → some k ≠ p → w'.heap[k]? = w.heap[k]?

theorem Ex.refl (B : Nat) (p : Option Nat) (w : World) : Ex B p w w := ⟨rfl, rfl, rfl, Nat.le_refl _, fun _ _ _ => rfl⟩
theorem Ex.trans {B B' : Nat} {p p' : Option Nat} {a b c : World} (h : Ex B p a b) (k : Ex B' p' b c) (hB : B ≤ B') (hp : ∀ q, p' = some q → q < B → p = some q) : Ex B p a c :=
  ⟨k.os.trans h.os, k.tape.trans h.tape, k.output.trans h.output, Nat.le_trans h.size k.size, fun i hi hne =>
    (k.block i (Nat.lt_of_lt_of_le hi hB) (fun e => hne (by rw [hp i e.symm hi]))).trans (h.block i hi hne)⟩
theorem Ex.weaken {B : Nat} {w w' : World} (h : Ex B none w w') (p : Option Nat) : Ex B p w w' := ⟨h.os, h.tape, h.output, h.size, fun i hi _ => h.block i hi (by simp)⟩
theorem Ex.mono {B B' : Nat} {p : Option Nat} {w w' : World} (h : Ex B p w w') (hB : B' ≤ B) : Ex B' p w w' := ⟨h.os, h.tape, h.output, h.size, fun i hi => h.block i (Nat.lt_of_lt_of_le hi hB)⟩
theorem Ex.below {B : Nat} {w w' : World} (h : Ex B none w w') : Below B w w' := ⟨h.os, h.tape, h.output, h.size, fun i hi => h.block i hi (by simp)⟩
theorem Ex.of_below {B : Nat} {w w' : World} (h : Below B w w') : Ex B none w w' := ⟨h.os, h.tape, h.output, h.size, fun i hi _ => h.block i hi⟩
/-- What turns above B alone is not seen below B. -/
theorem Ex.above {B q : Nat} {w w' : World} (h : Ex B (some q) w w') (hq : B ≤ q) : Ex B none w w' := ⟨h.os, h.tape, h.output, h.size, fun i hi _ => h.block i hi (by simp; omega)⟩
theorem Ex.grown {B : Nat} {p row : Option Nat} {a w w' : World} (h : Ex B p a w) (hg : w.grownBy w' row) (hB : B ≤ w.heap.size) (hr : ∀ k, row = some k → B ≤ k) : Ex B p a w' :=
  ⟨hg.os.trans h.os, hg.tape.trans h.tape, hg.output.trans h.output, Nat.le_trans h.size hg.size, fun k hk hne => (hg.block k (by omega) (fun e => by have := hr k e.symm; omega)).trans (h.block k hk hne)⟩
theorem Ex.alloc {B : Nat} {p : Option Nat} {a w : World} (h : Ex B p a w) (hB : B ≤ w.heap.size) (o : Obj) : Ex B p a (w.alloc o) := h.grown (World.grownBy_alloc w o none) hB (by simp)
theorem Ex.new (w : World) (o : Obj) : Ex w.heap.size none w (w.alloc o) := (Ex.refl _ _ _).alloc (Nat.le_refl _) o
theorem Ex.drew {B : Nat} {p : Option Nat} {a w : World} (h : Ex B p a w) : Ex B p a w.drew := ⟨h.os, h.tape, h.output, h.size, h.block⟩
theorem Ex.drewN {B n : Nat} {p : Option Nat} {a w : World} (h : Ex B p a w) : Ex B p a (w.drewN n) := ⟨h.os, h.tape, h.output, h.size, h.block⟩
theorem Ex.setCell {B q : Nat} {p : Option Nat} {a w : World} (h : Ex B p a w) (o : Nat) (s : Option Nat) (u : Value) (hq : p = some q ∨ B ≤ q) : Ex B p a (w.setCell ⟨q, o, s⟩ u) :=
  ⟨h.os, h.tape, h.output, by simpa [World.setCell] using h.size, fun k hk hne => (Below.heap_setCell _ _ _ _ (by
    show k ≠ q
    rcases hq with hq | hq
    · intro e; exact hne (by rw [hq, e])
    · omega)).trans (h.block k hk hne)⟩

/-- A row that is owned stays so where its block is not turned. -/
theorem own_keep {w w' : World} {base e size n B : Nat} {p : Option Nat} {v : Value} {xs : List Value} (h : w.ownsRow base e size v n xs) (hx : Ex B p w w') (hB : w.heap.size ≤ B) (hp : ∀ q, p = some q → q < base) : w'.ownsRow base e size v n xs := by
  obtain ⟨h1, h2⟩ := h
  refine ⟨h1, ?_⟩
  rcases h2 with h2 | ⟨g, cap, cur, hv, hg, hh, r⟩
  · exact Or.inl h2
  · refine Or.inr ⟨g, cap, cur, hv, hg, ?_, r⟩
    have hlt := (Array.getElem?_eq_some_iff.1 hh).1
    rw [hx.block g (by omega) (fun e => by have := hp g e.symm; omega)]
    exact hh

/-- The slice at 'ao' with 'xs.length' elements reads as the list of ints xs. -/
def IntsAt (w : World) (ao : Option Addr) (xs : List Int) : Prop :=
  ∀ j, j < xs.length → ∃ b off, ao = some ⟨b, off, none⟩ ∧ ∀ i, i < xs.length → w.cell? ⟨b, off + i, none⟩ = some (.int .i64 (xs.getD i 0))

/-- Block q is not where the slice at 'ao' lies. -/
def Away (q : Nat) (ao : Option Addr) : Prop := ∀ a, ao = some a → a.block ≠ q

theorem IntsAt.keep {w w' : World} {ao : Option Addr} {xs : List Int} {B : Nat} {p : Option Nat} (h : IntsAt w ao xs) (hb : Ex B p w w') (hB : w.heap.size ≤ B) (hp : ∀ q, p = some q → xs ≠ [] → Away q ao) : IntsAt w' ao xs := by
  intro j hj
  obtain ⟨b, off, e, hc⟩ := h j hj
  refine ⟨b, off, e, fun i hi => ?_⟩
  have h1 := hc i hi
  have h2 : b < w.heap.size := World.block_lt_of_cell? w _ h1
  exact (World.cell?_of_block (w := w) (hb.block b (by omega) (fun e' => hp b e'.symm (by intro h; simp [h] at hj) _ e rfl))).trans h1

theorem IntsAt.get {w : World} {ao : Option Addr} {xs : List Int} (h : IntsAt w ao xs) (k : Nat) (hk : k < xs.length) : ∃ b off y, ao = some ⟨b, off, none⟩ ∧ w.cell? ⟨b, off + k, none⟩ = some (.int .i64 y) ∧ Hid (xs.getD k 0 = y) := by
  obtain ⟨b, off, e, hc⟩ := h k hk
  exact ⟨b, off, _, e, hc k hk, rfl⟩

theorem IntsAt.lt {w : World} {ao : Option Addr} {xs : List Int} (h : IntsAt w ao xs) (hne : xs ≠ []) : ∀ a, ao = some a → a.block < w.heap.size := by
  intro a ha
  obtain ⟨b, off, e, hc⟩ := h 0 (List.length_pos_iff.2 hne)
  rw [e] at ha; cases ha
  exact World.block_lt_of_cell? w _ (hc 0 (List.length_pos_iff.2 hne))

theorem IntsAt.nil (w : World) (ao : Option Addr) : IntsAt w ao [] := fun j hj => by cases hj

/-- The slice value v reads as xs. -/
def Ints (w : World) (v : Value) (xs : List Int) : Prop := ∃ ao cap, v = .slice ao xs.length cap ∧ IntsAt w ao xs
theorem Ints.keep {w w' : World} {v : Value} {xs : List Int} {B : Nat} (h : Ints w v xs) (hx : Ex B none w w') (hB : w.heap.size ≤ B) : Ints w' v xs := by
  obtain ⟨ao, cap, e, h⟩ := h
  exact ⟨ao, cap, e, h.keep hx hB (by simp)⟩
theorem Ints.nil (w : World) : Ints w (.slice none 0 0) [] := ⟨none, 0, rfl, IntsAt.nil _ _⟩
theorem IntsAt.lit (w : World) (xs : List Int) : IntsAt (w.alloc (.cells (xs.map (Value.int .i64)).toArray 3)) (some ⟨w.heap.size, 0, none⟩) xs := by
  intro j hj
  refine ⟨_, _, rfl, fun i hi => ?_⟩
  rw [cell_of_row _ _ _ _ _ _ (heap_alloc_new w _)]
  simp [List.getD, hi]
theorem Ints.lit {w : World} (xs : List Int) {n g : Nat} (hg : g = w.heap.size) (hn : n = xs.length) : Ints (w.alloc (.cells (xs.map (Value.int .i64)).toArray 3)) (.slice (some ⟨g, 0, none⟩) n n) xs := by
  subst hn hg; exact ⟨_, _, rfl, IntsAt.lit w xs⟩

/-- The slice at 'ao' owns the ints xs, in a block from 'base' on. -/
def OwnI (w : World) (base : Nat) (ao : Option Addr) (cap : Nat) (xs : List Int) : Prop := w.ownsRow base 3 1 (.slice ao xs.length cap) xs.length (xs.map (Value.int .i64))

theorem OwnI.nil (w : World) (base : Nat) : OwnI w base none 0 [] := World.ownsRow_nil w base _ 1
theorem OwnI.keep {w w' : World} {base B : Nat} {p : Option Nat} {ao : Option Addr} {cap : Nat} {xs : List Int} (h : OwnI w base ao cap xs) (hx : Ex B p w w') (hB : w.heap.size ≤ B) (hp : ∀ q, p = some q → q < base) : OwnI w' base ao cap xs := own_keep h hx hB hp
theorem OwnI.lt {w : World} {base : Nat} {ao : Option Addr} {cap : Nat} {xs : List Int} (h : OwnI w base ao cap xs) : ∀ a, ao = some a → base ≤ a.block ∧ a.block < w.heap.size := by
  intro a e; subst e; exact World.ownsRow.lt h _ rfl
theorem OwnI.away {w : World} {base : Nat} {ao : Option Addr} {cap : Nat} {xs : List Int} (h : OwnI w base ao cap xs) {q : Nat} (hq : q < base) : Away q ao := fun a e => by have := h.lt a e; omega
theorem OwnI.ints {w : World} {base : Nat} {ao : Option Addr} {cap : Nat} {xs : List Int} (h : OwnI w base ao cap xs) : IntsAt w ao xs := by
  intro j hj
  rcases h.2 with ⟨_, h0⟩ | ⟨g, cap', cur, hv, _⟩
  · omega
  · simp only [Value.slice.injEq] at hv
    obtain ⟨rfl, _, rfl⟩ := hv
    refine ⟨g, 0, rfl, fun i hi => ?_⟩
    have := World.ownsRow.cells h (g := g) rfl i (.int .i64 (xs.getD i 0)) (by simp [List.getD, hi])
    simpa [Addr.add_lit] using this

theorem OwnI.v {w : World} {base : Nat} {ao : Option Addr} {cap : Nat} {xs : List Int} (h : OwnI w base ao cap xs) : Ints w (.slice ao xs.length cap) xs := ⟨_, _, rfl, h.ints⟩
/-- A contract whose answer is known. -/
theorem asB {P : Program} {f : FuncId} {args : Array Value} {w : World} {a b : Bool} {R : World → Prop} (h : Calls P f args w fun e w' => e = .returned (.bool a) ∧ R w') (hab : a = b) : Calls P f args w fun e w' => e = .returned (.bool b) ∧ R w' := by
  subst hab; exact h

/-- What the shell of a law's proof says of a slice of ints that came in, in the words of this text. -/
theorem ints_of_row {w : World} {a : Option Addr} {len cap : Nat} {zs : List Int} (h : (a = none ∧ len = 0 ∧ cap = 0 ∧ zs = []) ∨
    ∃ x, a = some x ∧ len ≤ cap ∧ cap ≤ maxLen ∧ zs.length = cap ∧ (∀ i, i < zs.length → w.cell? (x.add i) = some (.int .i64 (zs.getD i 0))) ∧ ∀ n ∈ zs, (Lit.int .i64 n).wf = true) :
    Ints w (.slice a len cap) (zs.take len) ∧ (zs.take len).length ≤ 9223372036854775807 ∧ ∀ n ∈ zs.take len, (Lit.int .i64 n).wf = true := by
  rcases h with ⟨rfl, rfl, rfl, rfl⟩ | ⟨x, rfl, h1, h2, h3, h4, h5⟩
  · exact ⟨Ints.nil w, by simp, by simp⟩
  · have hl : (zs.take len).length = len := by simp; omega
    unfold maxLen at h2
    refine ⟨⟨some x, cap, by rw [hl], fun j hj => ?_⟩, by omega, fun n hn => h5 n (List.mem_of_mem_take hn)⟩
    obtain ⟨b, off, spot⟩ := x
    have h0 := h4 0 (by omega)
    have hs : spot = none := by simpa [Addr.add] using World.cell?_spot h0
    subst hs
    refine ⟨b, off, rfl, fun i hi => ?_⟩
    have := h4 i (by omega)
    rw [Addr.add_lit] at this
    rw [this]
    simp only [List.getD, List.getElem?_take]
    rw [if_pos (by omega)]

theorem OwnI.cap {w : World} {base : Nat} {ao : Option Addr} {cap : Nat} {xs : List Int} (h : OwnI w base ao cap xs) : xs.length ≤ cap := by
  rcases h.2 with ⟨hv, h0⟩ | ⟨g, cap', cur, hv, _, _, hn, _⟩
  · omega
  · simp only [Value.slice.injEq] at hv
    obtain ⟨_, _, rfl⟩ := hv
    exact hn
theorem IntsAt.take {w : World} {ao : Option Addr} {xs : List Int} (h : IntsAt w ao xs) (k : Nat) : IntsAt w ao (xs.take k) := by
  intro j hj
  have hj' : j < xs.length := by simp at hj; omega
  obtain ⟨b, off, e, hc⟩ := h j hj'
  refine ⟨b, off, e, fun i hi => ?_⟩
  have hi' : i < xs.length ∧ i < k := by simp at hi; omega
  rw [hc i hi'.1]
  simp [List.getD, hi'.2]

/-- The slice value v reads as xs, and does not lie in block p. -/
def IntsO (p : Nat) (w : World) (v : Value) (xs : List Int) : Prop := ∃ ao cap, v = .slice ao xs.length cap ∧ IntsAt w ao xs ∧ (xs ≠ [] → Away p ao)
theorem IntsO.v {p : Nat} {w : World} {v : Value} {xs : List Int} (h : IntsO p w v xs) : Ints w v xs := by
  obtain ⟨ao, cap, e, h, _⟩ := h
  exact ⟨ao, cap, e, h⟩
theorem IntsO.keep {p : Nat} {q : Option Nat} {w w' : World} {v : Value} {xs : List Int} {B : Nat} (h : IntsO p w v xs) (hx : Ex B q w w') (hB : w.heap.size ≤ B) (hq : q = none ∨ q = some p) : IntsO p w' v xs := by
  obtain ⟨ao, cap, e, h, ha⟩ := h
  exact ⟨ao, cap, e, h.keep hx hB (fun x e' hne => by
    rcases hq with hq | hq
    · rw [hq] at e'; cases e'
    · rw [hq] at e'; cases e'; exact ha hne), ha⟩
theorem Ints.at' {w : World} {ao : Option Addr} {n cap : Nat} {xs : List Int} (h : Ints w (.slice ao n cap) xs) : IntsAt w ao xs := by
  obtain ⟨ao', cap', e, h⟩ := h
  cases e; exact h
/-- What lay there before block p was made does not lie in it. -/
theorem Ints.o {p : Nat} {w : World} {v : Value} {xs : List Int} (h : Ints w v xs) (hp : w.heap.size ≤ p) : IntsO p w v xs := by
  obtain ⟨ao, cap, e, h⟩ := h
  exact ⟨ao, cap, e, h, fun hne a ha => by have := h.lt hne a ha; omega⟩
theorem OwnI.o {p : Nat} {w : World} {base : Nat} {ao : Option Addr} {cap : Nat} {xs : List Int} (h : OwnI w base ao cap xs) (hp : p < base) : IntsO p w (.slice ao xs.length cap) xs := ⟨_, _, rfl, h.ints, fun _ => h.away hp⟩

theorem own_shape {w : World} {base e size n : Nat} {v : Value} {xs : List Value} (h : w.ownsRow base e size v n xs) : ∃ ao cap, v = .slice ao n cap := by
  rcases h.2 with ⟨rfl, rfl⟩ | ⟨g, cap, _, rfl, _⟩
  · exact ⟨none, 0, rfl⟩
  · exact ⟨_, cap, rfl⟩

/-- 'append(out, x)', out a slice of ints of the call's own: w0 is a world in which out is owned, w the one behind the block of x. -/
theorem wpList_appI {P : Program} {w0 w : World} {ops : Array Oper} {rest : List Oper} {o : Oper} {a : Act} {Q : Exit → Act → World → Prop} (hgd : o.guard = none) (s x : Operand) (t : TypeId)
    (ho : o.op = .call { callee := .builtin .append, args := #[s, x], argTypes := #[t, t] })
    (ht : P.underlying t = some (.slice 3)) (hinfo : (P.info? 3).map (fun i => (i.zero, i.size, i.bytes)) = some (some (.int .i64 0), 1, 8))
    (base : Nat) (ao : Option Addr) (cap : Nat) (xs : List Int) (g : Nat) (y : Int) (hs : a.eval s = .slice ao xs.length cap) (hx : a.eval x = .slice (some ⟨g, 0, none⟩) 1 1)
    (hown : OwnI w0 base ao cap xs) (hw : Ex w0.heap.size none w0 w) (hcell : w.cell? ⟨g, 0, none⟩ = some (.int .i64 y)) (hlen : xs.length ≤ 1000000000000) (hbase : base ≤ w0.heap.size)
    (h : ∀ ao' cap' w', OwnI w' base ao' cap' (xs ++ [y]) → Ex base none w0 w' → wpList P ops Q rest (a.put o.dst (.slice ao' (xs.length + 1) cap')) w') : wpList P ops Q (o :: rest) a w := by
  obtain ⟨i0, hi, hz0, hz1, hz2⟩ := info_parts hinfo
  have hown' : OwnI w base ao cap xs := hown.keep hw (Nat.le_refl _) (by simp)
  have hsz := hw.size
  refine wpList_append_own _ hgd s x t ho base 3 i0 (.int .i64 0) 1 8 ht hi hz0 hz1 hz2 rfl (by decide) _ _ _ hs hown' ⟨g, 0, none⟩ 1 1 [.int .i64 y] hx rfl ?_ ?_ (by simp only [maxLen]; omega) (by omega) (by omega) ?_
  · intro j u hj
    match j, hj with
    | 0, hj => simp at hj; subst hj; simpa [Addr.add] using hcell
  · intro u hu; simp at hu; subst hu; rfl
  · intro v' w' ho' hg _
    obtain ⟨ao', cap', rfl⟩ := own_shape ho'
    refine h ao' cap' w' ?_ ((hw.mono hbase).grown hg (by omega) ?_)
    · simpa [OwnI] using ho'
    · intro k hk
      have := World.ownsRow.lt hown' k hk
      exact this.1

theorem run_append_none {P : Program} {w : World} (base : Nat) (t ty e : TypeId) (i : TypeInfo) (size : Nat) (ht : P.underlying t = some (.slice e)) (hi : P.info? e = some i)
    (v : Value) (n c : Nat) (xs : List Value) (hown : w.ownsRow base e size v n xs) :
    (Builtin.append_ #[t, t] ty #[v, .slice none 0 c]).run P w = .ok v w := by
  rcases hown.2 with ⟨rfl, rfl⟩ | ⟨g, cap, cur, rfl, _, _, hnc, _⟩
  · simp [Builtin.append_, run_underlying ht, sizeOf, typeInfo, hi, Builtin.lenOf, Builtin.firstCells]
  · simp [Builtin.append_, run_underlying ht, sizeOf, typeInfo, hi, Builtin.lenOf, Builtin.firstCells, hnc, storeCells]

/-- 'append(out, src...)', out a slice of ints of the call's own, src a slice that reads as ys. -/
theorem wpList_appIs {P : Program} {w0 w : World} {ops : Array Oper} {rest : List Oper} {o : Oper} {a : Act} {Q : Exit → Act → World → Prop} (hgd : o.guard = none) (s x : Operand) (t : TypeId)
    (ho : o.op = .call { callee := .builtin .append, args := #[s, x], argTypes := #[t, t] })
    (ht : P.underlying t = some (.slice 3)) (hinfo : (P.info? 3).map (fun i => (i.zero, i.size, i.bytes)) = some (some (.int .i64 0), 1, 8))
    (base : Nat) (ao : Option Addr) (cap : Nat) (xs ys : List Int) (v u : Value) (n : Nat) (hn : n = xs.length) (hv : v = .slice ao n cap) (hs : a.eval s = v) (hx : a.eval x = u) (hu : Ints w u ys)
    (hown : OwnI w0 base ao cap xs) (hw : Ex w0.heap.size none w0 w) (hlen : xs.length + ys.length ≤ 1000000000000) (hbase : base ≤ w0.heap.size)
    (h : ∀ ao' cap' w', OwnI w' base ao' cap' (xs ++ ys) → Ex base none w0 w' → wpList P ops Q rest (a.put o.dst (.slice ao' (xs.length + ys.length) cap')) w') : wpList P ops Q (o :: rest) a w := by
  subst hn
  obtain ⟨i0, hi, hz0, hz1, hz2⟩ := info_parts hinfo
  have hown' : OwnI w base ao cap xs := hown.keep hw (Nat.le_refl _) (by simp)
  have hsz := hw.size
  subst hv
  obtain ⟨so, sc, rfl, hr⟩ := hu
  cases so with
  | none =>
    have hy : ys = [] := by
      cases ys with
      | nil => rfl
      | cons y r => obtain ⟨b, off, e, _⟩ := hr 0 (by simp); cases e
    subst hy
    refine wpList_plain hgd fun K hK => ?_
    have hrun := run_append_none (P := P) (w := w) base t o.type 3 i0 1 ht hi _ _ sc _ hown'
    unfold Oper.wp
    simp only [List.length_nil] at hx
    simp [execOp, ho, resolve, invoke, builtin, hs, hx, hrun, Result.andThen]
    exact hK _ _ (by simpa using h ao cap w (by simpa using hown') (hw.mono hbase))
  | some ad =>
    refine wpList_append_own _ hgd s x t ho base 3 i0 (.int .i64 0) 1 8 ht hi hz0 hz1 hz2 rfl (by decide) _ _ _ hs hown' ad ys.length sc (ys.map (Value.int .i64)) hx (by simp) ?_ (ints_oneCell _ _) (by simp only [maxLen]; omega) (by omega) (by omega) ?_
    · intro j u hj
      have hjl : j < ys.length := by
        have := (List.getElem?_eq_some_iff.1 hj).1
        simpa using this
      obtain ⟨b, off, e, hc⟩ := hr j hjl
      cases e
      rw [Addr.add_lit, hc j hjl]
      rw [← hj]; simp [List.getD, hjl]
    · intro v' w' ho' hg _
      obtain ⟨ao', cap', rfl⟩ := own_shape ho'
      refine h ao' cap' w' ?_ ((hw.mono hbase).grown hg (by omega) ?_)
      · simpa [OwnI] using ho'
      · intro k hk
        exact (World.ownsRow.lt hown' k hk).1

theorem OwnI.empty {base : Nat} (w : World) (hb : base ≤ w.heap.size) : OwnI (w.alloc (.cells #[] 3)) base (some ⟨w.heap.size, 0, none⟩) 0 [] := World.ownsRow_lit w #[] 0 hb (by decide) rfl

theorem take_succ_getD (xs : List Int) (k : Nat) (h : k < xs.length) : xs.take (k + 1) = xs.take k ++ [xs.getD k 0] := by
  rw [List.take_add_one, List.getElem?_eq_getElem h]; simp [List.getD, h]

theorem drewN_add (w : World) (n m : Nat) : (w.drewN n).drewN m = w.drewN (n + m) := by simp [World.drewN, Nat.add_assoc]

theorem ret_int {k : IntKind} {a b : Int} (h : a = b) : Ending.returned (.int k a) = .returned (.int k b) := by rw [h]
theorem ret_bool {a b : Bool} (h : a = b) : Ending.returned (.bool a) = .returned (.bool b) := by rw [h]
end Go.Proofs.YtdgfankkapeclaaGreat

namespace Go.Proofs.YtdgfankkapeclaaGreat
open Go.RowKit Go.Maps

theorem Tryz.laidOut : laidOutB Tryz.prog = true := by kernel_rfl
theorem Tryz.rowLoss : (156 : TypeId) < Tryz.prog.types.size := of_decide_eq_true (by kernel_rfl)
theorem Tryz.cellsLoss : Tryz.prog.cellsOf 156 = 2 := by kernel_rfl
theorem Tryz.cellsInt : Tryz.prog.cellsOf 3 = 1 := by kernel_rfl
theorem Tryz.deepLoss : Tryz.prog.keyType 156 = true := by kernel_rfl
theorem Tryz.wideLoss : (match Tryz.prog.underlying 156 with | some (.array _ _) | some (.struct _) => true | _ => false) = true := by rw [Tryz.underlying156]
set_option maxRecDepth 100000 in
theorem Tryz.lawLoss : WideMaps.KeyLaw Tryz.prog 156 := deep_law_laid Tryz.laidOut (m := 2) (by omega) Tryz.rowLoss (by kernel_rfl) Tryz.wideLoss
theorem Tryz.keyedLoss : Keyed Tryz.prog 156 := Keyed.of_law Tryz.lawLoss
/-- What a key reads as. -/
def keyL (k a : Int) : Lit := .string (keyBytes [.int .i64 k, .int .i64 a])
set_option maxRecDepth 100000 in
theorem keyOf_loss (k a : Int) (hk : 0 ≤ k ∧ k < 64) (ha : 0 ≤ a ∧ a < 64) : keyOf Tryz.prog 156 (.agg #[.int .i64 k, .int .i64 a]) = some (keyL k a) := by
  have w1 : (Lit.int .i64 k).wf = true := WalkArith.wf_i64 (by omega)
  have w2 : (Lit.int .i64 a).wf = true := WalkArith.wf_i64 (by omega)
  obtain ⟨m, hm⟩ : ∃ m, Tryz.prog.types.size = m + 1 := ⟨_, (Nat.succ_pred_eq_of_pos (Nat.lt_of_le_of_lt (Nat.zero_le _) Tryz.rowLoss)).symm⟩
  unfold keyOf
  simp only [Tryz.underlying156, Tryz.deepLoss, Value.formed, Tryz.cellsLoss, Bool.true_and]
  rw [hm]
  simp [Program.keyLits, Tryz.underlying156, Tryz.underlying3, Tryz.cellsLoss, Tryz.cellsInt, Value.cells, w1, w2, keyL]
end Go.Proofs.YtdgfankkapeclaaGreat

namespace Go.Proofs.YtdgfankkapeclaaGreat
open Go.RowKit Go.Maps

theorem snoc_ind {α : Type} {motive : List α → Prop} (nil : motive []) (snoc : ∀ l x, motive l → motive (l ++ [x])) (l : List α) : motive l := by
  have h : ∀ r : List α, motive r.reverse := by
    intro r
    induction r with
    | nil => simpa using nil
    | cons x r ih => simpa using snoc _ x ih
  simpa using h l.reverse
theorem keyL_isKey (k a : Int) : WideAt.IsKeyLit (keyL k a) := trivial
theorem bytes_low (n : Int) (h : 0 ≤ n ∧ n < 64) : (Lit.keyBytes (.int .i64 n)).getD 7 0 = UInt8.ofNat n.toNat := by
  obtain ⟨m, rfl⟩ : ∃ m : Nat, n = m := ⟨n.toNat, by omega⟩
  have hm : m < 64 := by omega
  clear h
  revert hm
  revert m
  decide
theorem keyL_inj {k k' a : Int} (hk : 0 ≤ k ∧ k < 64) (hk' : 0 ≤ k' ∧ k' < 64) (h : keyL k a = keyL k' a) : k = k' := by
  unfold keyL keyBytes at h
  simp only [Lit.string.injEq, List.flatMap_cons, List.flatMap_nil, List.append_nil, List.append_cancel_right_eq] at h
  have h1 := bytes_low k hk
  have h2 := bytes_low k' hk'
  rw [h, h2] at h1
  have h3 := congrArg UInt8.toNat h1
  simp only [UInt8.toNat_ofNat'] at h3
  omega
/-- The map behind the votes l (author, heir) on one lost key. -/
def mapD (a : Int) (l : List (Int × Int)) : DataW Unit := l.foldl (fun D p => D.put (keyL p.1 a) (.lit (.int .i64 p.2))) (.map [])
/-- Whom an author named last. -/
def lastOf (l : List (Int × Int)) (k : Int) : Option Int := ((l.filter fun p => decide (p.1 = k)).getLast?).map (·.2)
theorem mapD_snoc (a : Int) (l : List (Int × Int)) (p : Int × Int) : mapD a (l ++ [p]) = (mapD a l).put (keyL p.1 a) (.lit (.int .i64 p.2)) := by
  unfold mapD; rw [List.foldl_append]; rfl
theorem lastOf_snoc (l : List (Int × Int)) (p : Int × Int) (k : Int) : lastOf (l ++ [p]) k = if p.1 = k then some p.2 else lastOf l k := by
  unfold lastOf
  rw [List.filter_append]
  by_cases h : p.1 = k
  · rw [if_pos h]
    simp [h]
  · rw [if_neg h]
    simp [h]
theorem mapD_isMap (a : Int) (l : List (Int × Int)) : IsMap (mapD a l) := by
  induction l using snoc_ind with
  | nil => exact isMap_empty
  | snoc l p ih => rw [mapD_snoc]; exact ih.put _ _
theorem mapD_has {a k : Int} {l : List (Int × Int)} (hl : ∀ p ∈ l, 0 ≤ p.1 ∧ p.1 < 64) (hk : 0 ≤ k ∧ k < 64) : Maps.has (mapD a l) (keyL k a) = (lastOf l k).isSome := by
  induction l using snoc_ind with
  | nil => rfl
  | snoc l p ih =>
    have ih := ih fun q hq => hl q (by simp [hq])
    rw [mapD_snoc, lastOf_snoc]
    by_cases h : p.1 = k
    · rw [if_pos h, h, has_put_same (mapD_isMap a l) (keyL_isKey k a)]; rfl
    · rw [if_neg h, has_put_other (fun e => h (keyL_inj (hl p (by simp)) hk e.symm)), ih]
theorem mapD_at {a k : Int} {l : List (Int × Int)} (hl : ∀ p ∈ l, 0 ≤ p.1 ∧ p.1 < 64) (hk : 0 ≤ k ∧ k < 64) : (mapD a l).atKey (keyL k a) (.lit (.int .i64 0)) = .lit (.int .i64 ((lastOf l k).getD 0)) := by
  induction l using snoc_ind with
  | nil => rfl
  | snoc l p ih =>
    have ih := ih fun q hq => hl q (by simp [hq])
    rw [mapD_snoc, lastOf_snoc]
    by_cases h : p.1 = k
    · rw [if_pos h, h, atKey_put_same (mapD_isMap a l) (keyL_isKey k a)]; rfl
    · rw [if_neg h, atKey_put_other (fun e => h (keyL_inj (hl p (by simp)) hk e.symm)), ih]
/-- Who has named 'next' last, of the first n keys. -/
def voicesL (l : List (Int × Int)) (next : Int) (n : Nat) : List Int := ((List.range n).filter fun (k : Nat) => decide (lastOf l (k : Int) = some next)).map fun (k : Nat) => (k : Int)
theorem voicesL_succ (l : List (Int × Int)) (next : Int) (n : Nat) : voicesL l next (n + 1) = voicesL l next n ++ (if lastOf l (n : Int) = some next then [(n : Int)] else []) := by
  unfold voicesL
  rw [List.range_succ, List.filter_append, List.map_append]
  by_cases h : lastOf l (n : Int) = some next <;> simp [h]
theorem voicesL_len (l : List (Int × Int)) (next : Int) (n : Nat) : (voicesL l next n).length ≤ n := by
  unfold voicesL
  have := List.length_filter_le (fun k => decide (lastOf l ((k : Nat) : Int) = some next)) (List.range n)
  simp only [List.length_map, List.length_range] at *
  omega
end Go.Proofs.YtdgfankkapeclaaGreat

namespace Go.Proofs.YtdgfankkapeclaaGreat
open Go.RowKit Go.Maps

theorem keyBytes_len (n : Int) (h : 0 ≤ n ∧ n < 64) : (Lit.keyBytes (.int .i64 n)).length = (Lit.keyBytes (.int .i64 0)).length := by
  obtain ⟨m, rfl⟩ : ∃ m : Nat, n = m := ⟨n.toNat, by omega⟩
  have hm : m < 64 := by omega
  clear h
  revert hm
  revert m
  decide
theorem keyBytes_inj {k k' : Int} (hk : 0 ≤ k ∧ k < 64) (hk' : 0 ≤ k' ∧ k' < 64) (h : Lit.keyBytes (.int .i64 k) = Lit.keyBytes (.int .i64 k')) : k = k' := by
  have h1 := bytes_low k hk
  have h2 := bytes_low k' hk'
  rw [h, h2] at h1
  have h3 := congrArg UInt8.toNat h1
  simp only [UInt8.toNat_ofNat'] at h3
  omega
theorem keyL_inj2 {k k' a a' : Int} (hk : 0 ≤ k ∧ k < 64) (hk' : 0 ≤ k' ∧ k' < 64) (ha : 0 ≤ a ∧ a < 64) (ha' : 0 ≤ a' ∧ a' < 64) (h : keyL k a = keyL k' a') : k = k' ∧ a = a' := by
  unfold keyL keyBytes at h
  simp only [Lit.string.injEq, List.flatMap_cons, List.flatMap_nil, List.append_nil] at h
  obtain ⟨h1, h2⟩ := List.append_inj h (by rw [keyBytes_len k hk, keyBytes_len k' hk'])
  exact ⟨keyBytes_inj hk hk' h1, keyBytes_inj ha ha' h2⟩
/-- A vote: author, lost key, heir. -/
abbrev Vote := Int × Int × Int
/-- The votes on one lost key. -/
def onLost (l : List Vote) (a : Int) : List (Int × Int) := (l.filter fun p => decide (p.2.1 = a)).map fun p => (p.1, p.2.2)
theorem onLost_snoc (l : List Vote) (p : Vote) (a : Int) : onLost (l ++ [p]) a = onLost l a ++ (if p.2.1 = a then [(p.1, p.2.2)] else []) := by
  unfold onLost
  rw [List.filter_append, List.map_append]
  by_cases h : p.2.1 = a <;> simp [h]
theorem onLost_mem {l : List Vote} {a : Int} {q : Int × Int} (h : q ∈ onLost l a) : (q.1, a, q.2) ∈ l := by
  unfold onLost at h
  simp only [List.mem_map, List.mem_filter, decide_eq_true_eq] at h
  obtain ⟨p, ⟨hp, rfl⟩, rfl⟩ := h
  exact hp
/-- The map behind votes. -/
def mapG (l : List Vote) : DataW Unit := l.foldl (fun D p => D.put (keyL p.1 p.2.1) (.lit (.int .i64 p.2.2))) (.map [])
theorem mapG_snoc (l : List Vote) (p : Vote) : mapG (l ++ [p]) = (mapG l).put (keyL p.1 p.2.1) (.lit (.int .i64 p.2.2)) := by
  unfold mapG; rw [List.foldl_append]; rfl
theorem mapG_isMap (l : List Vote) : IsMap (mapG l) := by
  induction l using snoc_ind with
  | nil => exact isMap_empty
  | snoc l p ih => rw [mapG_snoc]; exact ih.put _ _
/-- Keys that are keys. -/
def KeysOK (l : List Vote) : Prop := ∀ p ∈ l, (0 ≤ p.1 ∧ p.1 < 64) ∧ 0 ≤ p.2.1 ∧ p.2.1 < 64
theorem mapG_other {l : List Vote} {p : Vote} {k a : Int} (hl : KeysOK (l ++ [p])) (hk : 0 ≤ k ∧ k < 64) (ha : 0 ≤ a ∧ a < 64) (h : ¬ (p.1 = k ∧ p.2.1 = a)) : keyL k a ≠ keyL p.1 p.2.1 := fun e => by
  have hp := hl p (by simp)
  obtain ⟨e1, e2⟩ := keyL_inj2 hk hp.1 ha hp.2 e
  exact h ⟨e1.symm, e2.symm⟩
theorem mapG_has {a k : Int} {l : List Vote} (hl : KeysOK l) (hk : 0 ≤ k ∧ k < 64) (ha : 0 ≤ a ∧ a < 64) : Maps.has (mapG l) (keyL k a) = (lastOf (onLost l a) k).isSome := by
  induction l using snoc_ind with
  | nil => rfl
  | snoc l p ih =>
    have ih := ih fun q hq => hl q (by simp [hq])
    rw [mapG_snoc, onLost_snoc]
    by_cases h2 : p.2.1 = a
    · rw [if_pos h2, lastOf_snoc]
      by_cases h : p.1 = k
      · rw [if_pos h, h, h2, has_put_same (mapG_isMap l) (keyL_isKey k a)]; rfl
      · rw [if_neg h, has_put_other (mapG_other hl hk ha (fun e => h e.1)), ih]
    · rw [if_neg h2, List.append_nil, has_put_other (mapG_other hl hk ha (fun e => h2 e.2)), ih]
theorem mapG_at {a k : Int} {l : List Vote} (hl : KeysOK l) (hk : 0 ≤ k ∧ k < 64) (ha : 0 ≤ a ∧ a < 64) : (mapG l).atKey (keyL k a) (.lit (.int .i64 0)) = .lit (.int .i64 ((lastOf (onLost l a) k).getD 0)) := by
  induction l using snoc_ind with
  | nil => rfl
  | snoc l p ih =>
    have ih := ih fun q hq => hl q (by simp [hq])
    rw [mapG_snoc, onLost_snoc]
    by_cases h2 : p.2.1 = a
    · rw [if_pos h2, lastOf_snoc]
      by_cases h : p.1 = k
      · rw [if_pos h, h, h2, atKey_put_same (mapG_isMap l) (keyL_isKey k a)]; rfl
      · rw [if_neg h, atKey_put_other (mapG_other hl hk ha (fun e => h e.1)), ih]
    · rw [if_neg h2, List.append_nil, atKey_put_other (mapG_other hl hk ha (fun e => h2 e.2)), ih]
end Go.Proofs.YtdgfankkapeclaaGreat

namespace Go.Proofs.YtdgfankkapeclaaGreat
open Go.RowKit

/-- How values are held: k cells each; R P w cs x: in the world w the cells cs hold x, and all blocks that they lead to satisfy P. -/
structure Rep (α : Type) where
  k : Nat
  R : (Nat → Prop) → World → List Value → α → Prop
  len : ∀ {P w cs x}, R P w cs x → cs.length = k
  one : ∀ {P w cs x}, R P w cs x → ∀ v ∈ cs, v.oneCell' = true
  keep : ∀ {P w w' cs x}, R P w cs x → (∀ b, P b → b < w.heap.size → w'.heap[b]? = w.heap[b]?) → R P w' cs x
  mono : ∀ {P P' w cs x}, R P w cs x → (∀ b, P b → b < w.heap.size → P' b) → R P' w cs x

def intRep : Rep Int where
  k := 1
  R := fun _ _ cs n => cs = [.int .i64 n]
  len := fun h => by subst h; rfl
  one := fun h => by subst h; intro v hv; simp at hv; subst hv; rfl
  keep := fun h _ => h
  mono := fun h _ => h

def strRep : Rep ByteArray where
  k := 1
  R := fun _ _ cs s => cs = [.string s]
  len := fun h => by subst h; rfl
  one := fun h => by subst h; intro v hv; simp at hv; subst hv; rfl
  keep := fun h _ => h
  mono := fun h _ => h

section
variable {α : Type} (r : Rep α)

/-- The slice at 'ao' with 'xs.length' elements reads as xs. -/
def SlAt (P : Nat → Prop) (w : World) (ao : Option Addr) (xs : List α) : Prop :=
  ∀ i (h : i < xs.length), ∃ b off cs, ao = some ⟨b, off, none⟩ ∧ P b ∧ w.rangeAt b (off + i * r.k) cs ∧ r.R P w cs xs[i]
def Sl (P : Nat → Prop) (w : World) (v : Value) (xs : List α) : Prop := ∃ ao cap, v = .slice ao xs.length cap ∧ SlAt r P w ao xs

variable {r}
theorem rangeAt_lt {w : World} {b o : Nat} {cs : List Value} (h : w.rangeAt b o cs) (hc : 0 < cs.length) : b < w.heap.size :=
  World.block_lt_of_cell? w ⟨b, o + 0, none⟩ (h 0 cs[0] (by simp [hc]))
theorem rangeAt_keep {w w' : World} {b o : Nat} {cs : List Value} (h : w.rangeAt b o cs) (hb : w'.heap[b]? = w.heap[b]?) : w'.rangeAt b o cs := fun j v hv =>
  (World.cell?_of_block (w := w) (a := ⟨b, o + j, none⟩) hb).trans (h j v hv)
theorem SlAt.keep {P : Nat → Prop} {w w' : World} {ao : Option Addr} {xs : List α} (h : SlAt r P w ao xs) (hk : 0 < r.k) (hx : ∀ b, P b → b < w.heap.size → w'.heap[b]? = w.heap[b]?) : SlAt r P w' ao xs := by
  intro i hi
  obtain ⟨b, off, cs, e, hp, hr, hR⟩ := h i hi
  exact ⟨b, off, cs, e, hp, rangeAt_keep hr (hx b hp (rangeAt_lt hr (by rw [r.len hR]; exact hk))), r.keep hR hx⟩
theorem SlAt.mono {P P' : Nat → Prop} {w : World} {ao : Option Addr} {xs : List α} (h : SlAt r P w ao xs) (hk : 0 < r.k) (hx : ∀ b, P b → b < w.heap.size → P' b) : SlAt r P' w ao xs := by
  intro i hi
  obtain ⟨b, off, cs, e, hp, hr, hR⟩ := h i hi
  exact ⟨b, off, cs, e, hx b hp (rangeAt_lt hr (by rw [r.len hR]; exact hk)), hr, r.mono hR hx⟩
theorem SlAt.nil (P : Nat → Prop) (w : World) (ao : Option Addr) : SlAt r P w ao [] := fun i hi => by cases hi
theorem SlAt.get {P : Nat → Prop} {w : World} {ao : Option Addr} {xs : List α} (h : SlAt r P w ao xs) (i : Nat) (hi : i < xs.length) : ∃ b off cs x, ao = some ⟨b, off, none⟩ ∧ P b ∧ w.rangeAt b (off + i * r.k) cs ∧ r.R P w cs x ∧ Hid (xs[i]? = some x) := by
  obtain ⟨b, off, cs, e, hp, hr, hR⟩ := h i hi
  exact ⟨b, off, cs, xs[i], e, hp, hr, hR, by show _ = _; simp [hi]⟩
theorem Sl.at' {P : Nat → Prop} {w : World} {ao : Option Addr} {n cap : Nat} {xs : List α} (h : Sl r P w (.slice ao n cap) xs) : SlAt r P w ao xs := by
  obtain ⟨ao', cap', e, h⟩ := h
  cases e; exact h
theorem Sl.keep {P : Nat → Prop} {w w' : World} {v : Value} {xs : List α} (h : Sl r P w v xs) (hk : 0 < r.k) (hx : ∀ b, P b → b < w.heap.size → w'.heap[b]? = w.heap[b]?) : Sl r P w' v xs := by
  obtain ⟨ao, cap, e, h⟩ := h
  exact ⟨ao, cap, e, h.keep hk hx⟩
theorem Sl.mono {P P' : Nat → Prop} {w : World} {v : Value} {xs : List α} (h : Sl r P w v xs) (hk : 0 < r.k) (hx : ∀ b, P b → b < w.heap.size → P' b) : Sl r P' w v xs := by
  obtain ⟨ao, cap, e, h⟩ := h
  exact ⟨ao, cap, e, h.mono hk hx⟩
theorem Sl.nil (P : Nat → Prop) (w : World) : Sl r P w (.slice none 0 0) ([] : List α) := ⟨none, 0, rfl, SlAt.nil _ _ _⟩
theorem SlAt.take {P : Nat → Prop} {w : World} {ao : Option Addr} {xs : List α} (h : SlAt r P w ao xs) (n : Nat) : SlAt r P w ao (xs.take n) := by
  intro i hi
  have hi' : i < xs.length := by simp at hi; omega
  obtain ⟨b, off, cs, e, hp, hr, hR⟩ := h i hi'
  exact ⟨b, off, cs, e, hp, hr, by simpa using hR⟩
theorem SlAt.drop {P : Nat → Prop} {w : World} {b off : Nat} {xs : List α} (h : SlAt r P w (some ⟨b, off, none⟩) xs) (n : Nat) : SlAt r P w (some ⟨b, off + n * r.k, none⟩) (xs.drop n) := by
  intro i hi
  have hi' : n + i < xs.length := by simp at hi; omega
  obtain ⟨b', off', cs, e, hp, hr, hR⟩ := h (n + i) hi'
  cases e
  exact ⟨b, _, cs, rfl, hp, by rw [show off + n * r.k + i * r.k = off + (n + i) * r.k by rw [Nat.add_mul]; omega]; exact hr, by simpa using hR⟩

/-- A slice as a value that is held in a cell. -/
def slRep (r : Rep α) (hk : 0 < r.k) : Rep (List α) where
  k := 1
  R := fun P w cs xs => ∃ v, cs = [v] ∧ Sl r P w v xs
  len := fun ⟨v, h, _⟩ => by subst h; rfl
  one := fun ⟨v, h, hs⟩ => by
    subst h; intro u hu; simp at hu; subst hu
    obtain ⟨ao, cap, e, _⟩ := hs
    subst e; rfl
  keep := fun ⟨v, h, hs⟩ hx => ⟨v, h, hs.keep hk hx⟩
  mono := fun ⟨v, h, hs⟩ hx => ⟨v, h, hs.mono hk hx⟩
end
end Go.Proofs.YtdgfankkapeclaaGreat

namespace Go.Proofs.YtdgfankkapeclaaGreat
open Go.RowKit

theorem Tryz.infoInt : (Tryz.prog.info? 3).map (fun i => (i.zero, i.size, i.bytes)) = some (some (.int .i64 0), 1, 8) := by kernel_rfl
end Go.Proofs.YtdgfankkapeclaaGreat

namespace Go.Proofs.YtdgfankkapeclaaGreat

def hasI (xs : List Int) (x : Int) : Bool := xs.contains x
theorem hasI_nil (x : Int) : hasI [] x = false := rfl
theorem hasI_iff {xs : List Int} {x : Int} : hasI xs x = true ↔ x ∈ xs := by simp [hasI]
theorem hasI_not {xs : List Int} {x : Int} : hasI xs x = false ↔ x ∉ xs := by simp [hasI]
theorem hasI_snoc (xs : List Int) (y x : Int) : hasI (xs ++ [y]) x = (hasI xs x || y == x) := by
  unfold hasI; rw [Bool.eq_iff_iff]; simp [List.mem_append, Bool.or_eq_true, @eq_comm _ x y]
theorem hasI_take_none {xs : List Int} {x : Int} (h : hasI (xs.take xs.length) x = false) : hasI xs x = false := by simpa using h
theorem hasI_get {xs : List Int} {x : Int} {k : Nat} (hk : k < xs.length) (h : xs.getD k 0 = x) : hasI xs x = true := by
  rw [hasI_iff]; subst h; simp [List.getD, hk]
theorem take_snoc (xs : List Int) (k : Nat) (h : k < xs.length) : xs.take (k + 1) = xs.take k ++ [xs.getD k 0] := by
  rw [List.take_add_one, List.getElem?_eq_getElem h]; simp [List.getD, h]
theorem hasI_take_succ {xs : List Int} {x : Int} {k : Nat} (hk : k < xs.length) (h : hasI (xs.take k) x = false) (hne : xs.getD k 0 ≠ x) : hasI (xs.take (k + 1)) x = false := by
  rw [take_snoc xs k hk, hasI_snoc, h]; simpa using hne

/-- 0 .. n-1 for which c holds. -/
def keysTo (c : Int → Bool) : Nat → List Int
  | 0 => []
  | k + 1 => keysTo c k ++ (if c k then [(k : Int)] else [])
theorem keysTo_le (c : Int → Bool) (k : Nat) : (keysTo c k).length ≤ k := by
  induction k with
  | zero => simp [keysTo]
  | succ k ih => simp only [keysTo, List.length_append]; split <;> simp <;> omega
theorem mem_keysTo {c : Int → Bool} {n : Nat} {x : Int} : x ∈ keysTo c n ↔ 0 ≤ x ∧ x < n ∧ c x = true := by
  induction n with
  | zero => simp [keysTo]; omega
  | succ k ih =>
    simp only [keysTo, List.mem_append, ih]
    constructor
    · rintro (⟨a, b, d⟩ | h)
      · exact ⟨a, by omega, d⟩
      · split at h
        · simp at h; subst h; refine ⟨by omega, by omega, ?_⟩; assumption
        · simp at h
    · rintro ⟨a, b, d⟩
      by_cases e : x < k
      · exact Or.inl ⟨a, e, d⟩
      · have : x = k := by omega
        subst this; right; simp [d]
def joinI (a b : List Int) : List Int := keysTo (fun k => hasI a k || hasI b k) 64
def minusI (a b : List Int) : List Int := keysTo (fun k => hasI a k && !hasI b k) 64

/-- n modulo m, from 0 on. -/
def modI (n m : Int) : Int := if m < 1 then 0 else n % m
theorem modI_pos {n m : Int} (h : 1 ≤ m) : modI n m = n % m := by unfold modI; rw [if_neg (by omega)]
theorem modI_bd {n m : Int} (h : 1 ≤ m) : 0 ≤ modI n m ∧ modI n m < m := by
  rw [modI_pos h]; exact ⟨Int.emod_nonneg _ (by omega), Int.emod_lt_of_pos _ (by omega)⟩

/-- Dice: the numbers that are left. -/
def dVal (d : List Int) (n : Int) : Int := match d with | [] => 0 | x :: _ => modI x n
theorem dVal_bd {d : List Int} {n : Int} (h : 1 ≤ n) : 0 ≤ dVal d n ∧ dVal d n < n := by
  cases d with
  | nil => simp [dVal]; omega
  | cons x r => exact modI_bd h
def someTo (d : List Int) : Nat → List Int × List Int
  | 0 => ([], d)
  | k + 1 => ((someTo d k).1 ++ (if dVal (someTo d k).2 3 = 0 then [(k : Int)] else []), (someTo d k).2.tail)
theorem someTo_le (d : List Int) (k : Nat) : (someTo d k).1.length ≤ k := by
  induction k with
  | zero => simp [someTo]
  | succ k ih => simp only [someTo, List.length_append]; split <;> simp <;> omega
/-- Some keys below n, at least one: the keys, and what is left of the dice. -/
def keysD (d : List Int) (n : Int) : List Int × List Int :=
  if (someTo d n.toNat).1 = [] then ([dVal (someTo d n.toNat).2 n], (someTo d n.toNat).2.tail) else someTo d n.toNat

/-- The first newcomers of an order. -/
def newcTo (xs old : List Int) (q : Int) : Nat → List Int
  | 0 => []
  | k + 1 => if ((newcTo xs old q k).length : Int) < q ∧ hasI old (xs.getD k 0) = false ∧ hasI (newcTo xs old q k) (xs.getD k 0) = false then newcTo xs old q k ++ [xs.getD k 0] else newcTo xs old q k
def newc (xs old : List Int) (q : Int) : List Int := newcTo xs old q xs.length
theorem newcTo_le (xs old : List Int) (q : Int) (k : Nat) : (newcTo xs old q k).length ≤ k := by
  induction k with
  | zero => simp [newcTo]
  | succ k ih =>
    rw [newcTo]; split
    · rw [List.length_append]; simp; omega
    · omega
/-- When there are enough, nobody comes any more. -/
theorem newcTo_full {xs old : List Int} {q : Int} {k : Nat} (h : q ≤ ((newcTo xs old q k).length : Int)) (j : Nat) (hj : k ≤ j) : newcTo xs old q j = newcTo xs old q k := by
  induction j with
  | zero => have : k = 0 := by omega
            subst this; rfl
  | succ j ih =>
    by_cases e : k = j + 1
    · subst e; rfl
    · have := ih (by omega)
      rw [newcTo, this, if_neg (by omega)]
def fitsI (old next : List Int) (q : Int) : Bool := decide (((newc next old next.length).length : Int) ≤ q)
def thereTo (g ks : List Int) : Nat → Nat
  | 0 => 0
  | k + 1 => thereTo g ks k + (if hasI g (ks.getD k 0) then 1 else 0)
theorem thereTo_le (g ks : List Int) (k : Nat) : thereTo g ks k ≤ k := by
  induction k with
  | zero => simp [thereTo]
  | succ k ih => simp only [thereTo]; split <;> omega
def mostI (g ks : List Int) (e q : Int) : Int := min (ks.length : Int) (thereTo g ks ks.length + e * q)
end Go.Proofs.YtdgfankkapeclaaGreat

namespace Go.Proofs.YtdgfankkapeclaaGreat
open Go.RowKit

set_option maxHeartbeats 400000 in
theorem refHas_any (v1 : Value) (xs : List Int) (x : Int) (w : World) (hv1 : Ints w v1 xs) (hm : xs.length ≤ 9223372036854775807) :
    Calls Tryz.prog 20 #[v1, .int .i64 x] w fun e w' => e = .returned (.bool (hasI xs x)) ∧ w = w' := by
  obtain ⟨ao, cap, rfl, hx⟩ := hv1
  go_enter Tryz.func20, Tryz.ntmps20
  go_wp2
  go_loop [5] (fun i => ∃ k : Nat, k ≤ xs.length ∧ i = .int .i64 k ∧ hasI (xs.take k) x = false) (fun i => xs.length - (intOf i).toNat)
  case atStart => exact ⟨0, Nat.zero_le _, rfl, rfl⟩
  case round =>
    obtain ⟨k, hk, rfl, hno⟩ := hrel
    have HN := Lib.hid hno
    clear hno
    by_cases hlt : k < xs.length
    · obtain ⟨b, off, y, rfl, hck, HY⟩ := hx.get k hlt
      by_cases he : y = x
      · have hb : (y == x) = true := by simpa using he
        have HR := Lib.hid (hasI_get hlt (HY.out.trans he))
        clear he
        go_wp2
        go_ret
        exact ⟨by rw [HR.out]; rfl, rfl⟩
      · have hb : (y == x) = false := by simpa using he
        have HR := Lib.hid (hasI_take_succ hlt HN.out (by rw [HY.out]; exact he))
        clear he
        go_wp2
        go_round
        case rel => exact ⟨k + 1, by omega, by go_num, HR.out⟩
        case measure => simp [intOf]; omega
    · have HR : Hid (hasI xs x = false) := by
        have h := HN.out
        rwa [List.take_of_length_le (by omega)] at h
      go_wp2
      go_ret
      exact ⟨by rw [HR.out]; rfl, rfl⟩

end Go.Proofs.YtdgfankkapeclaaGreat

namespace Go.Proofs.YtdgfankkapeclaaGreat
open Go.RowKit

def okAt (xs : List Int) (i : Nat) : Bool := decide (0 ≤ xs.getD i 0) && decide (xs.getD i 0 < 64) && (decide (i = 0) || decide (xs.getD (i - 1) 0 < xs.getD i 0))
def okTo (xs : List Int) (n : Nat) : Bool := (List.range n).all (okAt xs)
theorem okTo_succ (xs : List Int) (n : Nat) : okTo xs (n + 1) = (okTo xs n && okAt xs n) := by simp [okTo, List.range_succ]
theorem okTo_no {xs : List Int} {n m : Nat} (hn : n < m) (h : okAt xs n = false) : okTo xs m = false := by
  simp only [okTo, List.all_eq_false, List.mem_range]
  exact ⟨n, hn, by simp [h]⟩
/-- Ascending keys, one at least. -/
def validI (xs : List Int) : Bool := decide (0 < xs.length) && decide (xs.length ≤ 64) && okTo xs xs.length

set_option maxHeartbeats 4000000 in
set_option maxRecDepth 100000 in
theorem refValid24_any (v : Value) (xs : List Int) (w : World) (hv : Ints w v xs) (hm : xs.length ≤ 1000000) :
    Calls Tryz.prog 125 #[v] w fun e w' => e = .returned (.bool (validI xs)) ∧ Ex w.heap.size none w w' := by
  obtain ⟨ao, cap, rfl, hx⟩ := hv
  have HX := Lib.hid hx
  clear hx
  by_cases hz : xs.length = 0
  · have hzd : ((xs.length : Int) == 0) = true := by simp [hz]
    have HK : Hid (validI xs = false) := by show _ = _; simp [validI, hz]
    clear hz
    go_enter Tryz.func125, Tryz.ntmps125
    go_wp2
    go_ret
    exact ⟨by rw [HK.out]; rfl, Ex.refl _ _ _⟩
  have hzd : ((xs.length : Int) == 0) = false := by simp; intro h; rw [h] at hz; exact hz rfl
  by_cases h64 : 64 < xs.length
  · have h64d : decide (64 < xs.length) = true := decide_eq_true h64
    have HK : Hid (validI xs = false) := by show _ = _; simp [validI, show ¬ xs.length ≤ 64 by omega]
    clear hz
    go_enter Tryz.func125, Tryz.ntmps125
    go_wp2
    go_ret
    exact ⟨by rw [HK.out]; rfl, Ex.refl _ _ _⟩
  have h64d : decide (64 < xs.length) = false := decide_eq_false h64
  have hpos : 0 < xs.length := by omega
  clear hz
  go_enter Tryz.func125, Tryz.ntmps125
  go_wp2
  go_loopw [3] (fun i wr => ∃ k : Nat, k ≤ xs.length ∧ i = .int .i64 k ∧ Hid (okTo xs k = true) ∧ Ex w.heap.size none w wr) (fun i _ => xs.length - (intOf i).toNat)
  case atStart => exact ⟨0, Nat.zero_le _, rfl, rfl, Ex.refl _ _ _⟩
  case round =>
    obtain ⟨k, hk, rfl, HT, hex⟩ := hrel
    have hsz := hex.size
    by_cases hlt : k < xs.length
    · obtain ⟨b, off, y, rfl, c0, HY⟩ := (HX.out.keep hex (Nat.le_refl _) (by simp)).get k hlt
      have HW := Lib.hid hex
      clear hex
      by_cases h1 : y < 0
      · have h1d : decide (y < 0) = true := decide_eq_true h1
        have h1n : ¬ 0 ≤ y := by omega
        have HK : Hid (validI xs = false) := by show _ = _; simp [validI, okTo_no hlt (show okAt xs k = false by simp [-List.getD_eq_getElem?_getD, okAt, HY.out, h1n])]
        go_wp2_with fail
        go_quiet (fail)
        go_wp2
        go_ret
        exact ⟨by rw [HK.out]; rfl, by (repeat (first | exact HW.out | refine Ex.drewN ?_ | refine Ex.drew ?_ | refine Ex.setCell ?_ _ none _ (.inr hsz) | refine Ex.alloc ?_ hsz _))⟩
      have h1d : decide (y < 0) = false := decide_eq_false h1
      have h1n : 0 ≤ y := by omega
      by_cases h2 : 64 ≤ y
      · have h2d : decide (64 ≤ y) = true := decide_eq_true h2
        have h2n : ¬ y < 64 := by omega
        have HK : Hid (validI xs = false) := by show _ = _; simp [validI, okTo_no hlt (show okAt xs k = false by simp [-List.getD_eq_getElem?_getD, okAt, HY.out, h2n])]
        go_wp2_with fail
        go_quiet (fail)
        go_wp2
        go_ret
        exact ⟨by rw [HK.out]; rfl, by (repeat (first | exact HW.out | refine Ex.drewN ?_ | refine Ex.drew ?_ | refine Ex.setCell ?_ _ none _ (.inr hsz) | refine Ex.alloc ?_ hsz _))⟩
      have h2d : decide (64 ≤ y) = false := decide_eq_false h2
      have h2n : y < 64 := by omega
      by_cases h0 : k = 0
      · have h0d : decide (0 < k) = false := by simp [h0]
        have HZ := Lib.hid h0
        clear h0
        have HK : Hid (okAt xs k = true) := by show _ = _; have hy := HY.out; rw [HZ.out] at hy; simp [-List.getD_eq_getElem?_getD, okAt, hy, HZ.out, h1n, h2n]
        go_wp2_with fail
        go_quiet (fail)
        go_wp2
        go_roundw
        case rel => exact ⟨k + 1, by omega, by go_num, (show _ = _ by rw [okTo_succ, HT.out, HK.out]; rfl), by (repeat (first | exact HW.out | refine Ex.drewN ?_ | refine Ex.drew ?_ | refine Ex.setCell ?_ _ none _ (.inr hsz) | refine Ex.alloc ?_ hsz _))⟩
        case measure => simp [intOf] <;> omega
      have h0d : 0 < k := by omega
      obtain ⟨i, hi⟩ : ∃ i, i = k - 1 := ⟨_, rfl⟩
      have hw1 : IntKind.i64.wrap ((k : Int) - 1) = i := by rw [show (k : Int) - 1 = i by omega]; exact IntWalk.i64_in _ (by omega)
      have hik : (i : Int) < (xs.length : Int) := by omega
      obtain ⟨b', off', q, e', c0', HQ⟩ := (HX.out.keep HW.out (Nat.le_refl _) (by simp)).get i (by omega)
      cases e'
      have HI : Hid (xs.getD (k - 1) 0 = q) := by rw [← hi]; exact HQ
      have HZ := Lib.hid h0
      clear hi h0
      by_cases h3 : y ≤ q
      · have h3d : decide (y ≤ q) = true := decide_eq_true h3
        have h3n : ¬ q < y := by omega
        have HK : Hid (validI xs = false) := by show _ = _; simp [validI, okTo_no hlt (show okAt xs k = false by simp [-List.getD_eq_getElem?_getD, okAt, HY.out, HZ.out, HI.out, h3n])]
        go_wp2_with fail
        go_quiet (fail)
        go_wp2
        go_ret
        exact ⟨by rw [HK.out]; rfl, by (repeat (first | exact HW.out | refine Ex.drewN ?_ | refine Ex.drew ?_ | refine Ex.setCell ?_ _ none _ (.inr hsz) | refine Ex.alloc ?_ hsz _))⟩
      have h3d : decide (y ≤ q) = false := decide_eq_false h3
      have h3n : q < y := by omega
      have HK : Hid (okAt xs k = true) := by show _ = _; simp [-List.getD_eq_getElem?_getD, okAt, HY.out, HZ.out, HI.out, h1n, h2n, h3n]
      go_wp2_with fail
      go_quiet (fail)
      go_wp2
      go_roundw
      case rel => exact ⟨k + 1, by omega, by go_num, (show _ = _ by rw [okTo_succ, HT.out, HK.out]; rfl), by (repeat (first | exact HW.out | refine Ex.drewN ?_ | refine Ex.drew ?_ | refine Ex.setCell ?_ _ none _ (.inr hsz) | refine Ex.alloc ?_ hsz _))⟩
      case measure => simp [intOf] <;> omega
    · obtain rfl : k = xs.length := by omega
      have HK : Hid (validI xs = true) := by show _ = _; simp [validI, HT.out]; omega
      clear hlt
      go_wp2
      go_ret
      exact ⟨by rw [HK.out]; rfl, hex⟩
end Go.Proofs.YtdgfankkapeclaaGreat

namespace Go.Proofs.YtdgfankkapeclaaGreat
open Go.RowKit Go.Maps

theorem count_split {p q r : Nat → Bool} (h : ∀ k, p k = (q k || r k)) (hd : ∀ k, q k = true → r k = false) (l : List Nat) : l.countP p = l.countP q + l.countP r := by
  induction l with
  | nil => rfl
  | cons x l ih =>
    rw [List.countP_cons, List.countP_cons, List.countP_cons, ih, h x]
    cases hq : q x with
    | true => rw [hd x hq]; simp; omega
    | false => cases r x <;> simp <;> omega
theorem count_same {p q : Nat → Bool} {l : List Nat} (h : ∀ k ∈ l, p k = q k) : l.countP p = l.countP q := by
  induction l with
  | nil => rfl
  | cons x l ih => rw [List.countP_cons, List.countP_cons, ih fun k hk => h k (by simp [hk]), h x (by simp)]
/-- The voices for the first n keys, all together. -/
def voicesTo (l : List (Int × Int)) : Nat → Nat
  | 0 => 0
  | n + 1 => voicesTo l n + (voicesL l (n : Int) 64).length
theorem voicesL_count (l : List (Int × Int)) (next : Int) (n : Nat) : (voicesL l next n).length = (List.range n).countP fun (k : Nat) => decide (lastOf l (k : Int) = some next) := by
  unfold voicesL
  rw [List.length_map, List.countP_eq_length_filter]
/-- Whether an author has named one of the first n keys. -/
def namedB (l : List (Int × Int)) (n : Nat) (k : Nat) : Bool := match lastOf l (k : Int) with
  | none => false
  | some v => decide (0 ≤ v) && decide (v < (n : Int))
theorem voicesTo_eq (l : List (Int × Int)) (n : Nat) : voicesTo l n = (List.range 64).countP (namedB l n) := by
  induction n with
  | zero =>
    symm
    rw [voicesTo, List.countP_eq_zero]
    intro k _
    unfold namedB
    split
    · simp
    · rw [Bool.and_eq_true, decide_eq_true_eq, decide_eq_true_eq]; omega
  | succ n ih =>
    rw [voicesTo, ih, voicesL_count]
    symm
    apply count_split
    · intro k
      unfold namedB
      split
      · rename_i h; rw [h]; simp
      · rename_i v h
        rw [h]
        rw [Bool.eq_iff_iff]
        simp only [Bool.and_eq_true, decide_eq_true_eq, Bool.or_eq_true, Option.some.injEq]
        omega
    · intro k
      unfold namedB
      split
      · simp
      · rename_i v h
        rw [h]
        simp only [Bool.and_eq_true, decide_eq_true_eq, decide_eq_false_iff_not, Option.some.injEq]
        omega
/-- How many of the first n authors have spoken. -/
def spokenTo (l : List (Int × Int)) : Nat → Nat
  | 0 => 0
  | n + 1 => spokenTo l n + (if 0 < (lastOf l (n : Int)).getD 0 then 1 else 0)
theorem spokenTo_eq (l : List (Int × Int)) (n : Nat) : spokenTo l n = (List.range n).countP fun (k : Nat) => decide (0 < (lastOf l (k : Int)).getD 0) := by
  induction n with
  | zero => rfl
  | succ n ih =>
    rw [spokenTo, ih, List.range_succ, List.countP_append, List.countP_singleton]
    simp
theorem lastOf_mem {l : List (Int × Int)} {k v : Int} (h : lastOf l k = some v) : (k, v) ∈ l := by
  unfold lastOf at h
  rw [Option.map_eq_some_iff] at h
  obtain ⟨p, hp, rfl⟩ := h
  have hm := List.mem_of_getLast? hp
  rw [List.mem_filter] at hm
  have h2 := hm.2
  simp only [decide_eq_true_eq] at h2
  rw [← h2]
  exact hm.1
/-- Votes of few authors for few keys: each author that has named a key has one voice. -/
theorem mind_sum {l : List (Int × Int)} (h : ∀ p ∈ l, (0 ≤ p.1 ∧ p.1 < 6) ∧ 7 ≤ p.2 ∧ p.2 < 10) : voicesTo l 12 = spokenTo l 6 := by
  rw [voicesTo_eq, spokenTo_eq]
  have e : List.range 64 = List.range 6 ++ (List.range 58).map (6 + ·) := by decide
  have h0 : ((List.range 58).map (6 + ·)).countP (namedB l 12) = 0 := by
    rw [List.countP_eq_zero]
    intro k hk
    rw [List.mem_map] at hk
    obtain ⟨j, _, rfl⟩ := hk
    unfold namedB
    split
    · simp
    · rename_i v hv
      have := (h _ (lastOf_mem hv)).1.2
      simp at this
      omega
  rw [e, List.countP_append, h0, Nat.add_zero]
  apply count_same
  intro k _
  unfold namedB
  split
  · rename_i hv; rw [hv]; rfl
  · rename_i v hv
    have h1 := (h _ (lastOf_mem hv)).2
    simp only at h1
    rw [hv]
    simp only [Option.getD_some]
    rw [Bool.eq_iff_iff]
    simp only [Bool.and_eq_true, decide_eq_true_eq]
    omega
theorem voicesL_mem {l : List (Int × Int)} {next : Int} {n i : Nat} {x : Int} (h : (voicesL l next n)[i]? = some x) : lastOf l x = some next ∧ 0 ≤ x ∧ x < n := by
  have hm := List.mem_of_getElem? h
  unfold voicesL at hm
  rw [List.mem_map] at hm
  obtain ⟨k, hk, rfl⟩ := hm
  rw [List.mem_filter] at hk
  have h2 := hk.2
  simp only [decide_eq_true_eq] at h2
  have h3 := List.mem_range.1 hk.1
  exact ⟨h2, by omega, by omega⟩
/-- The last ones named, as the law keeps them. -/
def lastsL (l : List (Int × Int)) : List Int := (List.range 6).map fun (k : Nat) => (lastOf l (k : Int)).getD 0
theorem lastsL_nil : lastsL [] = [0, 0, 0, 0, 0, 0] := rfl
theorem lastsL_len (l : List (Int × Int)) : (lastsL l).length = 6 := by simp [lastsL]
theorem lastsL_get (l : List (Int × Int)) (k : Nat) (hk : k < 6) : (lastsL l).getD k 0 = (lastOf l (k : Int)).getD 0 := by
  simp [lastsL, List.getD, hk]
theorem lastsL_snoc (l : List (Int × Int)) (k : Nat) (v : Int) (hk : k < 6) : lastsL (l ++ [((k : Int), v)]) = (lastsL l).set k v := by
  apply List.ext_getElem?
  intro i
  rw [List.getElem?_set]
  unfold lastsL
  simp only [List.getElem?_map, List.length_map, List.length_range]
  by_cases hi : i < 6
  · rw [List.getElem?_range hi]
    simp only [Option.map_some, lastOf_snoc]
    by_cases e : k = i
    · subst e; simp [hi]
    · rw [if_neg (by show ¬ (k : Int) = (i : Int); omega), if_neg e]
  · rw [List.getElem?_eq_none (by simp; omega), Option.map_none]
    have : k ≠ i := by omega
    rw [if_neg this]; rfl
end Go.Proofs.YtdgfankkapeclaaGreat

namespace Go.Proofs.YtdgfankkapeclaaGreat
open Go.RowKit Go.Maps

/-- How a value of whatever type reads: as itself. -/
def valElem (v : Value) : Option (DataW Value × List MemPlace) := some (.held v, [])
/-- The map behind stores. -/
def mapV (l : List (Lit × Value)) : DataW Value := l.foldl (fun D p => D.put p.1 (.held p.2)) (.map [])
theorem mapV_snoc (l : List (Lit × Value)) (p : Lit × Value) : mapV (l ++ [p]) = (mapV l).put p.1 (.held p.2) := by
  unfold mapV; rw [List.foldl_append]; rfl
open Classical in
/-- What was stored last at a key. -/
noncomputable def lastV (l : List (Lit × Value)) (k : Lit) : Option Value := l.foldl (fun r p => if p.1 = k then some p.2 else r) none
open Classical in
theorem lastV_snoc (l : List (Lit × Value)) (p : Lit × Value) (k : Lit) : lastV (l ++ [p]) k = if p.1 = k then some p.2 else lastV l k := by
  unfold lastV; rw [List.foldl_append]; rfl
theorem mapV_isMap (l : List (Lit × Value)) : IsMap (mapV l) := by
  induction l using snoc_ind with
  | nil => exact isMap_empty
  | snoc l p ih => rw [mapV_snoc]; exact ih.put _ _
theorem mapV_has {l : List (Lit × Value)} {k : Lit} (hk : WideAt.IsKeyLit k) : Maps.has (mapV l) k = (lastV l k).isSome := by
  induction l using snoc_ind with
  | nil => rfl
  | snoc l p ih =>
    rw [mapV_snoc, lastV_snoc]
    by_cases h : p.1 = k
    · rw [if_pos h, h, has_put_same (mapV_isMap l) hk]; rfl
    · rw [if_neg h, has_put_other (fun e => h e.symm), ih]
theorem mapV_at {l : List (Lit × Value)} {k : Lit} (z : Value) (hk : WideAt.IsKeyLit k) : (mapV l).atKey k (.held z) = .held ((lastV l k).getD z) := by
  induction l using snoc_ind with
  | nil => rfl
  | snoc l p ih =>
    rw [mapV_snoc, lastV_snoc]
    by_cases h : p.1 = k
    · rw [if_pos h, h, atKey_put_same (mapV_isMap l) hk]; rfl
    · rw [if_neg h, atKey_put_other (fun e => h e.symm), ih]
theorem valElem_inv {v : Value} {d : DataW Value} {ps : List MemPlace} (h : valElem v = some (d, ps)) : d = .held v := by
  unfold valElem at h; cases h; rfl
/-- 'v, ok := m[k]' at a map of whatever values, at the operation. -/
theorem wpList_lookV {P : Program} (w : World) {ops : Array Oper} {rest : List Oper} {o : Oper} {a : Act} {Q : Exit → Act → World → Prop}
    (hg : o.guard = none) (m x : Operand) (t : TypeId) (hop : o.op = Op.lookup t m x true)
    (k e : TypeId) (K : Keyed P k) (ht : P.underlying t = some (.map k e)) (z : Value) (hz : (zeroValue e).run P w = .ok z w) (b n : Nat) (l : List (Lit × Value))
    (hm : a.eval m = .map (some b)) (hown : w.ownsMap P k valElem b n (mapV l)) (key : Value) (kl : Lit) (hx : a.eval x = key) (hkey : keyOf P k key = some kl) (hkl : WideAt.IsKeyLit kl)
    (v : Value) (ok : Bool) (hv : (lastV l kl).getD z = v) (hok : (lastV l kl).isSome = ok)
    (hK : wpList P ops Q rest (a.put o.dst (.tuple #[v, .bool ok])) w) :
    wpList P ops Q (o :: rest) a w := by
  refine wpList_plain hg fun K' hK' => ?_
  obtain ⟨u, ps, hrun, hr⟩ := hown.look_ok K ht hz (zd := .held z) (zp := []) rfl hkey
  have h1 := valElem_inv hr
  rw [mapV_at z hkl, hv] at h1
  cases h1
  rw [mapV_has hkl, hok] at hrun
  unfold Oper.wp
  simp [execOp, hop, hm, hx, hrun, Result.andThen]
  exact hK' _ _ hK
end Go.Proofs.YtdgfankkapeclaaGreat

namespace Go.Proofs.YtdgfankkapeclaaGreat
open Go.RowKit

theorem keysTo_yes {c : Int → Bool} {k : Nat} (h : c k = true) : keysTo c (k + 1) = keysTo c k ++ [(k : Int)] := by rw [keysTo, if_pos h]
theorem keysTo_no {c : Int → Bool} {k : Nat} (h : c k = false) : keysTo c (k + 1) = keysTo c k := by rw [keysTo, if_neg (by simp [h]), List.append_nil]

end Go.Proofs.YtdgfankkapeclaaGreat

namespace Go.Proofs.YtdgfankkapeclaaGreat
open Go.RowKit

def heirRep : Rep (Int × Int) where
  k := 2
  R := fun _ _ cs x => cs = [.int .i64 x.1, .int .i64 x.2]
  len := fun h => by subst h; rfl
  one := fun h => by subst h; intro v hv; simp at hv; rcases hv with rfl | rfl <;> rfl
  keep := fun h _ => h
  mono := fun h _ => h

def heirI (hs : List (Int × Int)) (k : Int) : Option Int := (hs.find? (fun x => x.1 == k)).map (·.2)
theorem heirI_take {hs : List (Int × Int)} {k : Int} {i : Nat} {x : Int × Int} (h : heirI (hs.take i) k = none) (hx : hs[i]? = some x) : heirI hs k = if x.1 = k then some x.2 else heirI hs k := by
  split
  · rename_i e
    unfold heirI at *
    obtain ⟨hl, he⟩ := List.getElem?_eq_some_iff.1 hx
    rw [← List.take_append_drop i hs, List.find?_append]
    simp only [Option.map_eq_none_iff] at h
    rw [h, List.drop_eq_getElem_cons hl, he]
    simp [e]
  · rfl
theorem heirI_hit {hs : List (Int × Int)} {k : Int} {i : Nat} {x : Int × Int} (h : heirI (hs.take i) k = none) (hx : hs[i]? = some x) (e : x.1 = k) : heirI hs k = some x.2 := by
  rw [heirI_take h hx, if_pos e]
theorem heirI_miss {hs : List (Int × Int)} {k : Int} {i : Nat} {x : Int × Int} (h : heirI (hs.take i) k = none) (hx : hs[i]? = some x) (e : ¬ x.1 = k) : heirI (hs.take (i + 1)) k = none := by
  unfold heirI at *
  obtain ⟨hl, he⟩ := List.getElem?_eq_some_iff.1 hx
  rw [List.take_add_one, List.find?_append]
  simp only [Option.map_eq_none_iff] at h
  rw [h, hx]; simp [e]

end Go.Proofs.YtdgfankkapeclaaGreat

namespace Go.Proofs.YtdgfankkapeclaaGreat
open Go.RowKit

def keyH (n : Int) : Bool := decide (0 ≤ n) && decide (n < 64)
theorem key_any (n : Int) (w : World) : Calls Tryz.prog 65 #[.int .i64 n] w fun e w' => e = .returned (.bool (keyH n)) ∧ w = w' := by
  by_cases h0 : 0 ≤ n
  · by_cases h1 : n < 64
    · have d0 : decide ((0 : Int) ≤ n) = true := decide_eq_true h0
      have d1 : decide (n < 64) = true := decide_eq_true h1
      have HK : Hid (keyH n = true) := by show _ = _; simp [keyH, h0, h1]
      go_enter Tryz.func65, Tryz.ntmps65
      go_wp2
      go_ret
      exact ⟨by rw [HK.out]; rfl, rfl⟩
    · have d0 : decide ((0 : Int) ≤ n) = true := decide_eq_true h0
      have d1 : decide (n < 64) = false := decide_eq_false h1
      have HK : Hid (keyH n = false) := by show _ = _; simp [keyH, h1]
      go_enter Tryz.func65, Tryz.ntmps65
      go_wp2
      go_ret
      exact ⟨by rw [HK.out]; rfl, rfl⟩
  · have d0 : decide ((0 : Int) ≤ n) = false := decide_eq_false h0
    have HK : Hid (keyH n = false) := by show _ = _; simp [keyH, h0]
    go_enter Tryz.func65, Tryz.ntmps65
    go_wp2
    go_ret
    exact ⟨by rw [HK.out]; rfl, rfl⟩
end Go.Proofs.YtdgfankkapeclaaGreat

namespace Go.Proofs.YtdgfankkapeclaaGreat
open Go.RowKit Go.Maps

abbrev I64 (a : Int) : Prop := -9223372036854775808 ≤ a ∧ a ≤ 9223372036854775807
set_option maxRecDepth 100000 in
theorem keyOf_lossW (k a : Int) (hk : 0 ≤ k ∧ k < 64) (ha : I64 a) : keyOf Tryz.prog 156 (.agg #[.int .i64 k, .int .i64 a]) = some (keyL k a) := by
  have w1 : (Lit.int .i64 k).wf = true := WalkArith.wf_i64 (by omega)
  have w2 : (Lit.int .i64 a).wf = true := WalkArith.wf_i64 ha
  obtain ⟨m, hm⟩ : ∃ m, Tryz.prog.types.size = m + 1 := ⟨_, (Nat.succ_pred_eq_of_pos (Nat.lt_of_le_of_lt (Nat.zero_le _) Tryz.rowLoss)).symm⟩
  unfold keyOf
  simp only [Tryz.underlying156, Tryz.deepLoss, Value.formed, Tryz.cellsLoss, Bool.true_and]
  rw [hm]
  simp [Program.keyLits, Tryz.underlying156, Tryz.underlying3, Tryz.cellsLoss, Tryz.cellsInt, Value.cells, w1, w2, keyL]
theorem keyL_injW {k k' a a' : Int} (hk : I64 k) (hk' : I64 k') (ha : I64 a) (ha' : I64 a') (h : keyL k a = keyL k' a') : k = k' ∧ a = a' := by
  unfold keyL at h
  simp only [Lit.string.injEq] at h
  have w := fun (x : Int) (hx : I64 x) => WalkArith.wf_i64 (n := x) hx
  have := Go.keyBytes_inj (l := [.int .i64 k, .int .i64 a]) (l' := [.int .i64 k', .int .i64 a']) ⟨rfl, rfl, trivial⟩ (by simp [Lit.keyWf, w k hk, w a ha]) (by simp [Lit.keyWf, w k' hk', w a' ha']) h
  simpa using this
theorem mapG_otherW {l : List Vote} {p : Vote} {k a : Int} (hl : KeysOK (l ++ [p])) (hk : 0 ≤ k ∧ k < 64) (ha : -9223372036854775808 ≤ a ∧ a ≤ 9223372036854775807) (h : ¬ (p.1 = k ∧ p.2.1 = a)) : keyL k a ≠ keyL p.1 p.2.1 := fun e => by
  have hp := hl p (by simp)
  obtain ⟨e1, e2⟩ := keyL_injW ⟨by omega, by omega⟩ ⟨by have := hp.1; omega, by have := hp.1; omega⟩ ha ⟨by have := hp.2; omega, by have := hp.2; omega⟩ e
  exact h ⟨e1.symm, e2.symm⟩
theorem mapG_hasW {a k : Int} {l : List Vote} (hl : KeysOK l) (hk : 0 ≤ k ∧ k < 64) (ha : -9223372036854775808 ≤ a ∧ a ≤ 9223372036854775807) : Maps.has (mapG l) (keyL k a) = (lastOf (onLost l a) k).isSome := by
  induction l using snoc_ind with
  | nil => rfl
  | snoc l p ih =>
    have ih := ih fun q hq => hl q (by simp [hq])
    rw [mapG_snoc, onLost_snoc]
    by_cases h2 : p.2.1 = a
    · rw [if_pos h2, lastOf_snoc]
      by_cases h : p.1 = k
      · rw [if_pos h, h, h2, has_put_same (mapG_isMap l) (keyL_isKey k a)]; rfl
      · rw [if_neg h, has_put_other (mapG_otherW hl hk ha (fun e => h e.1)), ih]
    · rw [if_neg h2, List.append_nil, has_put_other (mapG_otherW hl hk ha (fun e => h2 e.2)), ih]
theorem mapG_atW {a k : Int} {l : List Vote} (hl : KeysOK l) (hk : 0 ≤ k ∧ k < 64) (ha : -9223372036854775808 ≤ a ∧ a ≤ 9223372036854775807) : (mapG l).atKey (keyL k a) (.lit (.int .i64 0)) = .lit (.int .i64 ((lastOf (onLost l a) k).getD 0)) := by
  induction l using snoc_ind with
  | nil => rfl
  | snoc l p ih =>
    have ih := ih fun q hq => hl q (by simp [hq])
    rw [mapG_snoc, onLost_snoc]
    by_cases h2 : p.2.1 = a
    · rw [if_pos h2, lastOf_snoc]
      by_cases h : p.1 = k
      · rw [if_pos h, h, h2, atKey_put_same (mapG_isMap l) (keyL_isKey k a)]; rfl
      · rw [if_neg h, atKey_put_other (mapG_otherW hl hk ha (fun e => h e.1)), ih]
    · rw [if_neg h2, List.append_nil, atKey_put_other (mapG_otherW hl hk ha (fun e => h2 e.2)), ih]
end Go.Proofs.YtdgfankkapeclaaGreat

namespace Go.Proofs.YtdgfankkapeclaaGreat
open Go.RowKit

set_option maxHeartbeats 400000 in
theorem index_any (v1 : Value) (xs : List Int) (x : Int) (w : World) (hv1 : Ints w v1 xs) (hm : xs.length ≤ 9223372036854775807) :
    Calls Tryz.prog 124 #[v1, .int .i64 x] w fun e w' => ∃ i, e = .returned (.int .i64 i) ∧ Hid (0 ≤ i ↔ hasI xs x = true) ∧ w = w' := by
  obtain ⟨ao, cap, rfl, hx⟩ := hv1
  go_enter Tryz.func124, Tryz.ntmps124
  go_wp2
  go_loop [8] (fun i => ∃ k : Nat, k ≤ xs.length ∧ i = .int .i64 k ∧ hasI (xs.take k) x = false) (fun i => xs.length - (intOf i).toNat)
  case atStart => exact ⟨0, Nat.zero_le _, rfl, rfl⟩
  case round =>
    obtain ⟨k, hk, rfl, hno⟩ := hrel
    have HN := Lib.hid hno
    clear hno
    by_cases hlt : k < xs.length
    · obtain ⟨b, off, y, rfl, hck, HY⟩ := hx.get k hlt
      by_cases he : x = y
      · have hb : (x == y) = true := by simpa using he
        have HR := Lib.hid (hasI_get hlt (HY.out.trans he.symm))
        clear he
        go_wp2
        go_ret
        exact ⟨_, rfl, (by rw [HR.out]; simp : _ ↔ _), rfl⟩
      · have hb : (x == y) = false := by simpa using he
        have HR := Lib.hid (hasI_take_succ hlt HN.out (by rw [HY.out]; exact fun h => he h.symm))
        clear he
        go_wp2
        go_round
        case rel => exact ⟨k + 1, by omega, by go_num, HR.out⟩
        case measure => simp [intOf]; omega
    · have HR : Hid (hasI xs x = false) := by
        have h := HN.out
        rwa [List.take_of_length_le (by omega)] at h
      go_wp2
      go_ret
      exact ⟨_, rfl, (by rw [HR.out]; simp : _ ↔ _), rfl⟩

set_option maxHeartbeats 400000 in
theorem contains_any (v1 : Value) (xs : List Int) (x : Int) (w : World) (hv1 : Ints w v1 xs) (hm : xs.length ≤ 9223372036854775807) :
    Calls Tryz.prog 61 #[v1, .int .i64 x] w fun e w' => e = .returned (.bool (hasI xs x)) ∧ w = w' := by
  obtain ⟨ao, cap, rfl, hx⟩ := hv1
  go_enter Tryz.func61, Tryz.ntmps61
  go_wp2_with (go_at_call 124; refine (index_any _ _ _ _ ⟨_, _, rfl, hx⟩ hm).mono ?_; rintro e w' ⟨i, rfl, hi, rfl⟩)
  go_ret
  refine ⟨ret_bool ?_, rfl⟩
  have h := hi.out
  show decide (0 ≤ i) = _
  rw [Bool.eq_iff_iff, decide_eq_true_eq, h]

end Go.Proofs.YtdgfankkapeclaaGreat

namespace Go.Proofs.YtdgfankkapeclaaGreat
open Go.RowKit

/-- cmp.Compare of two numbers. -/
def cmpI (x y : Int) : Int := if x < y then -1 else if y < x then 1 else 0
theorem cmpI_lt {x y : Int} : cmpI x y < 0 ↔ x < y := by unfold cmpI; split <;> (try split) <;> omega
theorem cmpI_zero {x y : Int} : cmpI x y = 0 ↔ x = y := by unfold cmpI; split <;> (try split) <;> omega
theorem cmpI_gt {x y : Int} : 0 < cmpI x y ↔ y < x := by unfold cmpI; split <;> (try split) <;> omega

theorem isNaN_any (x : Int) (w : World) : Calls Tryz.prog 132 #[.int .i64 x] w fun e w' => e = .returned (.bool false) ∧ w = w' := by
  have h : (x != x) = false := by simp
  go_enter Tryz.func132, Tryz.ntmps132
  go_wp2
  go_ret
  exact ⟨rfl, rfl⟩

set_option maxHeartbeats 400000 in
theorem compare_any (x y : Int) (w : World) : Calls Tryz.prog 71 #[.int .i64 x, .int .i64 y] w fun e w' => e = .returned (.int .i64 (cmpI x y)) ∧ w = w' := by
  by_cases h1 : x < y
  · have d1 : decide (x < y) = true := decide_eq_true h1
    have HK : Hid (cmpI x y = -1) := by show _ = _; simp [cmpI, h1]
    go_enter Tryz.func71, Tryz.ntmps71
    go_wp2_with (go_at_call 132; refine (isNaN_any _ _).mono ?_; rintro e w' ⟨rfl, rfl⟩)
    go_ret
    exact ⟨by rw [HK.out]; rfl, rfl⟩
  · have d1 : decide (x < y) = false := decide_eq_false h1
    by_cases h2 : y < x
    · have d2 : decide (y < x) = true := decide_eq_true h2
      have HK : Hid (cmpI x y = 1) := by show _ = _; simp [cmpI, h1, h2]
      go_enter Tryz.func71, Tryz.ntmps71
      go_wp2_with (go_at_call 132; refine (isNaN_any _ _).mono ?_; rintro e w' ⟨rfl, rfl⟩)
      go_ret
      exact ⟨by rw [HK.out]; rfl, rfl⟩
    · have d2 : decide (y < x) = false := decide_eq_false h2
      have HK : Hid (cmpI x y = 0) := by show _ = _; simp [cmpI, h1, h2]
      go_enter Tryz.func71, Tryz.ntmps71
      go_wp2_with (go_at_call 132; refine (isNaN_any _ _).mono ?_; rintro e w' ⟨rfl, rfl⟩)
      go_ret
      exact ⟨by rw [HK.out]; rfl, rfl⟩
end Go.Proofs.YtdgfankkapeclaaGreat

namespace Go.Proofs.YtdgfankkapeclaaGreat
open Go.RowKit Go.Sort

def heirV (x : Int × Int) : Value := .agg #[.int .i64 x.1, .int .i64 x.2]

set_option maxHeartbeats 400000 in
theorem byLost_any (x y : Int × Int) (w : World) : Calls Tryz.prog 129 #[heirV x, heirV y] w fun e w' => e = .returned (.int .i64 (cmpI x.1 y.1)) ∧ ∃ q os', w' = grow (w.drewN q) os' := by
  unfold heirV
  go_enter Tryz.func129, Tryz.ntmps129
  go_wp2_with (go_at_call 71; refine (compare_any _ _ _).mono ?_; rintro e w' ⟨rfl, rfl⟩)
  go_ret
  exact ⟨rfl, 0, #[_, _], by rw [alloc_eq_grow, alloc_eq_grow, grow_grow]; rfl⟩

set_option maxHeartbeats 400000 in
theorem sameLost_any (x y : Int × Int) (w : World) : Calls Tryz.prog 131 #[heirV x, heirV y] w fun e w' => e = .returned (.bool (x.1 == y.1)) ∧ ∃ q os', w' = grow (w.drewN q) os' := by
  unfold heirV
  go_enter Tryz.func131, Tryz.ntmps131
  go_wp2
  go_ret
  exact ⟨rfl, 0, #[_, _], by rw [alloc_eq_grow, alloc_eq_grow, grow_grow]; rfl⟩

set_option maxHeartbeats 400000 in
theorem lostAt_any (x : Int × Int) (n : Int) (w : World) : Calls Tryz.prog 70 #[heirV x, .int .i64 n] w fun e w' => e = .returned (.int .i64 (cmpI x.1 n)) ∧ ∃ q os', w' = grow (w.drewN q) os' := by
  unfold heirV
  go_enter Tryz.func70, Tryz.ntmps70
  go_wp2_with (go_at_call 71; refine (compare_any _ _ _).mono ?_; rintro e w' ⟨rfl, rfl⟩)
  go_ret
  exact ⟨rfl, 0, #[_], by rw [alloc_eq_grow]; rfl⟩
end Go.Proofs.YtdgfankkapeclaaGreat

namespace Go.Proofs
open Go.Shelf
def Tryz.insHeir_ren : Go.Shelf.Ren := ⟨fun | 20 => 268 | n => n, fun | 24 => 34 | 22 => 31 | 3 => 3 | 25 => 165 | 4 => 4 | 0 => 0 | n => n, fun | n => n⟩
theorem Tryz.insHeir : Go.Proofs.SlLaysF0.n20 Tryz.prog Tryz.insHeir_ren := {
  mixed := by kernel_rfl
  f20 := ⟨Tryz.f268.name, by decide, Tryz.func268.trans (congrArg some (by kernel_rfl))⟩
  t0 := Tryz.underlying0
  a0 := Tryz.isAgg0
  z0 := Tryz.sizeOf0
  v0 := Tryz.zeroValue0
  t3 := Tryz.underlying3
  a3 := Tryz.isAgg3
  z3 := Tryz.sizeOf3
  v3 := Tryz.zeroValue3
  t4 := Tryz.underlying4
  a4 := Tryz.isAgg4
  z4 := Tryz.sizeOf4
  v4 := Tryz.zeroValue4
  t22 := Tryz.underlying31
  a22 := Tryz.isAgg31
  z22 := Tryz.sizeOf31
  v22 := Tryz.zeroValue31
  t25 := Tryz.underlying165
  a25 := Tryz.isAgg165
  z25 := Tryz.sizeOf165
  v25 := Tryz.zeroValue165 }
end Go.Proofs
namespace Go.Proofs.YtdgfankkapeclaaGreat
open Go.RowKit Go.Sort

def encH (x : Int × Int) : List Value := [.int .i64 x.1, .int .i64 x.2]
theorem one_encH : ∀ x, ∀ v ∈ encH x, v.oneCell' = true := fun x v hv => by simp [encH] at hv; rcases hv with rfl | rfl <;> rfl
def byLost (x y : Int × Int) : Int := cmpI x.1 y.1

theorem insHeir_any (g off cap a b n : Nat) (A B : Int) (hA : (a : Int) = A) (hB : (b : Int) = B) (d : Array (Int × Int)) (w : World) (hH : HoldsK encH 2 w g off d) (hg : g < w.heap.size) (hab : a ≤ b) (hb : b ≤ d.size) (hsz : d.size < 4611686018427387904) (hn : d.size = n) :
    Calls Tryz.prog 268 #[.slice (some ⟨g, off, none⟩) n cap, .int .i64 A, .int .i64 B, .func (.func 129) #[] #[]] w fun e w' =>
      e = .returned (.tuple #[]) ∧ ∃ n os, w' = sortWorldK encH 2 w g off n (Sort.insertionSort (ltOf byLost) d a b) os := by
  subst hA hB hn
  exact AnyQ.insertionSortCmpFunc Tryz.insHeir 2 Tryz.isAgg34 Tryz.sizeOf34 encH (fun _ => rfl) (fun x v hv => by simp [encH] at hv; rcases hv with rfl | rfl <;> rfl) byLost 129 #[] g off cap a b d w
    (enters_of Tryz.func129 (by kernel_rfl) rfl) (fun m os dk _ x y => byLost_any x y _) hH hg hab hb hsz
end Go.Proofs.YtdgfankkapeclaaGreat

namespace Go.Proofs.YtdgfankkapeclaaGreat
open Go.Sort

variable {α : Type} [Inhabited α]

/-- A kind of elements of which none is less than another one. -/
def Kind (lt : α → α → Bool) (p : α → Bool) : Prop := ∀ x y, p x = true → p y = true → lt x y = false

theorem toList_split2 (d : Array α) (j : Nat) (h : j + 1 < d.size) : d.toList = d.toList.take j ++ d[j]! :: d[j + 1]! :: d.toList.drop (j + 2) := by
  rw [getElem!_pos d j (by omega), getElem!_pos d (j + 1) h]
  have h1 : d.toList.drop j = d[j] :: d.toList.drop (j + 1) := by rw [List.drop_eq_getElem_cons (by simpa using (by omega : j < d.size))]; simp
  have h2 : d.toList.drop (j + 1) = d[j + 1] :: d.toList.drop (j + 2) := by rw [List.drop_eq_getElem_cons (by simpa using h)]; simp
  rw [← h2, ← h1, List.take_append_drop]
theorem swp_adj (d : Array α) (j : Nat) (h : j + 1 < d.size) : (swp d (j + 1) j).toList = d.toList.take j ++ d[j + 1]! :: d[j]! :: d.toList.drop (j + 2) := by
  apply List.ext_getElem?
  intro i
  unfold swp
  have e1 : d[j]! = d[j] := getElem!_pos d j (by omega)
  have e2 : d[j + 1]! = d[j + 1] := getElem!_pos d (j + 1) h
  rw [e1, e2]
  simp only [Array.getElem?_toList, Array.getElem?_setIfInBounds, Array.size_setIfInBounds]
  rcases Nat.lt_trichotomy i j with hi | hi | hi
  · rw [if_neg (by omega), if_neg (by omega), List.getElem?_append_left (by simp; omega)]
    simp [hi]
  · subst hi
    rw [if_pos rfl, if_pos (by omega), List.getElem?_append_right (by simp; omega)]
    simp [show min i d.size = i by omega]
  · by_cases hi2 : i = j + 1
    · subst hi2
      rw [if_neg (by omega), if_pos rfl, if_pos h, List.getElem?_append_right (by simp; omega)]
      simp [show j + 1 - min j d.size = 1 by omega]
    · rw [if_neg (by omega), if_neg (by omega), List.getElem?_append_right (by simp; omega)]
      obtain ⟨n, rfl⟩ : ∃ n, i = j + 2 + n := ⟨i - (j + 2), by omega⟩
      simp [show j + 2 + n - min j d.size = n + 2 by omega]
theorem swp_filter {lt : α → α → Bool} {p : α → Bool} (hp : Kind lt p) (d : Array α) (j : Nat) (h : j + 1 < d.size) (hl : lt d[j + 1]! d[j]! = true) : (swp d (j + 1) j).toList.filter p = d.toList.filter p := by
  have e : d.toList.filter p = (d.toList.take j ++ d[j]! :: d[j + 1]! :: d.toList.drop (j + 2)).filter p := congrArg (List.filter p) (toList_split2 d j h)
  rw [swp_adj d j h, e]
  simp only [List.filter_append, List.filter_cons]
  by_cases h1 : p d[j + 1]! = true
  · by_cases h2 : p d[j]! = true
    · rw [hp _ _ h1 h2] at hl; cases hl
    · rw [if_neg h2]
      simp [h2]
  · simp [h1]
theorem insInner_filter {lt : α → α → Bool} {p : α → Bool} (hp : Kind lt p) (a : Nat) : ∀ (j : Nat) (d : Array α), j < d.size → (insInner lt a j d).toList.filter p = d.toList.filter p ∧ (insInner lt a j d).size = d.size
  | 0, d, _ => ⟨rfl, rfl⟩
  | j + 1, d, hj => by
    unfold insInner
    split
    · rename_i hc
      simp only [Bool.and_eq_true, decide_eq_true_eq] at hc
      have hs : (swp d (j + 1) j).size = d.size := swp_size d (j + 1) j
      obtain ⟨h1, h2⟩ := insInner_filter hp a j (swp d (j + 1) j) (by rw [hs]; omega)
      exact ⟨h1.trans (swp_filter hp d j hj hc.2), h2.trans hs⟩
    · exact ⟨rfl, rfl⟩
theorem insOuter_filter {lt : α → α → Bool} {p : α → Bool} (hp : Kind lt p) (a b : Nat) : ∀ (n i : Nat) (d : Array α), b - i = n → b ≤ d.size → (insOuter lt a b i d).toList.filter p = d.toList.filter p
  | 0, i, d, hn, hb => by rw [insOuter, if_neg (by omega)]
  | n + 1, i, d, hn, hb => by
    rw [insOuter, if_pos (by omega)]
    obtain ⟨h1, h2⟩ := insInner_filter hp a i d (by omega)
    exact (insOuter_filter hp a b n (i + 1) _ (by omega) (by omega)).trans h1
theorem insertionSort_filter {lt : α → α → Bool} {p : α → Bool} (hp : Kind lt p) (d : Array α) (a b : Nat) (hb : b ≤ d.size) : (insertionSort lt d a b).toList.filter p = d.toList.filter p := insOuter_filter hp a b _ _ d rfl hb
end Go.Proofs.YtdgfankkapeclaaGreat
