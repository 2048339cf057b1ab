/- Plain words on slices of ints in memory, for whatever program: what a slice reads as, which blocks a call may turn, an append of one number. No statement of the seat is proved here. | Plain Lean functions on lists of ints: what the Go functions of the Quota laws compute. No program in sight. | made.Mod: contracts, no statement of the seat. | The row of int in the table of types: a fact, no statement of the seat. -/
import Derived.WalkKit
import Derived.WalkSpells
import Derived.WalkLawsBesides
import Derived.Lib.Hide
import Derived.Deep.QuietTactic
import Derived.BigQuiet
import Derived.PlainAid
import Derived.Test.YtdmchekkcmjafaaRows
namespace Go.Proofs.Ytdmchekkcmjafaa
open Go.RowKit

/-- Below block B the world w' is as w was, but for block p. -/
structure Ex (B : Nat) (p : Option Nat) (w w' : World) : Prop where
  os : w'.os = w.os
  tape : w'.tape = w.tape
  output : w'.output = w.output
  size : w.heap.size ≤ w'.heap.size
  block : ∀ k, k < B → some k ≠ p → w'.heap[k]? = w.heap[k]?

theorem Ex.refl (B : Nat) (p : Option Nat) (w : World) : Ex B p w w := ⟨rfl, rfl, rfl, Nat.le_refl _, fun _ _ _ => rfl⟩
theorem Ex.trans {B B' : Nat} {p p' : Option Nat} {a b c : World} (h : Ex B p a b) (k : Ex B' p' b c) (hB : B ≤ B') (hp : ∀ q, p' = some q → q < B → p = some q) : Ex B p a c :=
  ⟨k.os.trans h.os, k.tape.trans h.tape, k.output.trans h.output, Nat.le_trans h.size k.size, fun i hi hne =>
    (k.block i (Nat.lt_of_lt_of_le hi hB) (fun e => hne (by rw [hp i e.symm hi]))).trans (h.block i hi hne)⟩
theorem Ex.weaken {B : Nat} {w w' : World} (h : Ex B none w w') (p : Option Nat) : Ex B p w w' := ⟨h.os, h.tape, h.output, h.size, fun i hi _ => h.block i hi (by simp)⟩
theorem Ex.mono {B B' : Nat} {p : Option Nat} {w w' : World} (h : Ex B p w w') (hB : B' ≤ B) : Ex B' p w w' := ⟨h.os, h.tape, h.output, h.size, fun i hi => h.block i (Nat.lt_of_lt_of_le hi hB)⟩
theorem Ex.below {B : Nat} {w w' : World} (h : Ex B none w w') : Below B w w' := ⟨h.os, h.tape, h.output, h.size, fun i hi => h.block i hi (by simp)⟩
theorem Ex.of_below {B : Nat} {w w' : World} (h : Below B w w') : Ex B none w w' := ⟨h.os, h.tape, h.output, h.size, fun i hi _ => h.block i hi⟩
/-- What turns above B alone is not seen below B. -/
theorem Ex.above {B q : Nat} {w w' : World} (h : Ex B (some q) w w') (hq : B ≤ q) : Ex B none w w' := ⟨h.os, h.tape, h.output, h.size, fun i hi _ => h.block i hi (by simp; omega)⟩
theorem Ex.grown {B : Nat} {p row : Option Nat} {a w w' : World} (h : Ex B p a w) (hg : w.grownBy w' row) (hB : B ≤ w.heap.size) (hr : ∀ k, row = some k → B ≤ k) : Ex B p a w' :=
  ⟨hg.os.trans h.os, hg.tape.trans h.tape, hg.output.trans h.output, Nat.le_trans h.size hg.size, fun k hk hne => (hg.block k (by omega) (fun e => by have := hr k e.symm; omega)).trans (h.block k hk hne)⟩
theorem Ex.alloc {B : Nat} {p : Option Nat} {a w : World} (h : Ex B p a w) (hB : B ≤ w.heap.size) (o : Obj) : Ex B p a (w.alloc o) := h.grown (World.grownBy_alloc w o none) hB (by simp)
theorem Ex.new (w : World) (o : Obj) : Ex w.heap.size none w (w.alloc o) := (Ex.refl _ _ _).alloc (Nat.le_refl _) o
theorem Ex.drew {B : Nat} {p : Option Nat} {a w : World} (h : Ex B p a w) : Ex B p a w.drew := ⟨h.os, h.tape, h.output, h.size, h.block⟩
theorem Ex.drewN {B n : Nat} {p : Option Nat} {a w : World} (h : Ex B p a w) : Ex B p a (w.drewN n) := ⟨h.os, h.tape, h.output, h.size, h.block⟩
theorem Ex.setCell {B q : Nat} {p : Option Nat} {a w : World} (h : Ex B p a w) (o : Nat) (s : Option Nat) (u : Value) (hq : p = some q ∨ B ≤ q) : Ex B p a (w.setCell ⟨q, o, s⟩ u) :=
  ⟨h.os, h.tape, h.output, by simpa [World.setCell] using h.size, fun k hk hne => (Below.heap_setCell _ _ _ _ (by
    show k ≠ q
    rcases hq with hq | hq
    · intro e; exact hne (by rw [hq, e])
    · omega)).trans (h.block k hk hne)⟩

/-- A row that is owned stays so where its block is not turned. -/
theorem own_keep {w w' : World} {base e size n B : Nat} {p : Option Nat} {v : Value} {xs : List Value} (h : w.ownsRow base e size v n xs) (hx : Ex B p w w') (hB : w.heap.size ≤ B) (hp : ∀ q, p = some q → q < base) : w'.ownsRow base e size v n xs := by
  obtain ⟨h1, h2⟩ := h
  refine ⟨h1, ?_⟩
  rcases h2 with h2 | ⟨g, cap, cur, hv, hg, hh, r⟩
  · exact Or.inl h2
  · refine Or.inr ⟨g, cap, cur, hv, hg, ?_, r⟩
    have hlt := (Array.getElem?_eq_some_iff.1 hh).1
    rw [hx.block g (by omega) (fun e => by have := hp g e.symm; omega)]
    exact hh

/-- The slice at 'ao' with 'xs.length' elements reads as the list of ints xs. -/
def IntsAt (w : World) (ao : Option Addr) (xs : List Int) : Prop :=
  ∀ j, j < xs.length → ∃ b off, ao = some ⟨b, off, none⟩ ∧ ∀ i, i < xs.length → w.cell? ⟨b, off + i, none⟩ = some (.int .i64 (xs.getD i 0))

/-- Block q is not where the slice at 'ao' lies. -/
def Away (q : Nat) (ao : Option Addr) : Prop := ∀ a, ao = some a → a.block ≠ q

theorem IntsAt.keep {w w' : World} {ao : Option Addr} {xs : List Int} {B : Nat} {p : Option Nat} (h : IntsAt w ao xs) (hb : Ex B p w w') (hB : w.heap.size ≤ B) (hp : ∀ q, p = some q → xs ≠ [] → Away q ao) : IntsAt w' ao xs := by
  intro j hj
  obtain ⟨b, off, e, hc⟩ := h j hj
  refine ⟨b, off, e, fun i hi => ?_⟩
  have h1 := hc i hi
  have h2 : b < w.heap.size := World.block_lt_of_cell? w _ h1
  exact (World.cell?_of_block (w := w) (hb.block b (by omega) (fun e' => hp b e'.symm (by intro h; simp [h] at hj) _ e rfl))).trans h1

theorem IntsAt.get {w : World} {ao : Option Addr} {xs : List Int} (h : IntsAt w ao xs) (k : Nat) (hk : k < xs.length) : ∃ b off y, ao = some ⟨b, off, none⟩ ∧ w.cell? ⟨b, off + k, none⟩ = some (.int .i64 y) ∧ Hid (xs.getD k 0 = y) := by
  obtain ⟨b, off, e, hc⟩ := h k hk
  exact ⟨b, off, _, e, hc k hk, rfl⟩

theorem IntsAt.lt {w : World} {ao : Option Addr} {xs : List Int} (h : IntsAt w ao xs) (hne : xs ≠ []) : ∀ a, ao = some a → a.block < w.heap.size := by
  intro a ha
  obtain ⟨b, off, e, hc⟩ := h 0 (List.length_pos_iff.2 hne)
  rw [e] at ha; cases ha
  exact World.block_lt_of_cell? w _ (hc 0 (List.length_pos_iff.2 hne))

theorem IntsAt.nil (w : World) (ao : Option Addr) : IntsAt w ao [] := fun j hj => by cases hj

/-- The slice value v reads as xs. -/
def Ints (w : World) (v : Value) (xs : List Int) : Prop := ∃ ao cap, v = .slice ao xs.length cap ∧ IntsAt w ao xs
theorem Ints.keep {w w' : World} {v : Value} {xs : List Int} {B : Nat} (h : Ints w v xs) (hx : Ex B none w w') (hB : w.heap.size ≤ B) : Ints w' v xs := by
  obtain ⟨ao, cap, e, h⟩ := h
  exact ⟨ao, cap, e, h.keep hx hB (by simp)⟩
theorem Ints.nil (w : World) : Ints w (.slice none 0 0) [] := ⟨none, 0, rfl, IntsAt.nil _ _⟩
theorem IntsAt.lit (w : World) (xs : List Int) : IntsAt (w.alloc (.cells (xs.map (Value.int .i64)).toArray 3)) (some ⟨w.heap.size, 0, none⟩) xs := by
  intro j hj
  refine ⟨_, _, rfl, fun i hi => ?_⟩
  rw [cell_of_row _ _ _ _ _ _ (heap_alloc_new w _)]
  simp [List.getD, hi]
theorem Ints.lit {w : World} (xs : List Int) {n g : Nat} (hg : g = w.heap.size) (hn : n = xs.length) : Ints (w.alloc (.cells (xs.map (Value.int .i64)).toArray 3)) (.slice (some ⟨g, 0, none⟩) n n) xs := by
  subst hn hg; exact ⟨_, _, rfl, IntsAt.lit w xs⟩

/-- The slice at 'ao' owns the ints xs, in a block from 'base' on. -/
def OwnI (w : World) (base : Nat) (ao : Option Addr) (cap : Nat) (xs : List Int) : Prop := w.ownsRow base 3 1 (.slice ao xs.length cap) xs.length (xs.map (Value.int .i64))

theorem OwnI.nil (w : World) (base : Nat) : OwnI w base none 0 [] := World.ownsRow_nil w base _ 1
theorem OwnI.keep {w w' : World} {base B : Nat} {p : Option Nat} {ao : Option Addr} {cap : Nat} {xs : List Int} (h : OwnI w base ao cap xs) (hx : Ex B p w w') (hB : w.heap.size ≤ B) (hp : ∀ q, p = some q → q < base) : OwnI w' base ao cap xs := own_keep h hx hB hp
theorem OwnI.lt {w : World} {base : Nat} {ao : Option Addr} {cap : Nat} {xs : List Int} (h : OwnI w base ao cap xs) : ∀ a, ao = some a → base ≤ a.block ∧ a.block < w.heap.size := by
  intro a e; subst e; exact World.ownsRow.lt h _ rfl
theorem OwnI.away {w : World} {base : Nat} {ao : Option Addr} {cap : Nat} {xs : List Int} (h : OwnI w base ao cap xs) {q : Nat} (hq : q < base) : Away q ao := fun a e => by have := h.lt a e; omega
theorem OwnI.ints {w : World} {base : Nat} {ao : Option Addr} {cap : Nat} {xs : List Int} (h : OwnI w base ao cap xs) : IntsAt w ao xs := by
  intro j hj
  rcases h.2 with ⟨_, h0⟩ | ⟨g, cap', cur, hv, _⟩
  · omega
  · simp only [Value.slice.injEq] at hv
    obtain ⟨rfl, _, rfl⟩ := hv
    refine ⟨g, 0, rfl, fun i hi => ?_⟩
    have := World.ownsRow.cells h (g := g) rfl i (.int .i64 (xs.getD i 0)) (by simp [List.getD, hi])
    simpa [Addr.add_lit] using this

theorem OwnI.v {w : World} {base : Nat} {ao : Option Addr} {cap : Nat} {xs : List Int} (h : OwnI w base ao cap xs) : Ints w (.slice ao xs.length cap) xs := ⟨_, _, rfl, h.ints⟩
/-- A contract whose answer is known. -/
theorem asB {P : Program} {f : FuncId} {args : Array Value} {w : World} {a b : Bool} {R : World → Prop} (h : Calls P f args w fun e w' => e = .returned (.bool a) ∧ R w') (hab : a = b) : Calls P f args w fun e w' => e = .returned (.bool b) ∧ R w' := by
  subst hab; exact h

/-- What the shell of a law's proof says of a slice of ints that came in, in the words of this text. -/
theorem ints_of_row {w : World} {a : Option Addr} {len cap : Nat} {zs : List Int} (h : (a = none ∧ len = 0 ∧ cap = 0 ∧ zs = []) ∨
    ∃ x, a = some x ∧ len ≤ cap ∧ cap ≤ maxLen ∧ zs.length = cap ∧ (∀ i, i < zs.length → w.cell? (x.add i) = some (.int .i64 (zs.getD i 0))) ∧ ∀ n ∈ zs, (Lit.int .i64 n).wf = true) :
    Ints w (.slice a len cap) (zs.take len) ∧ (zs.take len).length ≤ 9223372036854775807 ∧ ∀ n ∈ zs.take len, (Lit.int .i64 n).wf = true := by
  rcases h with ⟨rfl, rfl, rfl, rfl⟩ | ⟨x, rfl, h1, h2, h3, h4, h5⟩
  · exact ⟨Ints.nil w, by simp, by simp⟩
  · have hl : (zs.take len).length = len := by simp; omega
    unfold maxLen at h2
    refine ⟨⟨some x, cap, by rw [hl], fun j hj => ?_⟩, by omega, fun n hn => h5 n (List.mem_of_mem_take hn)⟩
    obtain ⟨b, off, spot⟩ := x
    have h0 := h4 0 (by omega)
    have hs : spot = none := by simpa [Addr.add] using World.cell?_spot h0
    subst hs
    refine ⟨b, off, rfl, fun i hi => ?_⟩
    have := h4 i (by omega)
    rw [Addr.add_lit] at this
    rw [this]
    simp only [List.getD, List.getElem?_take]
    rw [if_pos (by omega)]

theorem OwnI.cap {w : World} {base : Nat} {ao : Option Addr} {cap : Nat} {xs : List Int} (h : OwnI w base ao cap xs) : xs.length ≤ cap := by
  rcases h.2 with ⟨hv, h0⟩ | ⟨g, cap', cur, hv, _, _, hn, _⟩
  · omega
  · simp only [Value.slice.injEq] at hv
    obtain ⟨_, _, rfl⟩ := hv
    exact hn
theorem IntsAt.take {w : World} {ao : Option Addr} {xs : List Int} (h : IntsAt w ao xs) (k : Nat) : IntsAt w ao (xs.take k) := by
  intro j hj
  have hj' : j < xs.length := by simp at hj; omega
  obtain ⟨b, off, e, hc⟩ := h j hj'
  refine ⟨b, off, e, fun i hi => ?_⟩
  have hi' : i < xs.length ∧ i < k := by simp at hi; omega
  rw [hc i hi'.1]
  simp [List.getD, hi'.2]

/-- The slice value v reads as xs, and does not lie in block p. -/
def IntsO (p : Nat) (w : World) (v : Value) (xs : List Int) : Prop := ∃ ao cap, v = .slice ao xs.length cap ∧ IntsAt w ao xs ∧ (xs ≠ [] → Away p ao)
theorem IntsO.v {p : Nat} {w : World} {v : Value} {xs : List Int} (h : IntsO p w v xs) : Ints w v xs := by
  obtain ⟨ao, cap, e, h, _⟩ := h
  exact ⟨ao, cap, e, h⟩
theorem IntsO.keep {p : Nat} {q : Option Nat} {w w' : World} {v : Value} {xs : List Int} {B : Nat} (h : IntsO p w v xs) (hx : Ex B q w w') (hB : w.heap.size ≤ B) (hq : q = none ∨ q = some p) : IntsO p w' v xs := by
  obtain ⟨ao, cap, e, h, ha⟩ := h
  exact ⟨ao, cap, e, h.keep hx hB (fun x e' hne => by
    rcases hq with hq | hq
    · rw [hq] at e'; cases e'
    · rw [hq] at e'; cases e'; exact ha hne), ha⟩
theorem Ints.at' {w : World} {ao : Option Addr} {n cap : Nat} {xs : List Int} (h : Ints w (.slice ao n cap) xs) : IntsAt w ao xs := by
  obtain ⟨ao', cap', e, h⟩ := h
  cases e; exact h
/-- What lay there before block p was made does not lie in it. -/
theorem Ints.o {p : Nat} {w : World} {v : Value} {xs : List Int} (h : Ints w v xs) (hp : w.heap.size ≤ p) : IntsO p w v xs := by
  obtain ⟨ao, cap, e, h⟩ := h
  exact ⟨ao, cap, e, h, fun hne a ha => by have := h.lt hne a ha; omega⟩
theorem OwnI.o {p : Nat} {w : World} {base : Nat} {ao : Option Addr} {cap : Nat} {xs : List Int} (h : OwnI w base ao cap xs) (hp : p < base) : IntsO p w (.slice ao xs.length cap) xs := ⟨_, _, rfl, h.ints, fun _ => h.away hp⟩

theorem own_shape {w : World} {base e size n : Nat} {v : Value} {xs : List Value} (h : w.ownsRow base e size v n xs) : ∃ ao cap, v = .slice ao n cap := by
  rcases h.2 with ⟨rfl, rfl⟩ | ⟨g, cap, _, rfl, _⟩
  · exact ⟨none, 0, rfl⟩
  · exact ⟨_, cap, rfl⟩

/-- 'append(out, x)', out a slice of ints of the call's own: w0 is a world in which out is owned, w the one behind the block of x. -/
theorem wpList_appI {P : Program} {w0 w : World} {ops : Array Oper} {rest : List Oper} {o : Oper} {a : Act} {Q : Exit → Act → World → Prop} (hgd : o.guard = none) (s x : Operand) (t : TypeId)
    (ho : o.op = .call { callee := .builtin .append, args := #[s, x], argTypes := #[t, t] })
    (ht : P.underlying t = some (.slice 3)) (hinfo : (P.info? 3).map (fun i => (i.zero, i.size, i.bytes)) = some (some (.int .i64 0), 1, 8))
    (base : Nat) (ao : Option Addr) (cap : Nat) (xs : List Int) (g : Nat) (y : Int) (hs : a.eval s = .slice ao xs.length cap) (hx : a.eval x = .slice (some ⟨g, 0, none⟩) 1 1)
    (hown : OwnI w0 base ao cap xs) (hw : Ex w0.heap.size none w0 w) (hcell : w.cell? ⟨g, 0, none⟩ = some (.int .i64 y)) (hlen : xs.length ≤ 1000000000000) (hbase : base ≤ w0.heap.size)
    (h : ∀ ao' cap' w', OwnI w' base ao' cap' (xs ++ [y]) → Ex base none w0 w' → wpList P ops Q rest (a.put o.dst (.slice ao' (xs.length + 1) cap')) w') : wpList P ops Q (o :: rest) a w := by
  obtain ⟨i0, hi, hz0, hz1, hz2⟩ := info_parts hinfo
  have hown' : OwnI w base ao cap xs := hown.keep hw (Nat.le_refl _) (by simp)
  have hsz := hw.size
  refine wpList_append_own _ hgd s x t ho base 3 i0 (.int .i64 0) 1 8 ht hi hz0 hz1 hz2 rfl (by decide) _ _ _ hs hown' ⟨g, 0, none⟩ 1 1 [.int .i64 y] hx rfl ?_ ?_ (by simp only [maxLen]; omega) (by omega) (by omega) ?_
  · intro j u hj
    match j, hj with
    | 0, hj => simp at hj; subst hj; simpa [Addr.add] using hcell
  · intro u hu; simp at hu; subst hu; rfl
  · intro v' w' ho' hg _
    obtain ⟨ao', cap', rfl⟩ := own_shape ho'
    refine h ao' cap' w' ?_ ((hw.mono hbase).grown hg (by omega) ?_)
    · simpa [OwnI] using ho'
    · intro k hk
      have := World.ownsRow.lt hown' k hk
      exact this.1

theorem run_append_none {P : Program} {w : World} (base : Nat) (t ty e : TypeId) (i : TypeInfo) (size : Nat) (ht : P.underlying t = some (.slice e)) (hi : P.info? e = some i)
    (v : Value) (n c : Nat) (xs : List Value) (hown : w.ownsRow base e size v n xs) :
    (Builtin.append_ #[t, t] ty #[v, .slice none 0 c]).run P w = .ok v w := by
  rcases hown.2 with ⟨rfl, rfl⟩ | ⟨g, cap, cur, rfl, _, _, hnc, _⟩
  · simp [Builtin.append_, run_underlying ht, sizeOf, typeInfo, hi, Builtin.lenOf, Builtin.firstCells]
  · simp [Builtin.append_, run_underlying ht, sizeOf, typeInfo, hi, Builtin.lenOf, Builtin.firstCells, hnc, storeCells]

/-- 'append(out, src...)', out a slice of ints of the call's own, src a slice that reads as ys. -/
theorem wpList_appIs {P : Program} {w0 w : World} {ops : Array Oper} {rest : List Oper} {o : Oper} {a : Act} {Q : Exit → Act → World → Prop} (hgd : o.guard = none) (s x : Operand) (t : TypeId)
    (ho : o.op = .call { callee := .builtin .append, args := #[s, x], argTypes := #[t, t] })
    (ht : P.underlying t = some (.slice 3)) (hinfo : (P.info? 3).map (fun i => (i.zero, i.size, i.bytes)) = some (some (.int .i64 0), 1, 8))
    (base : Nat) (ao : Option Addr) (cap : Nat) (xs ys : List Int) (v u : Value) (n : Nat) (hn : n = xs.length) (hv : v = .slice ao n cap) (hs : a.eval s = v) (hx : a.eval x = u) (hu : Ints w u ys)
    (hown : OwnI w0 base ao cap xs) (hw : Ex w0.heap.size none w0 w) (hlen : xs.length + ys.length ≤ 1000000000000) (hbase : base ≤ w0.heap.size)
    (h : ∀ ao' cap' w', OwnI w' base ao' cap' (xs ++ ys) → Ex base none w0 w' → wpList P ops Q rest (a.put o.dst (.slice ao' (xs.length + ys.length) cap')) w') : wpList P ops Q (o :: rest) a w := by
  subst hn
  obtain ⟨i0, hi, hz0, hz1, hz2⟩ := info_parts hinfo
  have hown' : OwnI w base ao cap xs := hown.keep hw (Nat.le_refl _) (by simp)
  have hsz := hw.size
  subst hv
  obtain ⟨so, sc, rfl, hr⟩ := hu
  cases so with
  | none =>
    have hy : ys = [] := by
      cases ys with
      | nil => rfl
      | cons y r => obtain ⟨b, off, e, _⟩ := hr 0 (by simp); cases e
    subst hy
    refine wpList_plain hgd fun K hK => ?_
    have hrun := run_append_none (P := P) (w := w) base t o.type 3 i0 1 ht hi _ _ sc _ hown'
    unfold Oper.wp
    simp only [List.length_nil] at hx
    simp [execOp, ho, resolve, invoke, builtin, hs, hx, hrun, Result.andThen]
    exact hK _ _ (by simpa using h ao cap w (by simpa using hown') (hw.mono hbase))
  | some ad =>
    refine wpList_append_own _ hgd s x t ho base 3 i0 (.int .i64 0) 1 8 ht hi hz0 hz1 hz2 rfl (by decide) _ _ _ hs hown' ad ys.length sc (ys.map (Value.int .i64)) hx (by simp) ?_ (ints_oneCell _ _) (by simp only [maxLen]; omega) (by omega) (by omega) ?_
    · intro j u hj
      have hjl : j < ys.length := by
        have := (List.getElem?_eq_some_iff.1 hj).1
        simpa using this
      obtain ⟨b, off, e, hc⟩ := hr j hjl
      cases e
      rw [Addr.add_lit, hc j hjl]
      rw [← hj]; simp [List.getD, hjl]
    · intro v' w' ho' hg _
      obtain ⟨ao', cap', rfl⟩ := own_shape ho'
      refine h ao' cap' w' ?_ ((hw.mono hbase).grown hg (by omega) ?_)
      · simpa [OwnI] using ho'
      · intro k hk
        exact (World.ownsRow.lt hown' k hk).1

theorem OwnI.empty {base : Nat} (w : World) (hb : base ≤ w.heap.size) : OwnI (w.alloc (.cells #[] 3)) base (some ⟨w.heap.size, 0, none⟩) 0 [] := World.ownsRow_lit w #[] 0 hb (by decide) rfl

theorem take_succ_getD (xs : List Int) (k : Nat) (h : k < xs.length) : xs.take (k + 1) = xs.take k ++ [xs.getD k 0] := by
  rw [List.take_add_one, List.getElem?_eq_getElem h]; simp [List.getD, h]

theorem drewN_add (w : World) (n m : Nat) : (w.drewN n).drewN m = w.drewN (n + m) := by simp [World.drewN, Nat.add_assoc]

theorem ret_int {k : IntKind} {a b : Int} (h : a = b) : Ending.returned (.int k a) = .returned (.int k b) := by rw [h]
theorem ret_bool {a b : Bool} (h : a = b) : Ending.returned (.bool a) = .returned (.bool b) := by rw [h]
end Go.Proofs.Ytdmchekkcmjafaa

namespace Go.Proofs.Ytdmchekkcmjafaa

def hasI (xs : List Int) (x : Int) : Bool := xs.contains x
theorem hasI_nil (x : Int) : hasI [] x = false := rfl
theorem hasI_iff {xs : List Int} {x : Int} : hasI xs x = true ↔ x ∈ xs := by simp [hasI]
theorem hasI_not {xs : List Int} {x : Int} : hasI xs x = false ↔ x ∉ xs := by simp [hasI]
theorem hasI_snoc (xs : List Int) (y x : Int) : hasI (xs ++ [y]) x = (hasI xs x || y == x) := by
  unfold hasI; rw [Bool.eq_iff_iff]; simp [List.mem_append, Bool.or_eq_true, @eq_comm _ x y]
theorem hasI_take_none {xs : List Int} {x : Int} (h : hasI (xs.take xs.length) x = false) : hasI xs x = false := by simpa using h
theorem hasI_get {xs : List Int} {x : Int} {k : Nat} (hk : k < xs.length) (h : xs.getD k 0 = x) : hasI xs x = true := by
  rw [hasI_iff]; subst h; simp [List.getD, hk]
theorem take_snoc (xs : List Int) (k : Nat) (h : k < xs.length) : xs.take (k + 1) = xs.take k ++ [xs.getD k 0] := by
  rw [List.take_add_one, List.getElem?_eq_getElem h]; simp [List.getD, h]
theorem hasI_take_succ {xs : List Int} {x : Int} {k : Nat} (hk : k < xs.length) (h : hasI (xs.take k) x = false) (hne : xs.getD k 0 ≠ x) : hasI (xs.take (k + 1)) x = false := by
  rw [take_snoc xs k hk, hasI_snoc, h]; simpa using hne

/-- 0 .. n-1 for which c holds. -/
def keysTo (c : Int → Bool) : Nat → List Int
  | 0 => []
  | k + 1 => keysTo c k ++ (if c k then [(k : Int)] else [])
theorem keysTo_le (c : Int → Bool) (k : Nat) : (keysTo c k).length ≤ k := by
  induction k with
  | zero => simp [keysTo]
  | succ k ih => simp only [keysTo, List.length_append]; split <;> simp <;> omega
theorem mem_keysTo {c : Int → Bool} {n : Nat} {x : Int} : x ∈ keysTo c n ↔ 0 ≤ x ∧ x < n ∧ c x = true := by
  induction n with
  | zero => simp [keysTo]; omega
  | succ k ih =>
    simp only [keysTo, List.mem_append, ih]
    constructor
    · rintro (⟨a, b, d⟩ | h)
      · exact ⟨a, by omega, d⟩
      · split at h
        · simp at h; subst h; refine ⟨by omega, by omega, ?_⟩; assumption
        · simp at h
    · rintro ⟨a, b, d⟩
      by_cases e : x < k
      · exact Or.inl ⟨a, e, d⟩
      · have : x = k := by omega
        subst this; right; simp [d]
def joinI (a b : List Int) : List Int := keysTo (fun k => hasI a k || hasI b k) 64
def minusI (a b : List Int) : List Int := keysTo (fun k => hasI a k && !hasI b k) 64

/-- n modulo m, from 0 on. -/
def modI (n m : Int) : Int := if m < 1 then 0 else n % m
theorem modI_pos {n m : Int} (h : 1 ≤ m) : modI n m = n % m := by unfold modI; rw [if_neg (by omega)]
theorem modI_bd {n m : Int} (h : 1 ≤ m) : 0 ≤ modI n m ∧ modI n m < m := by
  rw [modI_pos h]; exact ⟨Int.emod_nonneg _ (by omega), Int.emod_lt_of_pos _ (by omega)⟩

/-- Dice: the numbers that are left. -/
def dVal (d : List Int) (n : Int) : Int := match d with | [] => 0 | x :: _ => modI x n
theorem dVal_bd {d : List Int} {n : Int} (h : 1 ≤ n) : 0 ≤ dVal d n ∧ dVal d n < n := by
  cases d with
  | nil => simp [dVal]; omega
  | cons x r => exact modI_bd h
def someTo (d : List Int) : Nat → List Int × List Int
  | 0 => ([], d)
  | k + 1 => ((someTo d k).1 ++ (if dVal (someTo d k).2 3 = 0 then [(k : Int)] else []), (someTo d k).2.tail)
theorem someTo_le (d : List Int) (k : Nat) : (someTo d k).1.length ≤ k := by
  induction k with
  | zero => simp [someTo]
  | succ k ih => simp only [someTo, List.length_append]; split <;> simp <;> omega
/-- Some keys below n, at least one: the keys, and what is left of the dice. -/
def keysD (d : List Int) (n : Int) : List Int × List Int :=
  if (someTo d n.toNat).1 = [] then ([dVal (someTo d n.toNat).2 n], (someTo d n.toNat).2.tail) else someTo d n.toNat

/-- The first newcomers of an order. -/
def newcTo (xs old : List Int) (q : Int) : Nat → List Int
  | 0 => []
  | k + 1 => if ((newcTo xs old q k).length : Int) < q ∧ hasI old (xs.getD k 0) = false ∧ hasI (newcTo xs old q k) (xs.getD k 0) = false then newcTo xs old q k ++ [xs.getD k 0] else newcTo xs old q k
def newc (xs old : List Int) (q : Int) : List Int := newcTo xs old q xs.length
theorem newcTo_le (xs old : List Int) (q : Int) (k : Nat) : (newcTo xs old q k).length ≤ k := by
  induction k with
  | zero => simp [newcTo]
  | succ k ih =>
    rw [newcTo]; split
    · rw [List.length_append]; simp; omega
    · omega
/-- When there are enough, nobody comes any more. -/
theorem newcTo_full {xs old : List Int} {q : Int} {k : Nat} (h : q ≤ ((newcTo xs old q k).length : Int)) (j : Nat) (hj : k ≤ j) : newcTo xs old q j = newcTo xs old q k := by
  induction j with
  | zero => have : k = 0 := by omega
            subst this; rfl
  | succ j ih =>
    by_cases e : k = j + 1
    · subst e; rfl
    · have := ih (by omega)
      rw [newcTo, this, if_neg (by omega)]
def fitsI (old next : List Int) (q : Int) : Bool := decide (((newc next old next.length).length : Int) ≤ q)
def thereTo (g ks : List Int) : Nat → Nat
  | 0 => 0
  | k + 1 => thereTo g ks k + (if hasI g (ks.getD k 0) then 1 else 0)
theorem thereTo_le (g ks : List Int) (k : Nat) : thereTo g ks k ≤ k := by
  induction k with
  | zero => simp [thereTo]
  | succ k ih => simp only [thereTo]; split <;> omega
def mostI (g ks : List Int) (e q : Int) : Int := min (ks.length : Int) (thereTo g ks ks.length + e * q)
end Go.Proofs.Ytdmchekkcmjafaa

namespace Go.Proofs.Ytdmchekkcmjafaa
open Go.RowKit

theorem tmod_neg {n m : Int} (hm : 1 ≤ m) (h : n.tmod m < 0) : n.tmod m + m = modI n m := by
  rw [modI_pos hm, Int.tmod_eq_emod]
  rw [Int.tmod_eq_emod] at h
  split at h <;> rename_i h' <;> simp only [h', ↓reduceIte] at h ⊢
  · have := Int.emod_nonneg n (show m ≠ 0 by omega); omega
  · have : (m.natAbs : Int) = m := by omega
    omega
theorem tmod_pos {n m : Int} (hm : 1 ≤ m) (h : ¬ n.tmod m < 0) : n.tmod m = modI n m := by
  rw [modI_pos hm, Int.tmod_eq_emod]
  rw [Int.tmod_eq_emod] at h
  have := Int.emod_lt_of_pos n (show 0 < m by omega)
  split at h <;> rename_i h' <;> simp only [h', ↓reduceIte] at h ⊢
  · simp
  · have : (m.natAbs : Int) = m := by omega
    omega
theorem tmod_bd {n m : Int} (hm : 1 ≤ m) : -m ≤ n.tmod m ∧ n.tmod m < m := by
  by_cases h : n.tmod m < 0
  · have := tmod_neg hm h; have := modI_bd (n := n) hm; omega
  · have := tmod_pos hm h; have := modI_bd (n := n) hm; omega

set_option maxHeartbeats 400000 in
theorem mod_any (n m : Int) (w : World) (hm : m ≤ 4611686018427387904) :
    Calls Try.prog 23 #[.int .i64 n, .int .i64 m] w fun e w' => e = .returned (.int .i64 (modI n m)) ∧ w = w' := by
  by_cases h1 : m < 1
  · go_enter Try.func23, Try.ntmps23
    go_wp2
    go_ret
    exact ⟨ret_int (by unfold modI; rw [if_pos h1]), rfl⟩
  · obtain ⟨b1, b2⟩ := tmod_bd (n := n) (show 1 ≤ m by omega)
    by_cases h2 : n.tmod m < 0
    · have H := Lib.hid (tmod_neg (show 1 ≤ m by omega) h2)
      go_enter Try.func23, Try.ntmps23
      go_wp2
      go_ret
      exact ⟨ret_int H.out, rfl⟩
    · have H := Lib.hid (tmod_pos (show 1 ≤ m by omega) h2)
      go_enter Try.func23, Try.ntmps23
      go_wp2
      go_ret
      exact ⟨ret_int H.out, rfl⟩

end Go.Proofs.Ytdmchekkcmjafaa

namespace Go.Proofs.Ytdmchekkcmjafaa
open Go.RowKit

theorem Try.infoInt : (Try.prog.info? 3).map (fun i => (i.zero, i.size, i.bytes)) = some (some (.int .i64 0), 1, 8) := by kernel_rfl
end Go.Proofs.Ytdmchekkcmjafaa
