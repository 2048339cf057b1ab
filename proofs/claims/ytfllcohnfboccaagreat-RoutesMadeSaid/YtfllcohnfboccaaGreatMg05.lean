/- A slice of statements that the call owns, their lists too: words; ref03.Copy in plain cells. No statement of the seat. | Slices of bytes, and appends of elements held by value in whatever region. For whatever program; no statement of the seat. | Numbers in their cells, by value. No statement of the seat. | ref09.Until, Window: contracts, no statement of the seat. | append of statements to a slice of statements that the call owns, one or many, in a plain region or in one that draws its order. No statement of the seat. | Edges of a graph as data, and how memory holds them. No statement of the seat. | ref11: Has, before, Set, Check at a graph that is right. No statement of the seat. | ref11.Check at a graph that is right; ref11.index. No statement of the seat. | ref11.index. No statement of the seat. | Owned slices stay where their own block is not turned. No statement of the seat. -/
import Derived.Test.YtfllcohnfboccaaGreatSameListG
import Derived.Test.YtfllcohnfboccaaGreatMg02
import Derived.Maps.AppendAt
import Derived.Lib.AppendStr
import Derived.Laws.BytesArg
import Derived.Laws.BitsLemmas
import Derived.Deep.RegionLaw
import Derived.Test.YtfllcohnfboccaaGreatMg00
import Derived.BigQuiet
import Derived.Deep.Cut
import Derived.IntWalk
namespace Go.Proofs.YtfllcohnfboccaaGreat
open Go.RowKit Go.Sort

theorem Tryz.infoSt : (Tryz.prog.info? 53).map (fun i => (i.zero, i.size, i.bytes)) = some (some (.agg #[.int .i64 0, .int .i64 0, .string ⟨#[]⟩, .int .i64 0, .int .i64 0, .int .i64 0, .int .i64 0, .int .i64 0, .slice none 0 0, .slice none 0 0, .string ⟨#[]⟩, .int .i64 0, .string ⟨#[]⟩]), 13, 160) := by kernel_rfl

/-- The block of a slice's row. -/
def rowOf (ao : Option Addr) : Option Nat := ao.map (·.block)
/-- The slice at ao owns the statements l, and all that their lists lie in (not in the row itself), from 'base' on. -/
def OwnS (w : World) (base : Nat) (ao : Option Addr) (cap : Nat) (l : List St) : Prop :=
  ∃ xs : List (St × Sv × Sv), xs.map (·.1) = l ∧ OwnE stE 13 53 w base ao cap xs ∧ ∀ x ∈ xs, Lies (fun b => base ≤ b ∧ rowOf ao ≠ some b) w x
theorem OwnS.nil (w : World) (base : Nat) : OwnS w base none 0 [] := ⟨[], rfl, OwnE.nil _ _ _ _ _, fun x hx => by simp at hx⟩
theorem OwnS.keep {w w' : World} {base B : Nat} {ao : Option Addr} {cap : Nat} {l : List St} (h : OwnS w base ao cap l) (hx : Ex B none w w') (hB : w.heap.size ≤ B) : OwnS w' base ao cap l := by
  obtain ⟨xs, e, h1, h2⟩ := h
  exact ⟨xs, e, h1.keep hx hB (by simp), fun x hxx => (h2 x hxx).keep fun b _ hb => hx.block b (by omega) (by simp)⟩
theorem OwnS.sl {w : World} {base : Nat} {ao : Option Addr} {cap : Nat} {l : List St} (h : OwnS w base ao cap l) : Sl stRep (fun b => base ≤ b) w (.slice ao l.length cap) l := by
  obtain ⟨xs, rfl, h1, h2⟩ := h
  refine ⟨ao, cap, by simp, ?_⟩
  rcases h1.cases with ⟨_, _, h0⟩ | ⟨g, rfl, hb, _, _⟩
  · subst h0; exact SlAt.nil _ _ _
  · exact st_sl hb (h1.holds stE_len) (fun x hx => (h2 x hx).mono fun b hb _ => hb.1)

/-- 'append(out, x)', out a slice of statements of the call's own, x a statement whose lists the call owns. -/
theorem wpList_appS {P : Program} {w : World} {ops : Array Oper} {rest : List Oper} {o : Oper} {a : Act} {Q : Exit → Act → World → Prop} (hgd : o.guard = none) (s u : Operand) (t : TypeId)
    (ho : o.op = .call { callee := .builtin .append, args := #[s, u], argTypes := #[t, t] }) (ht : P.underlying t = some (.slice 53))
    (hinfo : (P.info? 53).map (fun i => (i.zero, i.size, i.bytes)) = some (some (.agg #[.int .i64 0, .int .i64 0, .string ⟨#[]⟩, .int .i64 0, .int .i64 0, .int .i64 0, .int .i64 0, .int .i64 0, .slice none 0 0, .slice none 0 0, .string ⟨#[]⟩, .int .i64 0, .string ⟨#[]⟩]), 13, 160))
    (base : Nat) (ao : Option Addr) (cap n : Nat) (l : List St) (hn : n = l.length) (hs : a.eval s = .slice ao n cap) (g : Nat) (hu : a.eval u = .slice (some ⟨g, 0, none⟩) 1 1) (x : St × Sv × Sv)
    (hown : OwnS w base ao cap l) (hc : ∀ (j : Nat) (v : Value), (stE x)[j]? = some v → w.cell? ⟨g, j, none⟩ = some v) (hx : Lies (fun b => base ≤ b ∧ rowOf ao ≠ some b) w x) (hlen : l.length ≤ 1000000) (hbase : base ≤ w.heap.size)
    (h : ∀ ao' cap' w', OwnS w' base ao' cap' (l ++ [x.1]) → Ex base none w w' → wpList P ops Q rest (a.put o.dst (.slice ao' (l.length + 1) cap')) w') : wpList P ops Q (o :: rest) a w := by
  subst hn
  obtain ⟨i0, hi, hz0, hz1, hz2⟩ := info_parts hinfo
  obtain ⟨xs, rfl, h1, h2⟩ := hown
  have e1 : (xs.map (·.1)).length = xs.length := by simp
  rw [e1] at hs
  refine wpList_append_own_at _ hgd s u t ho base 53 i0 _ 13 160 ht hi hz0 hz1 hz2 rfl (by decide) _ _ _ hs h1 ⟨g, 0, none⟩ 1 1 (stE x) hu rfl (fun j v hv => by rw [Addr.add_lit, Nat.zero_add]; exact hc j v hv) (one_stE x) (by simp only [maxLen]; omega) (by omega) hbase ?_
  intro v' w' ho' hg _ hnew
  obtain ⟨ao', cap', rfl⟩ := own_shape ho'
  rw [e1] at h
  have hrow : (Value.slice ao xs.length cap).ownBlock = rowOf ao := by cases ao <;> rfl
  have hrow' : (Value.slice ao' (xs.length + 1) cap').ownBlock = rowOf ao' := by cases ao' <;> rfl
  rw [hrow] at hg hnew
  rw [hrow'] at hnew
  have hkeep : ∀ y, Lies (fun b => base ≤ b ∧ rowOf ao ≠ some b) w y → Lies (fun b => base ≤ b ∧ rowOf ao' ≠ some b) w' y := fun y hy => by
    refine Lies.mono (P := fun b => (base ≤ b ∧ rowOf ao ≠ some b) ∧ b < w.heap.size) (Lies.keep (w := w) (hy.mono fun b hb hlt => ⟨hb, hlt⟩) fun b hb hlt => hg.block b hlt (fun e => hb.1.2 e.symm)) (fun b hb _ => ⟨hb.1.1, fun e => ?_⟩)
    rcases hb with ⟨⟨_, hb1⟩, hb2⟩
    rcases hnew with h0 | h0
    · exact hb1 (h0 ▸ e)
    · rw [e] at h0; cases h0; omega
  refine h ao' cap' w' ⟨xs ++ [x], by simp, ?_, fun y hy => ?_⟩ ?_
  · unfold OwnE
    have e2 : flatL stE (xs ++ [x]) = flatL stE xs ++ stE x := by simp [flatL]
    rw [e2, List.length_append]; exact ho'
  · simp only [List.mem_append, List.mem_singleton] at hy
    rcases hy with hy | rfl
    · exact hkeep y (h2 y hy)
    · exact hkeep y hx
  · refine ⟨hg.os, hg.tape, hg.output, hg.size, fun k hk _ => hg.block k (by omega) (fun e => ?_)⟩
    cases ao with
    | none => cases e
    | some ad =>
      have := (h1.lt ad rfl).1
      simp [rowOf] at e
      omega

/-- The cells of a statement, written out. -/
def cellsS (s : St) (lo : Option Addr) (ln lc : Nat) (po : Option Addr) (pn pc : Nat) : List Value :=
  [.int .i64 s.author, .int .i64 s.number, .string s.prev, .int .i64 s.time, .int .i64 s.kind, .int .i64 s.a, .int .i64 s.b, .int .i64 s.c, .slice lo ln lc, .slice po pn pc, .string s.body, .int .i64 s.key, .string s.dig]
theorem copy03_lit {P : Nat → Prop} (s : St) (lo po : Option Addr) (ln lc pn pc : Nat) (w : World) (hx : Lies P w (s, ⟨lo, ln, lc⟩, ⟨po, pn, pc⟩)) (hm : s.list.length ≤ 1000000 ∧ s.pins.length ≤ 1000000) :
    Calls Tryz.prog 114 #[.agg #[.int .i64 s.author, .int .i64 s.number, .string s.prev, .int .i64 s.time, .int .i64 s.kind, .int .i64 s.a, .int .i64 s.b, .int .i64 s.c, .slice lo ln lc, .slice po pn pc, .string s.body, .int .i64 s.key, .string s.dig]] w fun e w' =>
      ∃ (la : Option Addr) (na ca : Nat) (pa : Option Addr) (np cp : Nat), e = .returned (.agg #[.int .i64 s.author, .int .i64 s.number, .string s.prev, .int .i64 s.time, .int .i64 s.kind, .int .i64 s.a, .int .i64 s.b, .int .i64 s.c, .slice la na ca, .slice pa np cp, .string s.body, .int .i64 s.key, .string s.dig]) ∧
        Lies (fun b => w.heap.size ≤ b) w' (s, ⟨la, na, ca⟩, ⟨pa, np, cp⟩) ∧ Ex w.heap.size none w w' :=
  (copy03_any s lo po ln lc pn pc w hx.1 hx.2 hm.1 hm.2).mono fun _ _ ⟨⟨la, na, ca⟩, ⟨pa, np, cp⟩, he, hl, hex⟩ => ⟨la, na, ca, pa, np, cp, he, hl, hex⟩

end Go.Proofs.YtfllcohnfboccaaGreat

namespace Go.Proofs.YtfllcohnfboccaaGreat
open Go.RowKit Go.Sort

section
variable {α : Type} [Inhabited α]
omit [Inhabited α] in
/-- append(out, src...) at the operation: out is owned. -/
theorem wp_appE {P : Program} {w : World} {o : Oper} {a : Act} {K : Act → World → Prop} {Q : Exit → Act → World → Prop} (s u : Operand) (t e : TypeId)
    (ho : o.op = .call { callee := .builtin .append, args := #[s, u], argTypes := #[t, t] }) (ht : P.underlying t = some (.slice e)) (z : Value) (k bytes : Nat)
    (hinfo : (P.info? e).map (fun i => (i.zero, i.size, i.bytes)) = some (some z, k, bytes)) (hzc : z.cells.size = k) (hk0 : 0 < k) (hb : bytes ≤ 1000)
    (enc : α → List Value) (hk : ∀ x, (enc x).length = k) (h1 : ∀ x, ∀ v ∈ enc x, v.oneCell' = true)
    (base : Nat) (ao : Option Addr) (cap n : Nat) (xs : List α) (hn : xs.length = n) (hs : a.eval s = .slice ao n cap) (so : Option Addr) (m sc : Nat) (hu : a.eval u = .slice so m sc) (ys : List α) (hm : ys.length = m)
    (hown : OwnE enc k e w base ao cap xs) (hsrc : ys.length = 0 ∨ ∃ ad, so = some ad ∧ ∀ (j : Nat) (v : Value), (flatL enc ys)[j]? = some v → w.cell? (ad.add j) = some v) (hlen : n + m ≤ 10000000) (hbase : base ≤ w.heap.size) (r : Nat) (hr : n + m = r)
    (h : ∀ ao' cap' w', OwnE enc k e w' base ao' cap' (xs ++ ys) → Ex base none w w' → (∀ b, b < w.heap.size → rowOf ao ≠ some b → w'.heap[b]? = w.heap[b]?) → (rowOf ao' = rowOf ao ∨ rowOf ao' = some w.heap.size) → K (a.put o.dst (.slice ao' r cap')) w') : o.wp P a w K Q := by
  subst hr hn hm
  obtain ⟨i0, hi, hz0, hz1, hz2⟩ := info_parts hinfo
  have key : ∀ so ad, so = some ad → a.eval u = .slice so ys.length sc → (∀ (j : Nat) (v : Value), (flatL enc ys)[j]? = some v → w.cell? (ad.add j) = some v) → o.wp P a w K Q := fun so ad e2 hu hc => by
    subst e2
    have hbb : (xs.length + ys.length) * bytes ≤ 140737488355328 := by have := Nat.mul_le_mul hlen hb; omega
    obtain ⟨v', w', hr, ho', hg, _, hnew⟩ := run_append_own_at (P := P) w base t o.type e i0 z k bytes ht hi hz0 hz1 hz2 hzc hk0 _ _ _ hown ad ys.length sc (flatL enc ys) (flatL_len hk ys) hc (flatL_one h1 ys) (by simp only [maxLen]; omega) hbb hbase
    obtain ⟨ao', cap', rfl⟩ := own_shape ho'
    have hrow : (Value.slice ao xs.length cap).ownBlock = rowOf ao := by cases ao <;> rfl
    have hrow' : (Value.slice ao' (xs.length + ys.length) cap').ownBlock = rowOf ao' := by cases ao' <;> rfl
    rw [hrow] at hg hnew
    rw [hrow'] at hnew
    unfold Oper.wp execOp
    simp only [ho, resolve, invoke, builtin, Sem.run_bind, Sem.run_pure, Result.andThen_ok, List.map_toArray, List.map_cons, List.map_nil, hs, hu, hr]
    refine h ao' cap' w' ?_ ?_ (fun b hb hne => hg.block b hb (fun e => hne e.symm)) hnew
    · unfold OwnE
      have e2 : flatL enc (xs ++ ys) = flatL enc xs ++ flatL enc ys := by simp [flatL]
      rw [e2, List.length_append]; exact ho'
    · refine ⟨hg.os, hg.tape, hg.output, hg.size, fun q hq _ => hg.block q (by omega) (fun e => ?_)⟩
      cases ao with
      | none => cases e
      | some ad =>
        have := (hown.lt ad rfl).1
        simp [rowOf] at e
        omega
  rcases hsrc with h0 | ⟨ad, e2, hc⟩
  · have hy : ys = [] := List.eq_nil_of_length_eq_zero h0
    cases so with
    | some ad => exact key _ ad rfl hu (fun j v hv => by subst hy; simp [flatL] at hv)
    | none =>
      subst hy
      have hrun := run_append_none (P := P) (w := w) base t o.type _ i0 k ht hi _ _ sc _ hown
      unfold Oper.wp execOp
      simp only [ho, resolve, invoke, builtin, Sem.run_bind, Sem.run_pure, Result.andThen_ok, List.map_toArray, List.map_cons, List.map_nil, hs, hu, List.length_nil, hrun]
      exact h ao cap w (by simpa using hown) (Ex.refl _ _ _) (fun _ _ _ => rfl) (.inl rfl)
  · exact key so ad e2 hu hc
omit [Inhabited α] in
theorem step_appE {P : Program} {w : World} {ops : Array Oper} {o : Oper} {a : Act} {K : Act → World → Prop} {Q : Exit → Act → World → Prop} {E : Prop} (hgd : o.guard = none) (s u : Operand) (t e : TypeId)
    (ho : o.op = .call { callee := .builtin .append, args := #[s, u], argTypes := #[t, t] }) (ht : P.underlying t = some (.slice e)) (z : Value) (k bytes : Nat)
    (hinfo : (P.info? e).map (fun i => (i.zero, i.size, i.bytes)) = some (some z, k, bytes)) (hzc : z.cells.size = k) (hk0 : 0 < k) (hb : bytes ≤ 1000)
    (enc : α → List Value) (hk : ∀ x, (enc x).length = k) (h1 : ∀ x, ∀ v ∈ enc x, v.oneCell' = true)
    (base : Nat) (ao : Option Addr) (cap n : Nat) (xs : List α) (hn : xs.length = n) (hs : a.eval s = .slice ao n cap) (so : Option Addr) (m sc : Nat) (hu : a.eval u = .slice so m sc) (ys : List α) (hm : ys.length = m)
    (hown : OwnE enc k e w base ao cap xs) (hsrc : ys.length = 0 ∨ ∃ ad, so = some ad ∧ ∀ (j : Nat) (v : Value), (flatL enc ys)[j]? = some v → w.cell? (ad.add j) = some v) (hlen : n + m ≤ 10000000) (hbase : base ≤ w.heap.size) (r : Nat) (hr : n + m = r)
    (h : ∀ ao' cap' w', OwnE enc k e w' base ao' cap' (xs ++ ys) → Ex base none w w' → (∀ b, b < w.heap.size → rowOf ao ≠ some b → w'.heap[b]? = w.heap[b]?) → (rowOf ao' = rowOf ao ∨ rowOf ao' = some w.heap.size) → K (a.put o.dst (.slice ao' r cap')) w') :
    if Region.wanted o (yielded ops a.tmps) = true then o.wp P a w K Q else E := by
  rw [if_pos (show Region.wanted o (yielded ops a.tmps) = true by simp [Region.wanted, hgd])]
  exact wp_appE s u t e ho ht z k bytes hinfo hzc hk0 hb enc hk h1 base ao cap n xs hn hs so m sc hu ys hm hown hsrc hlen hbase r hr h
omit [Inhabited α] in
theorem wpList_appE2 {P : Program} {w : World} {ops : Array Oper} {rest : List Oper} {o : Oper} {a : Act} {Q : Exit → Act → World → Prop} (hgd : o.guard = none) (s u : Operand) (t e : TypeId)
    (ho : o.op = .call { callee := .builtin .append, args := #[s, u], argTypes := #[t, t] }) (ht : P.underlying t = some (.slice e)) (z : Value) (k bytes : Nat)
    (hinfo : (P.info? e).map (fun i => (i.zero, i.size, i.bytes)) = some (some z, k, bytes)) (hzc : z.cells.size = k) (hk0 : 0 < k) (hb : bytes ≤ 1000)
    (enc : α → List Value) (hk : ∀ x, (enc x).length = k) (h1 : ∀ x, ∀ v ∈ enc x, v.oneCell' = true)
    (base : Nat) (ao : Option Addr) (cap n : Nat) (xs : List α) (hn : xs.length = n) (hs : a.eval s = .slice ao n cap) (so : Option Addr) (m sc : Nat) (hu : a.eval u = .slice so m sc) (ys : List α) (hm : ys.length = m)
    (hown : OwnE enc k e w base ao cap xs) (hsrc : ys.length = 0 ∨ ∃ ad, so = some ad ∧ ∀ (j : Nat) (v : Value), (flatL enc ys)[j]? = some v → w.cell? (ad.add j) = some v) (hlen : n + m ≤ 10000000) (hbase : base ≤ w.heap.size) (r : Nat) (hr : n + m = r)
    (h : ∀ ao' cap' w', OwnE enc k e w' base ao' cap' (xs ++ ys) → Ex base none w w' → (∀ b, b < w.heap.size → rowOf ao ≠ some b → w'.heap[b]? = w.heap[b]?) → (rowOf ao' = rowOf ao ∨ rowOf ao' = some w.heap.size) → wpList P ops Q rest (a.put o.dst (.slice ao' r cap')) w') : wpList P ops Q (o :: rest) a w :=
  wpList_plain hgd fun _K hK => wp_appE s u t e ho ht z k bytes hinfo hzc hk0 hb enc hk h1 base ao cap n xs hn hs so m sc hu ys hm hown hsrc hlen hbase r hr fun ao' cap' w' h1 h2 h3 h4 => hK _ _ (h ao' cap' w' h1 h2 h3 h4)
end

theorem OwnE.lowerE {α : Type} {enc : α → List Value} {k : Nat} {e : TypeId} {w : World} {base base' : Nat} {ao : Option Addr} {cap : Nat} {xs : List α} (h : OwnE enc k e w base ao cap xs) (hb : base' ≤ base) : OwnE enc k e w base' ao cap xs := by
  refine ⟨h.1, ?_⟩
  rcases h.2 with h | ⟨g, c, cur, e1, e2, e3⟩
  · exact .inl h
  · exact .inr ⟨g, c, cur, e1, by omega, e3⟩
/-- A byte in its cell. -/
def byE (b : UInt8) : List Value := [.int .u8 b.toNat]
theorem byE_len (b : UInt8) : (byE b).length = 1 := rfl
theorem one_byE : ∀ b, ∀ v ∈ byE b, v.oneCell' = true := fun b v hv => by simp [byE] at hv; subst hv; rfl
def byRep : Rep UInt8 := valRep byE 1 byE_len one_byE
theorem Tryz.infoB : (Tryz.prog.info? 5).map (fun i => (i.zero, i.size, i.bytes)) = some (some (.int .u8 0), 1, 1) := by kernel_rfl
/-- A slice of bytes that the call owns. -/
abbrev OwnB (w : World) (base : Nat) (ao : Option Addr) (cap : Nat) (xs : List UInt8) : Prop := OwnE byE 1 5 w base ao cap xs
theorem flat_byE (xs : List UInt8) : flatL byE xs = xs.map fun b => .int .u8 b.toNat := by
  induction xs with
  | nil => rfl
  | cons x r ih => simp only [flatL, List.flatMap_cons, List.map_cons] at *; rw [ih]; rfl
theorem OwnB.sl {w : World} {base : Nat} {ao : Option Addr} {cap : Nat} {xs : List UInt8} (h : OwnB w base ao cap xs) : Sl byRep (fun b => base ≤ b) w (.slice ao xs.length cap) xs := by
  refine ⟨ao, cap, rfl, ?_⟩
  rcases h.cases with ⟨_, _, h0⟩ | ⟨g, rfl, hb, _, _⟩
  · subst h0; exact SlAt.nil _ _ _
  · exact val_sl hb (h.holds byE_len)
/-- One byte of a slice. -/
theorem by_get {P : Nat → Prop} {w : World} {ao : Option Addr} {xs : List UInt8} (h : SlAt byRep P w ao xs) (i : Nat) (hi : i < xs.length) : ∃ b off, ao = some ⟨b, off, none⟩ ∧ P b ∧ b < w.heap.size ∧ w.cell? ⟨b, off + i, none⟩ = some (.int .u8 (xs[i]).toNat) := by
  obtain ⟨b, off, cs, e, hp, hr, hR⟩ := h i hi
  have := hr 0 (.int .u8 (xs[i]).toNat) (by rw [show cs = _ from hR]; rfl)
  rw [show off + i * byRep.k + 0 = off + i by simp [byRep, valRep]] at this
  exact ⟨b, off, e, hp, World.block_lt_of_cell? w _ this, this⟩
theorem by_at {P : Nat → Prop} {w : World} {ao : Option Addr} {xs : List UInt8} (h : SlAt byRep P w ao xs) (i : Nat) (hi : i < xs.length) : ∃ b off y, ao = some ⟨b, off, none⟩ ∧ b < w.heap.size ∧ w.cell? ⟨b, off + i, none⟩ = some (.int .u8 y.toNat) ∧ xs[i]? = some y := by
  obtain ⟨b, off, e, _, hb, hc⟩ := by_get h i hi
  exact ⟨b, off, xs[i], e, hb, hc, by simp [hi]⟩
/-- A number's lowest eight bits. -/
def by8 (z : Int) : UInt8 := UInt8.ofNat (z % 256).toNat
theorem by8_wrap (z : Int) : IntKind.u8.wrap z = ((by8 z).toNat : Int) := by
  rw [IntKind.wrap_u8]
  unfold by8
  rw [UInt8.toNat_ofNat']
  omega
/-- The bytes of a string. -/
def strL (s : ByteArray) : List UInt8 := s.data.toList
theorem strL_len (s : ByteArray) : (strL s).length = s.size := Array.length_toList
/-- append(out, s...) of a string, out owned: at the list of operations. -/
theorem wpList_appB_str {P : Program} {w : World} {ops : Array Oper} {rest : List Oper} {o : Oper} {a : Act} {Q : Exit → Act → World → Prop} (hgd : o.guard = none) (sl x : Operand) (t u : TypeId)
    (ho : o.op = .call { callee := .builtin .append, args := #[sl, x], argTypes := #[t, u] }) (ht : P.underlying t = some (.slice 5)) (hu : P.underlying u = some .string)
    (hinfo : (P.info? 5).map (fun i => (i.zero, i.size, i.bytes)) = some (some (.int .u8 0), 1, 1)) (base : Nat) (ao : Option Addr) (cap n : Nat) (xs : List UInt8) (hn : xs.length = n) (hs : a.eval sl = .slice ao n cap) (s : ByteArray) (hx : a.eval x = .string s)
    (hown : OwnB w base ao cap xs) (hlen : n + s.size ≤ 10000000) (hbase : base ≤ w.heap.size)
    (h : ∀ ao' cap' w', OwnB w' base ao' cap' (xs ++ strL s) → Ex base none w w' → wpList P ops Q rest (a.put o.dst (.slice ao' (n + s.size) cap')) w') : wpList P ops Q (o :: rest) a w := by
  subst hn
  obtain ⟨i0, hi, hz0, hz1, hz2⟩ := info_parts hinfo
  refine Go.Lib.wpList_append_own_string _ hgd sl x t u ho base 5 i0 ht hu hi hz0 hz1 hz2 _ _ _ hs hown s hx (by simp only [maxLen]; omega) (by omega) hbase ?_
  intro v' w' ho' hg _
  obtain ⟨ao', cap', rfl⟩ := own_shape ho'
  refine h ao' cap' w' ?_ ⟨hg.os, hg.tape, hg.output, hg.size, fun q hq _ => hg.block q (by omega) (fun e => ?_)⟩
  · unfold OwnB OwnE
    have e2 : flatL byE (xs ++ strL s) = flatL byE xs ++ Go.Lib.strCells s := by
      rw [flat_byE, flat_byE, List.map_append]; rfl
    rw [e2, List.length_append, strL_len]; exact ho'
  · cases ao with
    | none => cases e
    | some ad =>
      have := (hown.lt ad rfl).1
      simp [Value.ownBlock] at e
      omega
/-- The bytes of a slice made a string. -/
def strOf (xs : List UInt8) : ByteArray := ⟨xs.toArray⟩
theorem strOf_size (xs : List UInt8) : (strOf xs).size = xs.length := List.size_toArray
theorem run_strOf {P : Program} {R : Nat → Prop} {w : World} {v : Value} {xs : List UInt8} (hv : Sl byRep R w v xs) (src dst : TypeId) (hs : P.underlying src = some (.slice 5)) (he : P.underlying 5 = some (.int .u8)) (hd : P.underlying dst = some .string) :
    (convert src dst v).run P w = .ok (.string (strOf xs)) w := by
  obtain ⟨ao, cap, rfl, h⟩ := hv
  cases ao with
  | none =>
    have h0 : xs = [] := by
      rcases Nat.eq_zero_or_pos xs.length with h0 | h0
      · exact List.eq_nil_of_length_eq_zero h0
      · obtain ⟨b, off, e, _⟩ := by_get h 0 h0
        cases e
    subst h0
    exact run_convert_bytes_nil w src 5 hs he _ _ dst hd
  | some ad =>
    rcases Nat.eq_zero_or_pos xs.length with h0 | h0
    · have : xs = [] := List.eq_nil_of_length_eq_zero h0
      subst this
      obtain ⟨b, off, sp⟩ := ad
      have hl : (loadCells ⟨b, off, sp⟩ 0).run P w = .ok #[] w := by simpa using run_loadCells_list (P := P) w ⟨b, off, sp⟩ [] (by simp)
      have h1 := run_convert_bytes_string w src dst 5 (some ⟨b, off, sp⟩) 0 cap hs he hd
      have h2 := run_bytesToString w ⟨b, off, sp⟩ 0 cap [] (by simpa using hl)
      simp only [List.length_nil]
      rw [h1, h2]
      rfl
    · obtain ⟨b, off, e, _, _, _⟩ := by_get h 0 h0
      cases e
      have := run_convert_bytes_arg (P := P) w src 5 hs he b off xs.length cap (xs.map fun b => (b.toNat : Int)) (by simp) (fun i hi => by
        obtain ⟨b', off', e', _, _, hc⟩ := by_get h i hi
        cases e'
        rw [hc]; simp [List.getD, hi]) dst hd
      rw [this]
      congr 2
      unfold strOfNums strOf
      congr 1
      simp [List.map_map, Function.comp_def]
end Go.Proofs.YtfllcohnfboccaaGreat

namespace Go.Proofs.YtfllcohnfboccaaGreat
open Go.RowKit Go.Sort

def iE (n : Int) : List Value := [.int .i64 n]
theorem iE_len (n : Int) : (iE n).length = 1 := rfl
theorem one_iE : ∀ n, ∀ v ∈ iE n, v.oneCell' = true := fun n v hv => by simp [iE] at hv; subst hv; rfl
end Go.Proofs.YtfllcohnfboccaaGreat

namespace Go.Proofs.YtfllcohnfboccaaGreat
open Go.RowKit Go.Sort

theorem filter_yes {p : St → Bool} {l : List St} {k : Nat} {s : St} (h : l[k]? = some s) (hp : p s = true) : (l.take (k + 1)).filter p = (l.take k).filter p ++ [s] := by
  rw [List.take_add_one, h, List.filter_append]; simp [hp]
theorem filter_no {p : St → Bool} {l : List St} {k : Nat} {s : St} (h : l[k]? = some s) (hp : p s = false) : (l.take (k + 1)).filter p = (l.take k).filter p := by
  rw [List.take_add_one, h, List.filter_append]; simp [hp]
theorem filter_le {p : St → Bool} {l : List St} {k : Nat} (hk : k ≤ l.length) : ((l.take k).filter p).length ≤ k := Nat.le_trans (List.length_filter_le _ _) (by simp; omega)

/-- The cells of a literal of one statement. -/
theorem lit_st {w : World} {x : St × Sv × Sv} {t : TypeId} {cs : Array Value} (h : cs.toList = stE x) : ∀ (j : Nat) (v : Value), (stE x)[j]? = some v → (w.alloc (.cells cs t)).cell? ⟨w.heap.size, j, none⟩ = some v := fun j v hv => by
  rw [cell_of_row _ _ _ _ _ _ (heap_alloc_new w _)]
  rw [← h] at hv
  simpa using hv
/-- Lists that have been laid anew do not lie in the row that was there before. -/
theorem lies_new {wr w2 : World} {base : Nat} {ao : Option Addr} {cap : Nat} {l : List St} {x : St × Sv × Sv} {o : Obj} (hown : OwnS wr base ao cap l) (hx : Lies (fun b => wr.heap.size ≤ b) w2 x) (hb : base ≤ wr.heap.size) : Lies (fun b => base ≤ b ∧ rowOf ao ≠ some b) (w2.alloc o) x := by
  obtain ⟨xs, _, h1, _⟩ := hown
  refine Lies.mono (P := fun b => wr.heap.size ≤ b) (hx.keep fun b _ hlt => (Ex.new w2 o).block b hlt (by simp)) (fun b hbb _ => ⟨by omega, fun e => ?_⟩)
  cases ao with
  | none => cases e
  | some ad =>
    have := (h1.lt ad rfl).2
    simp [rowOf] at e
    omega

end Go.Proofs.YtfllcohnfboccaaGreat

namespace Go.Proofs.YtfllcohnfboccaaGreat
open Go.RowKit Go.Sort

/-- The slice at ao owns the statements l: its row lies from rb on; what their lists lie in, from 'base' on, not in the row. -/
def OwnT (w : World) (rb base : Nat) (ao : Option Addr) (cap : Nat) (l : List St) : Prop :=
  ∃ xs : List (St × Sv × Sv), xs.map (·.1) = l ∧ OwnE stE 13 53 w rb ao cap xs ∧ ∀ x ∈ xs, Lies (fun b => base ≤ b ∧ rowOf ao ≠ some b) w x
theorem OwnS.t {w : World} {base : Nat} {ao : Option Addr} {cap : Nat} {l : List St} (h : OwnS w base ao cap l) : OwnT w base base ao cap l := h
theorem OwnE.lower {α : Type} {enc : α → List Value} {k : Nat} {e : TypeId} {w : World} {base base' : Nat} {ao : Option Addr} {cap : Nat} {xs : List α} (h : OwnE enc k e w base ao cap xs) (hb : base' ≤ base) : OwnE enc k e w base' ao cap xs := by
  refine ⟨h.1, ?_⟩
  rcases h.2 with h | ⟨g, c, cur, e1, e2, e3⟩
  · exact .inl h
  · exact .inr ⟨g, c, cur, e1, by omega, e3⟩
theorem OwnT.s {w : World} {rb base : Nat} {ao : Option Addr} {cap : Nat} {l : List St} (h : OwnT w rb base ao cap l) (hb : base ≤ rb) : OwnS w base ao cap l := by
  obtain ⟨xs, e, h1, h2⟩ := h
  exact ⟨xs, e, h1.lower hb, h2⟩
theorem OwnT.nil (w : World) (rb base : Nat) : OwnT w rb base none 0 [] := ⟨[], rfl, OwnE.nil _ _ _ _ _, fun x hx => by simp at hx⟩
theorem OwnT.keep {w w' : World} {rb base B : Nat} {ao : Option Addr} {cap : Nat} {l : List St} (h : OwnT w rb base ao cap l) (hx : Ex B none w w') (hB : w.heap.size ≤ B) : OwnT w' rb base ao cap l := by
  obtain ⟨xs, e, h1, h2⟩ := h
  exact ⟨xs, e, h1.keep hx hB (by simp), fun x hxx => (h2 x hxx).keep fun b _ hb => hx.block b (by omega) (by simp)⟩
theorem OwnT.len {w : World} {rb base : Nat} {ao : Option Addr} {cap : Nat} {l : List St} (h : OwnT w rb base ao cap l) : l.length ≤ cap := by
  obtain ⟨xs, rfl, h1, _⟩ := h
  rcases h1.cases with ⟨_, rfl, h0⟩ | ⟨g, _, _, _, hc⟩
  · subst h0; exact Nat.le_refl _
  · simpa using hc
theorem flatL_cut (xs : List (St × Sv × Sv)) (j : Nat) : flatL stE xs = flatL stE (xs.take j) ++ flatL stE (xs.drop j) := by
  unfold flatL
  rw [← List.flatMap_append, List.take_append_drop]
theorem add_block (a : Addr) (j : Nat) : (a.add j).block = a.block := by unfold Addr.add; split <;> rfl
theorem OwnT.row {w : World} {rb base : Nat} {ao : Option Addr} {cap : Nat} {l : List St} (h : OwnT w rb base ao cap l) (b : Nat) (hb : rowOf ao = some b) : b < w.heap.size := by
  obtain ⟨xs, _, h1, _⟩ := h
  cases ao with
  | none => cases hb
  | some ad => simp [rowOf] at hb; subst hb; exact (h1.lt _ rfl).2
theorem OwnT.row_ge {w : World} {rb base : Nat} {ao : Option Addr} {cap : Nat} {l : List St} (h : OwnT w rb base ao cap l) (b : Nat) (hb : rowOf ao = some b) : rb ≤ b := by
  obtain ⟨xs, _, h1, _⟩ := h
  cases ao with
  | none => cases hb
  | some ad => simp [rowOf] at hb; subst hb; exact (h1.lt _ rfl).1
/-- Cells of statements by value, to be appended. -/
def Src (w : World) (so : Option Addr) (ys : List (St × Sv × Sv)) : Prop := ys.length = 0 ∨ ∃ ad, so = some ad ∧ ∀ (j : Nat) (v : Value), (flatL stE ys)[j]? = some v → w.cell? (ad.add j) = some v
theorem Src.keep {w w' : World} {so : Option Addr} {ys : List (St × Sv × Sv)} (h : Src w so ys) (hx : ∀ b, rowOf so = some b → b < w.heap.size → w'.heap[b]? = w.heap[b]?) : Src w' so ys := by
  rcases h with h | ⟨ad, e, h⟩
  · exact .inl h
  · refine .inr ⟨ad, e, fun j v hv => ?_⟩
    have h1 := h j v hv
    have hb : (ad.add j).block = ad.block := add_block _ _
    have h2 := World.block_lt_of_cell? w _ h1
    exact (World.cell?_of_block (w := w) (by rw [hb]; exact hx _ (by rw [e]; rfl) (by rw [← hb]; exact h2))).trans h1
/-- The slices of a row. -/
theorem OwnT.parts {w : World} {rb base : Nat} {ao : Option Addr} {cap : Nat} {l : List St} (h : OwnT w rb base ao cap l) (j : Nat) (hj : j ≤ l.length) :
    ∃ (xs : List (St × Sv × Sv)) (a2 : Option Addr), xs.map (·.1) = l ∧ (∀ x ∈ xs, Lies (fun b => base ≤ b ∧ rowOf ao ≠ some b) w x) ∧ Src w ao (xs.take j) ∧ (if cap = j then ao else ao.map (fun x => x.add (j * 13))) = a2 ∧ Src w a2 (xs.drop j) ∧ rowOf a2 = rowOf ao ∧ ∀ b, rowOf ao = some b → b < w.heap.size := by
  obtain ⟨xs, rfl, h1, h2⟩ := h
  have hj' : j ≤ xs.length := by simpa using hj
  refine ⟨xs, _, rfl, h2, ?_, rfl, ?_, ?_, ?_⟩
  · rcases h1.cases with ⟨_, _, h0⟩ | ⟨g, rfl, hb, _, _⟩
    · subst h0; exact .inl (by simp)
    · refine .inr ⟨_, rfl, fun i v hv => ?_⟩
      obtain ⟨_, _, _, _, hc, _⟩ := own_there h1
      rw [Addr.add_lit, Nat.zero_add]
      refine hc i v ?_
      have e : flatL stE xs = flatL stE (xs.take j) ++ flatL stE (xs.drop j) := flatL_cut xs j
      rw [e, List.getElem?_append_left (List.getElem?_eq_some_iff.1 hv).1]
      exact hv
  · by_cases hc : cap = j
    · rw [if_pos hc]
      refine .inl ?_
      rcases h1.cases with ⟨_, _, h0⟩ | ⟨g, _, _, _, hl⟩
      · subst h0; simp
      · simp; omega
    · rw [if_neg hc]
      rcases h1.cases with ⟨_, _, h0⟩ | ⟨g, rfl, hb, _, _⟩
      · subst h0; exact .inl (by simp)
      · refine .inr ⟨_, rfl, fun i v hv => ?_⟩
        obtain ⟨_, _, _, _, hc, _⟩ := own_there h1
        show w.cell? (((⟨g, 0, none⟩ : Addr).add (j * 13)).add i) = some v
        rw [Addr.add_lit, Addr.add_lit, Nat.zero_add]
        refine hc (j * 13 + i) v ?_
        have e : flatL stE xs = flatL stE (xs.take j) ++ flatL stE (xs.drop j) := flatL_cut xs j
        have hl : (flatL stE (xs.take j)).length = j * 13 := by rw [flatL_len stE_len, List.length_take, Nat.min_eq_left hj']
        rw [e, List.getElem?_append_right (by omega), hl, Nat.add_sub_cancel_left]
        exact hv
  · by_cases hc : cap = j
    · rw [if_pos hc]
    · rw [if_neg hc]; cases ao with
      | none => rfl
      | some ad => exact congrArg some (add_block _ _)
  · intro b hb
    cases ao with
    | none => cases hb
    | some ad => simp [rowOf] at hb; subst hb; exact (h1.lt _ rfl).2

/-- append at the operation. -/
theorem wp_appT {P : Program} {w : World} {o : Oper} {a : Act} {K : Act → World → Prop} {Q : Exit → Act → World → Prop} (s u : Operand) (t : TypeId)
    (ho : o.op = .call { callee := .builtin .append, args := #[s, u], argTypes := #[t, t] }) (ht : P.underlying t = some (.slice 53))
    (hinfo : (P.info? 53).map (fun i => (i.zero, i.size, i.bytes)) = some (some (.agg #[.int .i64 0, .int .i64 0, .string ⟨#[]⟩, .int .i64 0, .int .i64 0, .int .i64 0, .int .i64 0, .int .i64 0, .slice none 0 0, .slice none 0 0, .string ⟨#[]⟩, .int .i64 0, .string ⟨#[]⟩]), 13, 160))
    (rb base : Nat) (ao : Option Addr) (cap n : Nat) (l : List St) (hn : l.length = n) (hs : a.eval s = .slice ao n cap) (so : Option Addr) (m sc : Nat) (hu : a.eval u = .slice so m sc) (ys : List (St × Sv × Sv)) (hm : ys.length = m)
    (hown : OwnT w rb base ao cap l) (hsrc : Src w so ys) (hx : ∀ x ∈ ys, Lies (fun b => base ≤ b ∧ rowOf ao ≠ some b) w x) (hlen : n + m ≤ 10000000) (hbase : rb ≤ w.heap.size) (r : Nat) (hr : n + m = r)
    (h : ∀ ao' cap' w', OwnT w' rb base ao' cap' (l ++ ys.map (·.1)) → Ex rb none w w' → (∀ b, b < w.heap.size → rowOf ao ≠ some b → w'.heap[b]? = w.heap[b]?) → (rowOf ao' = rowOf ao ∨ rowOf ao' = some w.heap.size) → K (a.put o.dst (.slice ao' r cap')) w') : o.wp P a w K Q := by
  subst hr hn hm
  obtain ⟨i0, hi, hz0, hz1, hz2⟩ := info_parts hinfo
  obtain ⟨xs, rfl, h1, h2⟩ := hown
  have e1 : (xs.map (·.1)).length = xs.length := by simp
  rw [e1] at hs hlen h
  have key : ∀ so ad, so = some ad → a.eval u = .slice so ys.length sc → (∀ (j : Nat) (v : Value), (flatL stE ys)[j]? = some v → w.cell? (ad.add j) = some v) → o.wp P a w K Q := fun so ad e2 hu hc => by
    subst e2
    obtain ⟨v', w', hr, ho', hg, _, hnew⟩ := run_append_own_at (P := P) w rb t o.type 53 i0 _ 13 160 ht hi hz0 hz1 hz2 rfl (by decide) _ _ _ h1 ad ys.length sc (flatL stE ys) (flatL_len stE_len ys) hc (flatL_one one_stE ys) (by simp only [maxLen]; omega) (by omega) hbase
    obtain ⟨ao', cap', rfl⟩ := own_shape ho'
    have hrow : (Value.slice ao xs.length cap).ownBlock = rowOf ao := by cases ao <;> rfl
    have hrow' : (Value.slice ao' (xs.length + ys.length) cap').ownBlock = rowOf ao' := by cases ao' <;> rfl
    rw [hrow] at hg hnew
    rw [hrow'] at hnew
    have hkeep : ∀ y, Lies (fun b => base ≤ b ∧ rowOf ao ≠ some b) w y → Lies (fun b => base ≤ b ∧ rowOf ao' ≠ some b) w' y := fun y hy => by
      refine Lies.mono (P := fun b => (base ≤ b ∧ rowOf ao ≠ some b) ∧ b < w.heap.size) (Lies.keep (w := w) (hy.mono fun b hb hlt => ⟨hb, hlt⟩) fun b hb hlt => hg.block b hlt (fun e => hb.1.2 e.symm)) (fun b hb _ => ⟨hb.1.1, fun e => ?_⟩)
      rcases hb with ⟨⟨_, hb1⟩, hb2⟩
      rcases hnew with h0 | h0
      · exact hb1 (h0 ▸ e)
      · rw [e] at h0; cases h0; omega
    unfold Oper.wp execOp
    simp only [ho, resolve, invoke, builtin, Sem.run_bind, Sem.run_pure, Result.andThen_ok, List.map_toArray, List.map_cons, List.map_nil, hs, hu, hr]
    refine h ao' cap' w' ⟨xs ++ ys, by simp, ?_, fun y hy => ?_⟩ ?_ (fun b hb hne => hg.block b hb (fun e => hne e.symm)) hnew
    · unfold OwnE
      have e2 : flatL stE (xs ++ ys) = flatL stE xs ++ flatL stE ys := by simp [flatL]
      rw [e2, List.length_append]; exact ho'
    · simp only [List.mem_append] at hy
      rcases hy with hy | hy
      · exact hkeep y (h2 y hy)
      · exact hkeep y (hx y hy)
    · refine ⟨hg.os, hg.tape, hg.output, hg.size, fun k hk _ => hg.block k (by omega) (fun e => ?_)⟩
      cases ao with
      | none => cases e
      | some ad =>
        have := (h1.lt ad rfl).1
        simp [rowOf] at e
        omega
  rcases hsrc with h0 | ⟨ad, e2, hc⟩
  · have hy : ys = [] := List.eq_nil_of_length_eq_zero h0
    cases so with
    | some ad => exact key _ ad rfl hu (fun j v hv => by subst hy; simp [flatL] at hv)
    | none =>
      subst hy
      have hrun := run_append_none (P := P) (w := w) rb t o.type _ i0 13 ht hi _ _ sc _ h1
      unfold Oper.wp execOp
      simp only [ho, resolve, invoke, builtin, Sem.run_bind, Sem.run_pure, Result.andThen_ok, List.map_toArray, List.map_cons, List.map_nil, hs, hu, List.length_nil, hrun]
      exact h ao cap w ⟨xs, by simp, h1, h2⟩ (Ex.refl _ _ _) (fun _ _ _ => rfl) (.inl rfl)
  · exact key so ad e2 hu hc
/-- .. as a step of a region that draws its order. -/
theorem step_appT {P : Program} {w : World} {ops : Array Oper} {o : Oper} {a : Act} {K : Act → World → Prop} {Q : Exit → Act → World → Prop} {E : Prop} (hgd : o.guard = none) (s u : Operand) (t : TypeId)
    (ho : o.op = .call { callee := .builtin .append, args := #[s, u], argTypes := #[t, t] }) (ht : P.underlying t = some (.slice 53))
    (hinfo : (P.info? 53).map (fun i => (i.zero, i.size, i.bytes)) = some (some (.agg #[.int .i64 0, .int .i64 0, .string ⟨#[]⟩, .int .i64 0, .int .i64 0, .int .i64 0, .int .i64 0, .int .i64 0, .slice none 0 0, .slice none 0 0, .string ⟨#[]⟩, .int .i64 0, .string ⟨#[]⟩]), 13, 160))
    (rb base : Nat) (ao : Option Addr) (cap n : Nat) (l : List St) (hn : l.length = n) (hs : a.eval s = .slice ao n cap) (so : Option Addr) (m sc : Nat) (hu : a.eval u = .slice so m sc) (ys : List (St × Sv × Sv)) (hm : ys.length = m)
    (hown : OwnT w rb base ao cap l) (hsrc : Src w so ys) (hx : ∀ x ∈ ys, Lies (fun b => base ≤ b ∧ rowOf ao ≠ some b) w x) (hlen : n + m ≤ 10000000) (hbase : rb ≤ w.heap.size) (r : Nat) (hr : n + m = r)
    (h : ∀ ao' cap' w', OwnT w' rb base ao' cap' (l ++ ys.map (·.1)) → Ex rb none w w' → (∀ b, b < w.heap.size → rowOf ao ≠ some b → w'.heap[b]? = w.heap[b]?) → (rowOf ao' = rowOf ao ∨ rowOf ao' = some w.heap.size) → K (a.put o.dst (.slice ao' r cap')) w') :
    if Region.wanted o (yielded ops a.tmps) = true then o.wp P a w K Q else E := by
  rw [if_pos (show Region.wanted o (yielded ops a.tmps) = true by simp [Region.wanted, hgd])]
  exact wp_appT s u t ho ht hinfo rb base ao cap n l hn hs so m sc hu ys hm hown hsrc hx hlen hbase r hr h
/-- .. in a plain region. -/
theorem wpList_appT {P : Program} {w : World} {ops : Array Oper} {rest : List Oper} {o : Oper} {a : Act} {Q : Exit → Act → World → Prop} (hgd : o.guard = none) (s u : Operand) (t : TypeId)
    (ho : o.op = .call { callee := .builtin .append, args := #[s, u], argTypes := #[t, t] }) (ht : P.underlying t = some (.slice 53))
    (hinfo : (P.info? 53).map (fun i => (i.zero, i.size, i.bytes)) = some (some (.agg #[.int .i64 0, .int .i64 0, .string ⟨#[]⟩, .int .i64 0, .int .i64 0, .int .i64 0, .int .i64 0, .int .i64 0, .slice none 0 0, .slice none 0 0, .string ⟨#[]⟩, .int .i64 0, .string ⟨#[]⟩]), 13, 160))
    (rb base : Nat) (ao : Option Addr) (cap n : Nat) (l : List St) (hn : l.length = n) (hs : a.eval s = .slice ao n cap) (so : Option Addr) (m sc : Nat) (hu : a.eval u = .slice so m sc) (ys : List (St × Sv × Sv)) (hm : ys.length = m)
    (hown : OwnT w rb base ao cap l) (hsrc : Src w so ys) (hx : ∀ x ∈ ys, Lies (fun b => base ≤ b ∧ rowOf ao ≠ some b) w x) (hlen : n + m ≤ 10000000) (hbase : rb ≤ w.heap.size) (r : Nat) (hr : n + m = r)
    (h : ∀ ao' cap' w', OwnT w' rb base ao' cap' (l ++ ys.map (·.1)) → Ex rb none w w' → (∀ b, b < w.heap.size → rowOf ao ≠ some b → w'.heap[b]? = w.heap[b]?) → (rowOf ao' = rowOf ao ∨ rowOf ao' = some w.heap.size) → wpList P ops Q rest (a.put o.dst (.slice ao' r cap')) w') : wpList P ops Q (o :: rest) a w :=
  wpList_plain hgd fun _K hK => wp_appT s u t ho ht hinfo rb base ao cap n l hn hs so m sc hu ys hm hown hsrc hx hlen hbase r hr fun ao' cap' w' h1 h2 h3 h4 => hK _ _ (h ao' cap' w' h1 h2 h3 h4)
end Go.Proofs.YtfllcohnfboccaaGreat

namespace Go.Proofs.YtfllcohnfboccaaGreat
open Go.RowKit Go.Sort

/-- An edge: from, to, level. -/
abbrev EdD := Int × Int × Int
def edE (e : EdD) : List Value := [.int .i64 e.1, .int .i64 e.2.1, .int .i64 e.2.2]
theorem edE_len (e : EdD) : (edE e).length = 3 := rfl
theorem one_edE : ∀ e, ∀ v ∈ edE e, v.oneCell' = true := fun e v hv => by simp [edE] at hv; rcases hv with rfl | rfl | rfl <;> rfl
def edRep : Rep EdD := valRep edE 3 edE_len one_edE
theorem ed_get {P : Nat → Prop} {w : World} {ao : Option Addr} {xs : List EdD} (h : SlAt edRep P w ao xs) (i : Nat) (hi : i < xs.length) :
    ∃ b off e, ao = some ⟨b, off, none⟩ ∧ P b ∧ b < w.heap.size ∧ w.cell? ⟨b, off + i * 3, none⟩ = some (.int .i64 e.1) ∧ w.cell? ⟨b, off + i * 3 + 1, none⟩ = some (.int .i64 e.2.1) ∧ w.cell? ⟨b, off + i * 3 + 2, none⟩ = some (.int .i64 e.2.2) ∧ Hid (xs[i]? = some e) := by
  obtain ⟨b, off, cs, e, hp, hr, hR⟩ := h i hi
  have hR : cs = edE xs[i] := hR
  subst hR
  exact ⟨b, off, xs[i], e, hp, rangeAt_lt hr (by rw [edE_len]; omega), hr 0 _ rfl, hr 1 _ rfl, hr 2 _ rfl, (show _ = _ by simp [hi])⟩
theorem flat_iE (xs : List Int) : flatL iE xs = xs.map (Value.int .i64) := by
  induction xs with
  | nil => rfl
  | cons x r ih =>
    unfold flatL at *
    rw [List.flatMap_cons, ih]
    rfl
theorem OwnE.i {w : World} {base : Nat} {ro : Option Addr} {rc : Nat} {xs : List Int} (h : OwnE iE 1 3 w base ro rc xs) : OwnI w base ro rc xs := by
  unfold OwnE at h
  rw [flat_iE] at h
  exact h
end Go.Proofs.YtfllcohnfboccaaGreat

namespace Go.Proofs.YtfllcohnfboccaaGreat
open Go.RowKit Go.Sort

set_option maxHeartbeats 400000 in
theorem has11_any (v1 : Value) (xs : List Int) (x : Int) (w : World) (hv1 : Ints w v1 xs) (hm : xs.length ≤ 9223372036854775807) :
    Calls Tryz.prog 88 #[v1, .int .i64 x] w fun e w' => e = .returned (.bool (hasI xs x)) ∧ w = w' := by
  obtain ⟨ao, cap, rfl, hx⟩ := hv1
  go_enter Tryz.func88, Tryz.ntmps88
  go_wp2
  go_loop [5] (fun i => ∃ k : Nat, k ≤ xs.length ∧ i = .int .i64 k ∧ hasI (xs.take k) x = false) (fun i => xs.length - (intOf i).toNat)
  case atStart => exact ⟨0, Nat.zero_le _, rfl, rfl⟩
  case round =>
    obtain ⟨k, hk, rfl, hno⟩ := hrel
    have HN := Lib.hid hno
    clear hno
    by_cases hlt : k < xs.length
    · obtain ⟨b, off, y, rfl, hck, HY⟩ := hx.get k hlt
      by_cases he : y = x
      · have hb : (y == x) = true := by simpa using he
        have HR := Lib.hid (hasI_get hlt (HY.out.trans he))
        clear he
        go_wp2
        go_ret
        exact ⟨by rw [HR.out]; rfl, rfl⟩
      · have hb : (y == x) = false := by simpa using he
        have HR := Lib.hid (hasI_take_succ hlt HN.out (by rw [HY.out]; exact he))
        clear he
        go_wp2
        go_round
        case rel => exact ⟨k + 1, by omega, by go_num, HR.out⟩
        case measure => simp [intOf]; omega
    · have HR : Hid (hasI xs x = false) := by
        have h := HN.out
        rwa [List.take_of_length_le (by omega)] at h
      go_wp2
      go_ret
      exact ⟨by rw [HR.out]; rfl, rfl⟩
/-- The order of edges. -/
def befE (a b : EdD) : Bool := decide (a.1 < b.1) || (decide (a.1 = b.1) && decide (a.2.1 < b.2.1))
set_option maxHeartbeats 1000000 in
theorem before11_any (a0 a1 a2 b0 b1 b2 : Int) (w : World) :
    Calls Tryz.prog 159 #[.agg #[.int .i64 a0, .int .i64 a1, .int .i64 a2], .agg #[.int .i64 b0, .int .i64 b1, .int .i64 b2]] w fun e w' => e = .returned (.bool (befE (a0, a1, a2) (b0, b1, b2))) ∧ Ex w.heap.size none w w' := by
  by_cases h1 : a0 < b0
  · have d1 : decide (a0 < b0) = true := decide_eq_true h1
    have HR : Hid (befE (a0, a1, a2) (b0, b1, b2) = true) := Lib.hid (by simp [befE, h1])
    go_enter Tryz.func159, Tryz.ntmps159
    go_wp2
    go_ret
    exact ⟨by rw [HR.out]; rfl, ex_two0 _ _⟩
  · have d1 : decide (a0 < b0) = false := decide_eq_false h1
    by_cases h2 : a0 = b0
    · have d2 : (a0 == b0) = true := by simpa using h2
      have HR : Hid (befE (a0, a1, a2) (b0, b1, b2) = decide (a1 < b1)) := Lib.hid (by simp [befE, h2])
      clear h2 h1
      go_enter Tryz.func159, Tryz.ntmps159
      go_wp2
      go_ret
      exact ⟨by rw [HR.out]; rfl, ex_two0 _ _⟩
    · have d2 : (a0 == b0) = false := by simpa using h2
      have HR : Hid (befE (a0, a1, a2) (b0, b1, b2) = false) := Lib.hid (by simp [befE, h1, h2])
      clear h2 h1
      go_enter Tryz.func159, Tryz.ntmps159
      go_wp2
      go_ret
      exact ⟨by rw [HR.out]; rfl, ex_two0 _ _⟩
set_option maxHeartbeats 2000000 in
theorem set11_ok (ao : Option Addr) (n cap : Nat) (l : List Int) (sz : Int) (w : World) (hx : IntsAt w ao l) (hn : l.length = n) (h1 : n ≤ 1) (hr : ∀ g ∈ l, 0 ≤ g ∧ g < sz) :
    Calls Tryz.prog 158 #[.slice ao n cap, .int .i64 sz] w fun e w' => e = .returned (.bool true) ∧ Ex w.heap.size none w w' := by
  have HX := Lib.hid hx
  have HN := Lib.hid hn
  have HR := Lib.hid hr
  clear hx hn hr
  go_enter Tryz.func158, Tryz.ntmps158
  go_wp2
  go_loopw [5] (fun i wr => ∃ k : Nat, k ≤ n ∧ i = .int .i64 k ∧ Hid (Ex w.heap.size none w wr)) (fun i _ => n - (intOf i).toNat)
  case atStart => exact ⟨0, Nat.zero_le _, rfl, Lib.hid (Ex.refl _ _ _)⟩
  case round =>
    obtain ⟨k, hk, rfl, HE⟩ := hrel
    by_cases hlt : k < n
    · have hk0 : k = 0 := by omega
      subst hk0
      have hltI : (0 : Int) < (n : Int) := by omega
      obtain ⟨b, off, y, rfl, hck, HY⟩ := (HX.out.keep HE.out (Nat.le_refl _) (by simp)).get 0 (by rw [HN.out]; exact hlt)
      have hy := HR.out y (by
        have h0 : 0 < l.length := by rw [HN.out]; exact hlt
        rw [← HY.out]
        simp [List.getD, h0])
      have hck2 : wr.cell? ⟨b, off, none⟩ = some (.int .i64 y) := by simpa using hck
      have d1 : decide (y < 0) = false := decide_eq_false (by omega)
      have d2 : decide (sz ≤ y) = false := decide_eq_false (by omega)
      clear hck
      go_wp2_with (fail)
      go_quiet (fail)
      go_wp2
      go_roundw
      case rel => exact ⟨1, by omega, by go_num, Lib.hid HE.out.drewN⟩
      case measure => simp [intOf] <;> omega
    · have hltI : ¬ (k : Int) < (n : Int) := by omega
      go_wp2
      go_ret
      exact ⟨rfl, HE.out⟩
/-- A graph that is right. -/
structure GrOK (sz : Int) (es : List EdD) (gone : List Int) : Prop where
  size : 0 ≤ sz ∧ sz ≤ 12
  len : es.length ≤ 400
  edge : ∀ e ∈ es, ((0 ≤ e.1 ∧ e.1 < sz) ∧ (0 ≤ e.2.1 ∧ e.2.1 < sz)) ∧ e.1 ≠ e.2.1 ∧ (1 ≤ e.2.2 ∧ e.2.2 ≤ 3) ∧ hasI gone e.1 = false ∧ hasI gone e.2.1 = false
  sorted : ∀ i (a b : EdD), es[i]? = some a → es[i + 1]? = some b → befE a b = true
  gone : gone.length ≤ 1 ∧ ∀ g ∈ gone, 0 ≤ g ∧ g < sz
end Go.Proofs.YtfllcohnfboccaaGreat

namespace Go.Proofs.YtfllcohnfboccaaGreat
open Go.RowKit Go.Sort

theorem ExW.cellG {w : World} (p : ExW w) {b o : Nat} {v : Value} (h : w.cell? ⟨b, o, none⟩ = some v) : p.w'.cell? ⟨b, o, none⟩ = some v :=
  (World.cell?_of_block (w := w) (p.ex.block b (World.block_lt_of_cell? w _ h) (by simp))).trans h
set_option maxHeartbeats 8000000 in
set_option maxRecDepth 100000 in
theorem check11_ok {P : Nat → Prop} (sz : Int) (eo : Option Addr) (en ec : Nat) (go : Option Addr) (gn gc : Nat) (es : List EdD) (gone : List Int) (w : World) (h : SlAt edRep P w eo es) (hn : es.length = en) (hg : IntsAt w go gone) (hgn : gone.length = gn) (hG : GrOK sz es gone) :
    Calls Tryz.prog 117 #[.agg #[.int .i64 sz, .slice eo en ec, .slice go gn gc]] w fun e w' => e = .returned (.int .i64 0) ∧ Ex w.heap.size none w w' := by
  have HX := Lib.hid h
  have HN := Lib.hid hn
  have HI := Lib.hid hg
  have HGN := Lib.hid hgn
  have HG := Lib.hid hG
  obtain ⟨hs0, hs12⟩ := hG.size
  have hen : en ≤ 400 := by rw [← hn]; exact hG.len
  have hgn1 : gn ≤ 1 := by rw [← hgn]; exact hG.gone.1
  have s0 : decide (sz < 0) = false := decide_eq_false (by omega)
  have s1 : decide ((64 : Int) < sz) = false := decide_eq_false (by omega)
  have s2 : decide ((500 : Int) < (en : Int)) = false := decide_eq_false (by omega)
  have s3 : decide (500 < en) = false := decide_eq_false (by omega)
  clear h hn hg hgn hG
  go_enter Tryz.func117, Tryz.ntmps117
  go_upto_region 1 with (fail)
  obtain ⟨w1, hw1⟩ : ∃ w1 : World, w1 = w.alloc (.cells #[.int .i64 sz, .slice eo en ec, .slice go gn gc] 64) := ⟨_, rfl⟩
  have HE1 : Hid (Ex w.heap.size none w w1) := Lib.hid (by rw [hw1]; exact Ex.new _ _)
  have hz1 : w.heap.size + 1 ≤ w1.heap.size := by rw [hw1]; simp
  have HC : Hid (∀ w', Ex w1.heap.size none w1 w' → w'.cell? ⟨w.heap.size, 0, none⟩ = some (.int .i64 sz) ∧ w'.cell? ⟨w.heap.size, 1, none⟩ = some (.slice eo en ec) ∧ w'.cell? ⟨w.heap.size, 2, none⟩ = some (.slice go gn gc)) := Lib.hid (fun w' h => by
    have k : w'.heap[w.heap.size]? = some (.cells #[.int .i64 sz, .slice eo en ec, .slice go gn gc] 64 (0, 0)) := (h.block w.heap.size (by omega) (by simp)).trans (by rw [hw1]; exact heap_alloc_new _ _)
    refine ⟨?_, ?_, ?_⟩ <;> (rw [cell_of_row _ _ _ _ _ _ k]; rfl))
  rw [← hw1]
  clear hw1
  obtain ⟨c0, c1, c2⟩ := HC.out _ (Ex.refl _ _ w1)
  go_wp2_with (first
    | (go_at_call 158
       refine (set11_ok go gn gc gone sz w1 (HI.out.keep HE1.out (Nat.le_refl _) (by simp)) HGN.out hgn1 HG.out.gone.2).mono ?_
       rintro e w2 ⟨rfl, hex⟩
       have HE2 := Lib.hid hex
       have hz2 : w1.heap.size ≤ w2.heap.size := hex.size
       clear hex c0 c1 c2)
    | fail)
  go_loopw [3, 4] (fun i _ wr => ∃ k : Nat, k ≤ en ∧ i = .int .i64 k ∧ Hid (Ex w1.heap.size none w1 wr)) (fun i _ _ => en - (intOf i).toNat)
  case atStart => exact ⟨0, Nat.zero_le _, rfl, HE2⟩
  case round =>
    obtain ⟨k, hk, rfl, HEX⟩ := hrel
    have hszr : w1.heap.size ≤ wr.heap.size := HEX.out.size
    obtain ⟨c0, c1, c2⟩ := HC.out _ HEX.out
    by_cases hlt : k < en
    · have hltI : (k : Int) < (en : Int) := by omega
      obtain ⟨b, off, ⟨f, t, l⟩, rfl, _, hbl, q0, q1, q2, HK⟩ := ed_get (HX.out.keep (by decide) fun b _ hb => (HEX.out.block b (by omega) (by simp)).trans (HE1.out.block b hb (by simp))) k (by rw [HN.out]; exact hlt)
      obtain ⟨⟨⟨f0, f1⟩, t0, t1⟩, hft, ⟨l1, l3⟩, hgf, hgt⟩ := HG.out.edge _ (List.mem_of_getElem? HK.out)
      simp only at f0 f1 t0 t1 hft l1 l3 hgf hgt q0 q1 q2
      have d1 : decide (f < 0) = false := decide_eq_false (by omega)
      have d2 : decide (sz ≤ f) = false := decide_eq_false (by omega)
      have d3 : decide (t < 0) = false := decide_eq_false (by omega)
      have d4 : decide (sz ≤ t) = false := decide_eq_false (by omega)
      have d5 : (f == t) = false := by simpa using hft
      have d6 : decide (l < 1) = false := decide_eq_false (by omega)
      have d7 : decide ((3 : Int) < l) = false := decide_eq_false (by omega)
      clear hft f0 f1 t0 t1 l1 l3
      go_upto_region 7 with (fail)
      obtain ⟨w3, hw3⟩ : ∃ w3 : World, w3 = wr.alloc (.cells #[.int .i64 f, .int .i64 t, .int .i64 l] 105) := ⟨_, rfl⟩
      have HE3 : Hid (Ex wr.heap.size none wr w3) := Lib.hid (by rw [hw3]; exact Ex.new _ _)
      have hz3 : wr.heap.size ≤ w3.heap.size := by rw [hw3]; simp
      have r0 : w3.cell? ⟨wr.heap.size, 0, none⟩ = some (.int .i64 f) := by rw [hw3, cell_of_row _ _ _ _ _ _ (heap_alloc_new wr _)]; rfl
      have r1 : w3.cell? ⟨wr.heap.size, 1, none⟩ = some (.int .i64 t) := by rw [hw3, cell_of_row _ _ _ _ _ _ (heap_alloc_new wr _)]; rfl
      have r2 : w3.cell? ⟨wr.heap.size, 2, none⟩ = some (.int .i64 l) := by rw [hw3, cell_of_row _ _ _ _ _ _ (heap_alloc_new wr _)]; rfl
      rw [← hw3]
      clear hw3 c0 c1 c2 q0 q1 q2
      have HE13 : Hid (Ex w1.heap.size none w1 w3) := Lib.hid (HEX.out.trans HE3.out hszr (by simp))
      obtain ⟨c0, c1, c2⟩ := HC.out _ HE13.out
      go_wp2_with fail
      have g0 := fun p : ExW w3 => p.cellG c0
      have g1 := fun p : ExW w3 => p.cellG c1
      have g2 := fun p : ExW w3 => p.cellG c2
      have g3 := fun p : ExW w3 => p.cellG r0
      have g4 := fun p : ExW w3 => p.cellG r1
      have g5 := fun p : ExW w3 => p.cellG r2
      have HHS : Hid (∀ (p : ExW w3) (x : Int), hasI gone x = false → Calls Tryz.prog 88 #[.slice go gn gc, .int .i64 x] p.w' fun e w' => e = .returned (.bool false) ∧ Ex p.w'.heap.size none p.w' w') := Lib.hid (fun p x hx => (has11_any _ gone x p.w' ⟨go, gc, by rw [HGN.out], (HI.out.keep (HE1.out.trans (HE13.out.trans (p.ex.mono (show w1.heap.size ≤ w3.heap.size by omega)) (Nat.le_refl _) (by simp)) (by omega) (by simp)) (Nat.le_refl _) (by simp))⟩ (by rw [HGN.out]; omega)).mono fun e w' ⟨he, hw⟩ => ⟨by rw [he, hx], by rw [← hw]; exact Ex.refl _ _ _⟩)
      clear c0 c1 c2 r0 r1 r2
      by_cases h0 : 0 < k
      · obtain ⟨i, hi⟩ : ∃ i, i = k - 1 := ⟨_, rfl⟩
        have h0I : (0 : Int) < (k : Int) := by omega
        have h0d : decide (0 < k) = true := decide_eq_true h0
        have hw1' : IntKind.i64.wrap ((k : Int) - 1) = (i : Int) := by rw [IntWalk.i64_in _ (by omega)]; omega
        have hien : (i : Int) < (en : Int) := by omega
        obtain ⟨b', off', ⟨f', t', l'⟩, hbb, _, _, u0, u1, u2, HK'⟩ := ed_get (HX.out.keep (w' := w3) (by decide) fun b _ hb => (HE13.out.block b (by omega) (by simp)).trans (HE1.out.block b hb (by simp))) i (by rw [HN.out]; omega)
        cases hbb
        simp only at u0 u1 u2
        have g6 := fun p : ExW w3 => p.cellG u0
        have g7 := fun p : ExW w3 => p.cellG u1
        have g8 := fun p : ExW w3 => p.cellG u2
        have HBF : Hid (∀ p : ExW w3, Calls Tryz.prog 159 #[.agg #[.int .i64 f', .int .i64 t', .int .i64 l'], .agg #[.int .i64 f, .int .i64 t, .int .i64 l]] p.w' fun e w' => e = .returned (.bool true) ∧ Ex p.w'.heap.size none p.w' w') := Lib.hid (fun p => (before11_any f' t' l' f t l p.w').mono fun e w' ⟨he, hx⟩ => ⟨by rw [he, HG.out.sorted i _ _ HK'.out (by rw [show i + 1 = k by omega]; exact HK.out)], hx⟩)
        clear hi u0 u1 u2
        refine wp_region_quiet_ex (by kernel_rfl) (by kernel_rfl) ?_
        repeat (go_big_quiet_step (first | (go_at_call 159; refine calls_ex_of (HBF.out _)) | (go_at_call 88; refine calls_ex_of (HHS.out _ _ (by assumption)))))
        refine wpQuiet_nil ?_
        intro _ hw'
        obtain ⟨p9, hw''⟩ := hw'
        subst hw''
        clear g0 g1 g2 g3 g4 g5 g6 g7 g8 hw1'
        go_wp2
        go_roundw
        case rel => exact ⟨k + 1, by omega, by go_num, Lib.hid (HE13.out.trans (p9.ex.mono (show w1.heap.size ≤ w3.heap.size by omega)) (Nat.le_refl _) (by simp))⟩
        case measure => simp [intOf] <;> omega
      · have h0d : decide (0 < k) = false := decide_eq_false h0
        have hk0 : k = 0 := by omega
        subst hk0
        refine wp_region_quiet_ex (by kernel_rfl) (by kernel_rfl) ?_
        repeat (go_big_quiet_step (first | (go_at_call 88; refine calls_ex_of (HHS.out _ _ (by assumption)))))
        refine wpQuiet_nil ?_
        intro _ hw'
        obtain ⟨p9, hw''⟩ := hw'
        subst hw''
        clear g0 g1 g2 g3 g4 g5
        go_wp2
        go_roundw
        case rel => exact ⟨1, by omega, by go_num, Lib.hid (HE13.out.trans (p9.ex.mono (show w1.heap.size ≤ w3.heap.size by omega)) (Nat.le_refl _) (by simp))⟩
        case measure => simp [intOf] <;> omega
    · have hltI : ¬ (k : Int) < (en : Int) := by omega
      go_wp2
      go_ret
      exact ⟨rfl, HE1.out.trans HEX.out (by omega) (by simp)⟩
end Go.Proofs.YtfllcohnfboccaaGreat

namespace Go.Proofs.YtfllcohnfboccaaGreat
open Go.RowKit Go.Sort

/-- Where an edge stands, or would. -/
structure IdxE (es : List EdD) (f t : Int) (k : Nat) (th : Bool) : Prop where
  le : k ≤ es.length
  low : ∀ i x, i < k → es[i]? = some x → befE x (f, t, 0) = true
  here : ∀ x, es[k]? = some x → befE x (f, t, 0) = false ∧ th = (decide (x.1 = f) && decide (x.2.1 = t))
  none : es[k]? = none → th = false
set_option maxHeartbeats 8000000 in
set_option maxRecDepth 100000 in
theorem index11_any {P : Nat → Prop} (sz : Int) (eo : Option Addr) (en ec : Nat) (go : Option Addr) (gn gc : Nat) (es : List EdD) (f t : Int) (w : World) (h : SlAt edRep P w eo es) (hn : es.length = en) (hm : en ≤ 100000) :
    Calls Tryz.prog 118 #[.agg #[.int .i64 sz, .slice eo en ec, .slice go gn gc], .int .i64 f, .int .i64 t] w fun e w' => ∃ (k : Nat) (th : Bool), e = .returned (.tuple #[.int .i64 k, .bool th]) ∧ IdxE es f t k th ∧ Ex w.heap.size none w w' := by
  have HX := Lib.hid h
  have HN := Lib.hid hn
  clear h hn
  go_enter Tryz.func118, Tryz.ntmps118
  go_upto_region 2 with (fail)
  obtain ⟨w1, hw1⟩ : ∃ w1 : World, w1 = w.alloc (.cells #[.int .i64 sz, .slice eo en ec, .slice go gn gc] 64) := ⟨_, rfl⟩
  have HE1 : Hid (Ex w.heap.size none w w1) := Lib.hid (by rw [hw1]; exact Ex.new _ _)
  have hz1 : w.heap.size + 1 ≤ w1.heap.size := by rw [hw1]; simp
  have HC : Hid (∀ w', Ex w1.heap.size none w1 w' → w'.cell? ⟨w.heap.size, 0, none⟩ = some (.int .i64 sz) ∧ w'.cell? ⟨w.heap.size, 1, none⟩ = some (.slice eo en ec) ∧ w'.cell? ⟨w.heap.size, 2, none⟩ = some (.slice go gn gc)) := Lib.hid (fun w' h => by
    have k : w'.heap[w.heap.size]? = some (.cells #[.int .i64 sz, .slice eo en ec, .slice go gn gc] 64 (0, 0)) := (h.block w.heap.size (by omega) (by simp)).trans (by rw [hw1]; exact heap_alloc_new _ _)
    refine ⟨?_, ?_, ?_⟩ <;> (rw [cell_of_row _ _ _ _ _ _ k]; rfl))
  rw [← hw1]
  clear hw1
  go_loopw [8] (fun i wr => ∃ k : Nat, k ≤ en ∧ i = .int .i64 k ∧ Hid (∀ i x, i < k → es[i]? = some x → befE x (f, t, 0) = true) ∧ Hid (Ex w1.heap.size none w1 wr)) (fun i _ => en - (intOf i).toNat)
  case atStart => exact ⟨0, Nat.zero_le _, rfl, Lib.hid (fun i x h => by omega), Lib.hid (Ex.refl _ _ _)⟩
  case round =>
    obtain ⟨k, hk, rfl, HLOW, HEX⟩ := hrel
    have hszr : w1.heap.size ≤ wr.heap.size := HEX.out.size
    obtain ⟨c0, c1, c2⟩ := HC.out _ HEX.out
    by_cases hlt : k < en
    · have hltI : (k : Int) < (en : Int) := by omega
      obtain ⟨b, off, ⟨xf, xt, xl⟩, rfl, _, hbl, q0, q1, q2, HK⟩ := ed_get (HX.out.keep (by decide) fun b _ hb => (HEX.out.block b (by omega) (by simp)).trans (HE1.out.block b hb (by simp))) k (by rw [HN.out]; exact hlt)
      simp only at q0 q1 q2
      cases hb : befE (xf, xt, xl) (f, t, 0) with
      | true =>
        go_wp2_with (first
          | (go_at_call 159
             refine (before11_any xf xt xl f t 0 wr).mono ?_
             rw [hb]
             rintro e w2 ⟨rfl, hex⟩
             have HE2 : Hid (Ex w1.heap.size none w1 w2) := Lib.hid (HEX.out.trans hex hszr (by simp))
             clear hex c0 c1 c2 q0 q1 q2)
          | fail)
        go_roundw
        case rel => exact ⟨k + 1, by omega, by go_num, Lib.hid (fun i x hi hx => by
          by_cases c : i = k
          · subst c
            rw [HK.out] at hx
            cases hx
            exact hb
          · exact HLOW.out i x (by omega) hx), HE2⟩
        case measure => simp [intOf] <;> omega
      | false =>
        go_upto_region 4 with (first
          | (go_at_call 159
             refine (before11_any xf xt xl f t 0 wr).mono ?_
             rw [hb]
             rintro e w2 ⟨rfl, hex⟩
             have HE2 : Hid (Ex w1.heap.size none w1 w2) := Lib.hid (HEX.out.trans hex hszr (by simp))
             have hxb : w2.heap[b]? = wr.heap[b]? := hex.block b hbl (by simp)
             have z0 := (World.cell?_of_block (w := wr) (a := ⟨b, off + k * 3, none⟩) hxb).trans q0
             have z1 := (World.cell?_of_block (w := wr) (a := ⟨b, off + k * 3 + 1, none⟩) hxb).trans q1
             clear hex hxb c0 c1 c2 q0 q1 q2)
          | fail)
        obtain ⟨c0, c1, c2⟩ := HC.out _ HE2.out
        cases e1 : (xf == f) with
        | true =>
          go_quiet (fail)
          go_wp2
          go_ret2
          refine ⟨k, (xt == t), rfl, ⟨by rw [HN.out]; omega, HLOW.out, fun x hx => ?_, fun hx => ?_⟩, HE1.out.trans HE2.out.drewN (by omega) (by simp)⟩
          · rw [HK.out] at hx
            cases hx
            refine ⟨hb, ?_⟩
            have e1' : xf = f := by simpa using e1
            simp [e1']
            rfl
          · rw [HK.out] at hx; cases hx
        | false =>
          go_quiet (fail)
          go_wp2
          go_ret2
          refine ⟨k, false, rfl, ⟨by rw [HN.out]; omega, HLOW.out, fun x hx => ?_, fun _ => rfl⟩, HE1.out.trans HE2.out.drewN (by omega) (by simp)⟩
          rw [HK.out] at hx
          cases hx
          refine ⟨hb, ?_⟩
          have e1' : ¬ xf = f := by simpa using e1
          simp [e1']
    · have hltI : ¬ (k : Int) < (en : Int) := by omega
      have hld : decide (k < en) = false := decide_eq_false hlt
      go_wp2_with fail
      go_quiet (fail)
      go_wp2
      go_ret2
      have hke : k = en := by omega
      refine ⟨k, false, rfl, ⟨by rw [HN.out]; omega, HLOW.out, fun x hx => ?_, fun _ => rfl⟩, HE1.out.trans HEX.out.drewN (by omega) (by simp)⟩
      rw [List.getElem?_eq_none (by rw [HN.out]; omega)] at hx
      cases hx
end Go.Proofs.YtfllcohnfboccaaGreat

namespace Go.Proofs.YtfllcohnfboccaaGreat
open Go.RowKit Go.Sort

theorem OwnE.same2 {α : Type} {enc : α → List Value} {k : Nat} {e : TypeId} {w w' : World} {base : Nat} {ao : Option Addr} {cap : Nat} {xs : List α} (h : OwnE enc k e w base ao cap xs) (hb : ∀ b, rowOf ao = some b → w'.heap[b]? = w.heap[b]?) : OwnE enc k e w' base ao cap xs := by
  obtain ⟨h1, h2⟩ := h
  refine ⟨h1, ?_⟩
  rcases h2 with h2 | ⟨g, c, cur, hv, hg, hh, r⟩
  · exact .inl h2
  · cases hv
    exact .inr ⟨g, cap, cur, rfl, hg, (hb g rfl).trans hh, r⟩
theorem OwnI.e {w : World} {base : Nat} {ro : Option Addr} {rc : Nat} {xs : List Int} (h : OwnI w base ro rc xs) : OwnE iE 1 3 w base ro rc xs := by
  unfold OwnE
  rw [flat_iE]
  exact h

end Go.Proofs.YtfllcohnfboccaaGreat
