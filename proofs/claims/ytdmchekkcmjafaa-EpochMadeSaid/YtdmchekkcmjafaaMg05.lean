/- A slice of statements that the call owns, their lists too: words; ref03.Copy in plain cells. No statement of the seat. | Slices of bytes, and appends of elements held by value in whatever region. For whatever program; no statement of the seat. | Dice.Of, Bytes, Digest of the made inputs: contracts, no statement of the seat. -/
import Derived.Test.YtdmchekkcmjafaaSameListG
import Derived.Test.YtdmchekkcmjafaaMg03
import Derived.Maps.AppendAt
import Derived.Lib.AppendStr
import Derived.Laws.BytesArg
import Derived.Laws.BitsLemmas
import Derived.Test.YtdmchekkcmjafaaMg01
namespace Go.Proofs.Ytdmchekkcmjafaa
open Go.RowKit Go.Sort

theorem Try.infoSt : (Try.prog.info? 30).map (fun i => (i.zero, i.size, i.bytes)) = some (some (.agg #[.int .i64 0, .int .i64 0, .string ⟨#[]⟩, .int .i64 0, .int .i64 0, .int .i64 0, .int .i64 0, .int .i64 0, .slice none 0 0, .slice none 0 0, .string ⟨#[]⟩, .int .i64 0, .string ⟨#[]⟩]), 13, 160) := by kernel_rfl

/-- The block of a slice's row. -/
def rowOf (ao : Option Addr) : Option Nat := ao.map (·.block)
/-- The slice at ao owns the statements l, and all that their lists lie in (not in the row itself), from 'base' on. -/
def OwnS (w : World) (base : Nat) (ao : Option Addr) (cap : Nat) (l : List St) : Prop :=
  ∃ xs : List (St × Sv × Sv), xs.map (·.1) = l ∧ OwnE stE 13 30 w base ao cap xs ∧ ∀ x ∈ xs, Lies (fun b => base ≤ b ∧ rowOf ao ≠ some b) w x
theorem OwnS.nil (w : World) (base : Nat) : OwnS w base none 0 [] := ⟨[], rfl, OwnE.nil _ _ _ _ _, fun x hx => by simp at hx⟩
theorem OwnS.keep {w w' : World} {base B : Nat} {ao : Option Addr} {cap : Nat} {l : List St} (h : OwnS w base ao cap l) (hx : Ex B none w w') (hB : w.heap.size ≤ B) : OwnS w' base ao cap l := by
  obtain ⟨xs, e, h1, h2⟩ := h
  exact ⟨xs, e, h1.keep hx hB (by simp), fun x hxx => (h2 x hxx).keep fun b _ hb => hx.block b (by omega) (by simp)⟩
theorem OwnS.sl {w : World} {base : Nat} {ao : Option Addr} {cap : Nat} {l : List St} (h : OwnS w base ao cap l) : Sl stRep (fun b => base ≤ b) w (.slice ao l.length cap) l := by
  obtain ⟨xs, rfl, h1, h2⟩ := h
  refine ⟨ao, cap, by simp, ?_⟩
  rcases h1.cases with ⟨_, _, h0⟩ | ⟨g, rfl, hb, _, _⟩
  · subst h0; exact SlAt.nil _ _ _
  · exact st_sl hb (h1.holds stE_len) (fun x hx => (h2 x hx).mono fun b hb _ => hb.1)

/-- 'append(out, x)', out a slice of statements of the call's own, x a statement whose lists the call owns. -/
theorem wpList_appS {P : Program} {w : World} {ops : Array Oper} {rest : List Oper} {o : Oper} {a : Act} {Q : Exit → Act → World → Prop} (hgd : o.guard = none) (s u : Operand) (t : TypeId)
    (ho : o.op = .call { callee := .builtin .append, args := #[s, u], argTypes := #[t, t] }) (ht : P.underlying t = some (.slice 30))
    (hinfo : (P.info? 30).map (fun i => (i.zero, i.size, i.bytes)) = some (some (.agg #[.int .i64 0, .int .i64 0, .string ⟨#[]⟩, .int .i64 0, .int .i64 0, .int .i64 0, .int .i64 0, .int .i64 0, .slice none 0 0, .slice none 0 0, .string ⟨#[]⟩, .int .i64 0, .string ⟨#[]⟩]), 13, 160))
    (base : Nat) (ao : Option Addr) (cap n : Nat) (l : List St) (hn : n = l.length) (hs : a.eval s = .slice ao n cap) (g : Nat) (hu : a.eval u = .slice (some ⟨g, 0, none⟩) 1 1) (x : St × Sv × Sv)
    (hown : OwnS w base ao cap l) (hc : ∀ (j : Nat) (v : Value), (stE x)[j]? = some v → w.cell? ⟨g, j, none⟩ = some v) (hx : Lies (fun b => base ≤ b ∧ rowOf ao ≠ some b) w x) (hlen : l.length ≤ 1000000) (hbase : base ≤ w.heap.size)
    (h : ∀ ao' cap' w', OwnS w' base ao' cap' (l ++ [x.1]) → Ex base none w w' → wpList P ops Q rest (a.put o.dst (.slice ao' (l.length + 1) cap')) w') : wpList P ops Q (o :: rest) a w := by
  subst hn
  obtain ⟨i0, hi, hz0, hz1, hz2⟩ := info_parts hinfo
  obtain ⟨xs, rfl, h1, h2⟩ := hown
  have e1 : (xs.map (·.1)).length = xs.length := by simp
  rw [e1] at hs
  refine wpList_append_own_at _ hgd s u t ho base 30 i0 _ 13 160 ht hi hz0 hz1 hz2 rfl (by decide) _ _ _ hs h1 ⟨g, 0, none⟩ 1 1 (stE x) hu rfl (fun j v hv => by rw [Addr.add_lit, Nat.zero_add]; exact hc j v hv) (one_stE x) (by simp only [maxLen]; omega) (by omega) hbase ?_
  intro v' w' ho' hg _ hnew
  obtain ⟨ao', cap', rfl⟩ := own_shape ho'
  rw [e1] at h
  have hrow : (Value.slice ao xs.length cap).ownBlock = rowOf ao := by cases ao <;> rfl
  have hrow' : (Value.slice ao' (xs.length + 1) cap').ownBlock = rowOf ao' := by cases ao' <;> rfl
  rw [hrow] at hg hnew
  rw [hrow'] at hnew
  have hkeep : ∀ y, Lies (fun b => base ≤ b ∧ rowOf ao ≠ some b) w y → Lies (fun b => base ≤ b ∧ rowOf ao' ≠ some b) w' y := fun y hy => by
    refine Lies.mono (P := fun b => (base ≤ b ∧ rowOf ao ≠ some b) ∧ b < w.heap.size) (Lies.keep (w := w) (hy.mono fun b hb hlt => ⟨hb, hlt⟩) fun b hb hlt => hg.block b hlt (fun e => hb.1.2 e.symm)) (fun b hb _ => ⟨hb.1.1, fun e => ?_⟩)
    rcases hb with ⟨⟨_, hb1⟩, hb2⟩
    rcases hnew with h0 | h0
    · exact hb1 (h0 ▸ e)
    · rw [e] at h0; cases h0; omega
  refine h ao' cap' w' ⟨xs ++ [x], by simp, ?_, fun y hy => ?_⟩ ?_
  · unfold OwnE
    have e2 : flatL stE (xs ++ [x]) = flatL stE xs ++ stE x := by simp [flatL]
    rw [e2, List.length_append]; exact ho'
  · simp only [List.mem_append, List.mem_singleton] at hy
    rcases hy with hy | rfl
    · exact hkeep y (h2 y hy)
    · exact hkeep y hx
  · refine ⟨hg.os, hg.tape, hg.output, hg.size, fun k hk _ => hg.block k (by omega) (fun e => ?_)⟩
    cases ao with
    | none => cases e
    | some ad =>
      have := (h1.lt ad rfl).1
      simp [rowOf] at e
      omega

/-- The cells of a statement, written out. -/
def cellsS (s : St) (lo : Option Addr) (ln lc : Nat) (po : Option Addr) (pn pc : Nat) : List Value :=
  [.int .i64 s.author, .int .i64 s.number, .string s.prev, .int .i64 s.time, .int .i64 s.kind, .int .i64 s.a, .int .i64 s.b, .int .i64 s.c, .slice lo ln lc, .slice po pn pc, .string s.body, .int .i64 s.key, .string s.dig]
theorem copy03_lit {P : Nat → Prop} (s : St) (lo po : Option Addr) (ln lc pn pc : Nat) (w : World) (hx : Lies P w (s, ⟨lo, ln, lc⟩, ⟨po, pn, pc⟩)) (hm : s.list.length ≤ 1000000 ∧ s.pins.length ≤ 1000000) :
    Calls Try.prog 28 #[.agg #[.int .i64 s.author, .int .i64 s.number, .string s.prev, .int .i64 s.time, .int .i64 s.kind, .int .i64 s.a, .int .i64 s.b, .int .i64 s.c, .slice lo ln lc, .slice po pn pc, .string s.body, .int .i64 s.key, .string s.dig]] w fun e w' =>
      ∃ (la : Option Addr) (na ca : Nat) (pa : Option Addr) (np cp : Nat), e = .returned (.agg #[.int .i64 s.author, .int .i64 s.number, .string s.prev, .int .i64 s.time, .int .i64 s.kind, .int .i64 s.a, .int .i64 s.b, .int .i64 s.c, .slice la na ca, .slice pa np cp, .string s.body, .int .i64 s.key, .string s.dig]) ∧
        Lies (fun b => w.heap.size ≤ b) w' (s, ⟨la, na, ca⟩, ⟨pa, np, cp⟩) ∧ Ex w.heap.size none w w' :=
  (copy03_any s lo po ln lc pn pc w hx.1 hx.2 hm.1 hm.2).mono fun _ _ ⟨⟨la, na, ca⟩, ⟨pa, np, cp⟩, he, hl, hex⟩ => ⟨la, na, ca, pa, np, cp, he, hl, hex⟩

end Go.Proofs.Ytdmchekkcmjafaa

namespace Go.Proofs.Ytdmchekkcmjafaa
open Go.RowKit Go.Sort

section
variable {α : Type} [Inhabited α]
omit [Inhabited α] in
/-- append(out, src...) at the operation: out is owned. -/
theorem wp_appE {P : Program} {w : World} {o : Oper} {a : Act} {K : Act → World → Prop} {Q : Exit → Act → World → Prop} (s u : Operand) (t e : TypeId)
    (ho : o.op = .call { callee := .builtin .append, args := #[s, u], argTypes := #[t, t] }) (ht : P.underlying t = some (.slice e)) (z : Value) (k bytes : Nat)
    (hinfo : (P.info? e).map (fun i => (i.zero, i.size, i.bytes)) = some (some z, k, bytes)) (hzc : z.cells.size = k) (hk0 : 0 < k) (hb : bytes ≤ 1000)
    (enc : α → List Value) (hk : ∀ x, (enc x).length = k) (h1 : ∀ x, ∀ v ∈ enc x, v.oneCell' = true)
    (base : Nat) (ao : Option Addr) (cap n : Nat) (xs : List α) (hn : xs.length = n) (hs : a.eval s = .slice ao n cap) (so : Option Addr) (m sc : Nat) (hu : a.eval u = .slice so m sc) (ys : List α) (hm : ys.length = m)
    (hown : OwnE enc k e w base ao cap xs) (hsrc : ys.length = 0 ∨ ∃ ad, so = some ad ∧ ∀ (j : Nat) (v : Value), (flatL enc ys)[j]? = some v → w.cell? (ad.add j) = some v) (hlen : n + m ≤ 10000000) (hbase : base ≤ w.heap.size) (r : Nat) (hr : n + m = r)
    (h : ∀ ao' cap' w', OwnE enc k e w' base ao' cap' (xs ++ ys) → Ex base none w w' → (∀ b, b < w.heap.size → rowOf ao ≠ some b → w'.heap[b]? = w.heap[b]?) → (rowOf ao' = rowOf ao ∨ rowOf ao' = some w.heap.size) → K (a.put o.dst (.slice ao' r cap')) w') : o.wp P a w K Q := by
  subst hr hn hm
  obtain ⟨i0, hi, hz0, hz1, hz2⟩ := info_parts hinfo
  have key : ∀ so ad, so = some ad → a.eval u = .slice so ys.length sc → (∀ (j : Nat) (v : Value), (flatL enc ys)[j]? = some v → w.cell? (ad.add j) = some v) → o.wp P a w K Q := fun so ad e2 hu hc => by
    subst e2
    have hbb : (xs.length + ys.length) * bytes ≤ 140737488355328 := by have := Nat.mul_le_mul hlen hb; omega
    obtain ⟨v', w', hr, ho', hg, _, hnew⟩ := run_append_own_at (P := P) w base t o.type e i0 z k bytes ht hi hz0 hz1 hz2 hzc hk0 _ _ _ hown ad ys.length sc (flatL enc ys) (flatL_len hk ys) hc (flatL_one h1 ys) (by simp only [maxLen]; omega) hbb hbase
    obtain ⟨ao', cap', rfl⟩ := own_shape ho'
    have hrow : (Value.slice ao xs.length cap).ownBlock = rowOf ao := by cases ao <;> rfl
    have hrow' : (Value.slice ao' (xs.length + ys.length) cap').ownBlock = rowOf ao' := by cases ao' <;> rfl
    rw [hrow] at hg hnew
    rw [hrow'] at hnew
    unfold Oper.wp execOp
    simp only [ho, resolve, invoke, builtin, Sem.run_bind, Sem.run_pure, Result.andThen_ok, List.map_toArray, List.map_cons, List.map_nil, hs, hu, hr]
    refine h ao' cap' w' ?_ ?_ (fun b hb hne => hg.block b hb (fun e => hne e.symm)) hnew
    · unfold OwnE
      have e2 : flatL enc (xs ++ ys) = flatL enc xs ++ flatL enc ys := by simp [flatL]
      rw [e2, List.length_append]; exact ho'
    · refine ⟨hg.os, hg.tape, hg.output, hg.size, fun q hq _ => hg.block q (by omega) (fun e => ?_)⟩
      cases ao with
      | none => cases e
      | some ad =>
        have := (hown.lt ad rfl).1
        simp [rowOf] at e
        omega
  rcases hsrc with h0 | ⟨ad, e2, hc⟩
  · have hy : ys = [] := List.eq_nil_of_length_eq_zero h0
    cases so with
    | some ad => exact key _ ad rfl hu (fun j v hv => by subst hy; simp [flatL] at hv)
    | none =>
      subst hy
      have hrun := run_append_none (P := P) (w := w) base t o.type _ i0 k ht hi _ _ sc _ hown
      unfold Oper.wp execOp
      simp only [ho, resolve, invoke, builtin, Sem.run_bind, Sem.run_pure, Result.andThen_ok, List.map_toArray, List.map_cons, List.map_nil, hs, hu, List.length_nil, hrun]
      exact h ao cap w (by simpa using hown) (Ex.refl _ _ _) (fun _ _ _ => rfl) (.inl rfl)
  · exact key so ad e2 hu hc
omit [Inhabited α] in
theorem step_appE {P : Program} {w : World} {ops : Array Oper} {o : Oper} {a : Act} {K : Act → World → Prop} {Q : Exit → Act → World → Prop} {E : Prop} (hgd : o.guard = none) (s u : Operand) (t e : TypeId)
    (ho : o.op = .call { callee := .builtin .append, args := #[s, u], argTypes := #[t, t] }) (ht : P.underlying t = some (.slice e)) (z : Value) (k bytes : Nat)
    (hinfo : (P.info? e).map (fun i => (i.zero, i.size, i.bytes)) = some (some z, k, bytes)) (hzc : z.cells.size = k) (hk0 : 0 < k) (hb : bytes ≤ 1000)
    (enc : α → List Value) (hk : ∀ x, (enc x).length = k) (h1 : ∀ x, ∀ v ∈ enc x, v.oneCell' = true)
    (base : Nat) (ao : Option Addr) (cap n : Nat) (xs : List α) (hn : xs.length = n) (hs : a.eval s = .slice ao n cap) (so : Option Addr) (m sc : Nat) (hu : a.eval u = .slice so m sc) (ys : List α) (hm : ys.length = m)
    (hown : OwnE enc k e w base ao cap xs) (hsrc : ys.length = 0 ∨ ∃ ad, so = some ad ∧ ∀ (j : Nat) (v : Value), (flatL enc ys)[j]? = some v → w.cell? (ad.add j) = some v) (hlen : n + m ≤ 10000000) (hbase : base ≤ w.heap.size) (r : Nat) (hr : n + m = r)
    (h : ∀ ao' cap' w', OwnE enc k e w' base ao' cap' (xs ++ ys) → Ex base none w w' → (∀ b, b < w.heap.size → rowOf ao ≠ some b → w'.heap[b]? = w.heap[b]?) → (rowOf ao' = rowOf ao ∨ rowOf ao' = some w.heap.size) → K (a.put o.dst (.slice ao' r cap')) w') :
    if Region.wanted o (yielded ops a.tmps) = true then o.wp P a w K Q else E := by
  rw [if_pos (show Region.wanted o (yielded ops a.tmps) = true by simp [Region.wanted, hgd])]
  exact wp_appE s u t e ho ht z k bytes hinfo hzc hk0 hb enc hk h1 base ao cap n xs hn hs so m sc hu ys hm hown hsrc hlen hbase r hr h
omit [Inhabited α] in
theorem wpList_appE2 {P : Program} {w : World} {ops : Array Oper} {rest : List Oper} {o : Oper} {a : Act} {Q : Exit → Act → World → Prop} (hgd : o.guard = none) (s u : Operand) (t e : TypeId)
    (ho : o.op = .call { callee := .builtin .append, args := #[s, u], argTypes := #[t, t] }) (ht : P.underlying t = some (.slice e)) (z : Value) (k bytes : Nat)
    (hinfo : (P.info? e).map (fun i => (i.zero, i.size, i.bytes)) = some (some z, k, bytes)) (hzc : z.cells.size = k) (hk0 : 0 < k) (hb : bytes ≤ 1000)
    (enc : α → List Value) (hk : ∀ x, (enc x).length = k) (h1 : ∀ x, ∀ v ∈ enc x, v.oneCell' = true)
    (base : Nat) (ao : Option Addr) (cap n : Nat) (xs : List α) (hn : xs.length = n) (hs : a.eval s = .slice ao n cap) (so : Option Addr) (m sc : Nat) (hu : a.eval u = .slice so m sc) (ys : List α) (hm : ys.length = m)
    (hown : OwnE enc k e w base ao cap xs) (hsrc : ys.length = 0 ∨ ∃ ad, so = some ad ∧ ∀ (j : Nat) (v : Value), (flatL enc ys)[j]? = some v → w.cell? (ad.add j) = some v) (hlen : n + m ≤ 10000000) (hbase : base ≤ w.heap.size) (r : Nat) (hr : n + m = r)
    (h : ∀ ao' cap' w', OwnE enc k e w' base ao' cap' (xs ++ ys) → Ex base none w w' → (∀ b, b < w.heap.size → rowOf ao ≠ some b → w'.heap[b]? = w.heap[b]?) → (rowOf ao' = rowOf ao ∨ rowOf ao' = some w.heap.size) → wpList P ops Q rest (a.put o.dst (.slice ao' r cap')) w') : wpList P ops Q (o :: rest) a w :=
  wpList_plain hgd fun _K hK => wp_appE s u t e ho ht z k bytes hinfo hzc hk0 hb enc hk h1 base ao cap n xs hn hs so m sc hu ys hm hown hsrc hlen hbase r hr fun ao' cap' w' h1 h2 h3 h4 => hK _ _ (h ao' cap' w' h1 h2 h3 h4)
end

theorem OwnE.lowerE {α : Type} {enc : α → List Value} {k : Nat} {e : TypeId} {w : World} {base base' : Nat} {ao : Option Addr} {cap : Nat} {xs : List α} (h : OwnE enc k e w base ao cap xs) (hb : base' ≤ base) : OwnE enc k e w base' ao cap xs := by
  refine ⟨h.1, ?_⟩
  rcases h.2 with h | ⟨g, c, cur, e1, e2, e3⟩
  · exact .inl h
  · exact .inr ⟨g, c, cur, e1, by omega, e3⟩
/-- A byte in its cell. -/
def byE (b : UInt8) : List Value := [.int .u8 b.toNat]
theorem byE_len (b : UInt8) : (byE b).length = 1 := rfl
theorem one_byE : ∀ b, ∀ v ∈ byE b, v.oneCell' = true := fun b v hv => by simp [byE] at hv; subst hv; rfl
def byRep : Rep UInt8 := valRep byE 1 byE_len one_byE
theorem Try.infoB : (Try.prog.info? 5).map (fun i => (i.zero, i.size, i.bytes)) = some (some (.int .u8 0), 1, 1) := by kernel_rfl
/-- A slice of bytes that the call owns. -/
abbrev OwnB (w : World) (base : Nat) (ao : Option Addr) (cap : Nat) (xs : List UInt8) : Prop := OwnE byE 1 5 w base ao cap xs
theorem flat_byE (xs : List UInt8) : flatL byE xs = xs.map fun b => .int .u8 b.toNat := by
  induction xs with
  | nil => rfl
  | cons x r ih => simp only [flatL, List.flatMap_cons, List.map_cons] at *; rw [ih]; rfl
theorem OwnB.sl {w : World} {base : Nat} {ao : Option Addr} {cap : Nat} {xs : List UInt8} (h : OwnB w base ao cap xs) : Sl byRep (fun b => base ≤ b) w (.slice ao xs.length cap) xs := by
  refine ⟨ao, cap, rfl, ?_⟩
  rcases h.cases with ⟨_, _, h0⟩ | ⟨g, rfl, hb, _, _⟩
  · subst h0; exact SlAt.nil _ _ _
  · exact val_sl hb (h.holds byE_len)
/-- One byte of a slice. -/
theorem by_get {P : Nat → Prop} {w : World} {ao : Option Addr} {xs : List UInt8} (h : SlAt byRep P w ao xs) (i : Nat) (hi : i < xs.length) : ∃ b off, ao = some ⟨b, off, none⟩ ∧ P b ∧ b < w.heap.size ∧ w.cell? ⟨b, off + i, none⟩ = some (.int .u8 (xs[i]).toNat) := by
  obtain ⟨b, off, cs, e, hp, hr, hR⟩ := h i hi
  have := hr 0 (.int .u8 (xs[i]).toNat) (by rw [show cs = _ from hR]; rfl)
  rw [show off + i * byRep.k + 0 = off + i by simp [byRep, valRep]] at this
  exact ⟨b, off, e, hp, World.block_lt_of_cell? w _ this, this⟩
theorem by_at {P : Nat → Prop} {w : World} {ao : Option Addr} {xs : List UInt8} (h : SlAt byRep P w ao xs) (i : Nat) (hi : i < xs.length) : ∃ b off y, ao = some ⟨b, off, none⟩ ∧ b < w.heap.size ∧ w.cell? ⟨b, off + i, none⟩ = some (.int .u8 y.toNat) ∧ xs[i]? = some y := by
  obtain ⟨b, off, e, _, hb, hc⟩ := by_get h i hi
  exact ⟨b, off, xs[i], e, hb, hc, by simp [hi]⟩
/-- A number's lowest eight bits. -/
def by8 (z : Int) : UInt8 := UInt8.ofNat (z % 256).toNat
theorem by8_wrap (z : Int) : IntKind.u8.wrap z = ((by8 z).toNat : Int) := by
  rw [IntKind.wrap_u8]
  unfold by8
  rw [UInt8.toNat_ofNat']
  omega
/-- The bytes of a string. -/
def strL (s : ByteArray) : List UInt8 := s.data.toList
theorem strL_len (s : ByteArray) : (strL s).length = s.size := Array.length_toList
/-- append(out, s...) of a string, out owned: at the list of operations. -/
theorem wpList_appB_str {P : Program} {w : World} {ops : Array Oper} {rest : List Oper} {o : Oper} {a : Act} {Q : Exit → Act → World → Prop} (hgd : o.guard = none) (sl x : Operand) (t u : TypeId)
    (ho : o.op = .call { callee := .builtin .append, args := #[sl, x], argTypes := #[t, u] }) (ht : P.underlying t = some (.slice 5)) (hu : P.underlying u = some .string)
    (hinfo : (P.info? 5).map (fun i => (i.zero, i.size, i.bytes)) = some (some (.int .u8 0), 1, 1)) (base : Nat) (ao : Option Addr) (cap n : Nat) (xs : List UInt8) (hn : xs.length = n) (hs : a.eval sl = .slice ao n cap) (s : ByteArray) (hx : a.eval x = .string s)
    (hown : OwnB w base ao cap xs) (hlen : n + s.size ≤ 10000000) (hbase : base ≤ w.heap.size)
    (h : ∀ ao' cap' w', OwnB w' base ao' cap' (xs ++ strL s) → Ex base none w w' → wpList P ops Q rest (a.put o.dst (.slice ao' (n + s.size) cap')) w') : wpList P ops Q (o :: rest) a w := by
  subst hn
  obtain ⟨i0, hi, hz0, hz1, hz2⟩ := info_parts hinfo
  refine Go.Lib.wpList_append_own_string _ hgd sl x t u ho base 5 i0 ht hu hi hz0 hz1 hz2 _ _ _ hs hown s hx (by simp only [maxLen]; omega) (by omega) hbase ?_
  intro v' w' ho' hg _
  obtain ⟨ao', cap', rfl⟩ := own_shape ho'
  refine h ao' cap' w' ?_ ⟨hg.os, hg.tape, hg.output, hg.size, fun q hq _ => hg.block q (by omega) (fun e => ?_)⟩
  · unfold OwnB OwnE
    have e2 : flatL byE (xs ++ strL s) = flatL byE xs ++ Go.Lib.strCells s := by
      rw [flat_byE, flat_byE, List.map_append]; rfl
    rw [e2, List.length_append, strL_len]; exact ho'
  · cases ao with
    | none => cases e
    | some ad =>
      have := (hown.lt ad rfl).1
      simp [Value.ownBlock] at e
      omega
/-- The bytes of a slice made a string. -/
def strOf (xs : List UInt8) : ByteArray := ⟨xs.toArray⟩
theorem strOf_size (xs : List UInt8) : (strOf xs).size = xs.length := List.size_toArray
theorem run_strOf {P : Program} {R : Nat → Prop} {w : World} {v : Value} {xs : List UInt8} (hv : Sl byRep R w v xs) (src dst : TypeId) (hs : P.underlying src = some (.slice 5)) (he : P.underlying 5 = some (.int .u8)) (hd : P.underlying dst = some .string) :
    (convert src dst v).run P w = .ok (.string (strOf xs)) w := by
  obtain ⟨ao, cap, rfl, h⟩ := hv
  cases ao with
  | none =>
    have h0 : xs = [] := by
      rcases Nat.eq_zero_or_pos xs.length with h0 | h0
      · exact List.eq_nil_of_length_eq_zero h0
      · obtain ⟨b, off, e, _⟩ := by_get h 0 h0
        cases e
    subst h0
    exact run_convert_bytes_nil w src 5 hs he _ _ dst hd
  | some ad =>
    rcases Nat.eq_zero_or_pos xs.length with h0 | h0
    · have : xs = [] := List.eq_nil_of_length_eq_zero h0
      subst this
      obtain ⟨b, off, sp⟩ := ad
      have hl : (loadCells ⟨b, off, sp⟩ 0).run P w = .ok #[] w := by simpa using run_loadCells_list (P := P) w ⟨b, off, sp⟩ [] (by simp)
      have h1 := run_convert_bytes_string w src dst 5 (some ⟨b, off, sp⟩) 0 cap hs he hd
      have h2 := run_bytesToString w ⟨b, off, sp⟩ 0 cap [] (by simpa using hl)
      simp only [List.length_nil]
      rw [h1, h2]
      rfl
    · obtain ⟨b, off, e, _, _, _⟩ := by_get h 0 h0
      cases e
      have := run_convert_bytes_arg (P := P) w src 5 hs he b off xs.length cap (xs.map fun b => (b.toNat : Int)) (by simp) (fun i hi => by
        obtain ⟨b', off', e', _, _, hc⟩ := by_get h i hi
        cases e'
        rw [hc]; simp [List.getD, hi]) dst hd
      rw [this]
      congr 2
      unfold strOfNums strOf
      congr 1
      simp [List.map_map, Function.comp_def]
end Go.Proofs.Ytdmchekkcmjafaa

namespace Go.Proofs.Ytdmchekkcmjafaa
open Go.RowKit Go.Sort

theorem OwnS.keepP {w w' : World} {base B : Nat} {p : Option Nat} {ao : Option Addr} {cap : Nat} {l : List St} (h : OwnS w base ao cap l) (hx : Ex B p w w') (hB : w.heap.size ≤ B) (hp : ∀ q, p = some q → q < base) : OwnS w' base ao cap l := by
  obtain ⟨xs, e, h1, h2⟩ := h
  exact ⟨xs, e, h1.keep hx hB hp, fun x hxx => (h2 x hxx).keep fun b hb hlt => hx.block b (by omega) (fun e => by have := hp b e.symm; omega)⟩
theorem dVal_nat {d : List Int} {n : Int} (h : 1 ≤ n) : ∃ k : Nat, dVal d n = k ∧ (k : Int) < n := by
  obtain ⟨h1, h2⟩ := dVal_bd (d := d) h
  exact ⟨(dVal d n).toNat, by omega, by omega⟩

set_option maxHeartbeats 400000 in
theorem ofD_any (N p : Nat) (d : List Int) (v : Value) (xs : List Int) (w : World) (hd : DiceAt N w p d) (hv : IntsO p w v xs) (h1 : 1 ≤ xs.length) (hm : xs.length ≤ 100000) :
    Calls Try.prog 58 #[.pointer (some ⟨p, 0, none⟩), v] w fun e w' => e = .returned (.int .i64 (xs.getD (dVal d xs.length).toNat 0)) ∧ DiceAt N w' p d.tail ∧ Ex w.heap.size (some p) w w' := by
  obtain ⟨ao, cap, rfl, hx, haw⟩ := hv
  obtain ⟨k, hk, hkl⟩ := dVal_nat (d := d) (n := xs.length) (by omega)
  have HK : Hid ((dVal d xs.length).toNat = k) := (show _ = _ by rw [hk]; simp)
  have hkl' : k < xs.length := by omega
  have HX := Lib.hid hx
  have HA := Lib.hid haw
  have HD := Lib.hid hd
  clear hx haw hd
  go_enter Try.func58, Try.ntmps58
  go_wp2_with fail
  refine (next_any N p d xs.length w HD.out (by omega)).mono ?_
  rw [hk]
  clear hk
  rintro e w1 ⟨rfl, hd1, hex1⟩
  obtain ⟨b, off, y, rfl, hc, HY⟩ := (HX.out.keep hex1 (Nat.le_refl _) (fun q hq hne => by cases hq; exact HA.out hne)).get k hkl'
  have HD1 := Lib.hid hd1
  have HE1 := Lib.hid hex1
  clear hd1 hex1
  go_wp2
  go_ret
  exact ⟨by rw [HK.out, HY.out]; rfl, HD1.out, HE1.out⟩
end Go.Proofs.Ytdmchekkcmjafaa
