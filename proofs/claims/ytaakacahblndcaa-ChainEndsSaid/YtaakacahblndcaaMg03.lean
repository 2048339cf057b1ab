/- append of statements to a slice of statements that the call owns, one or many, in a plain region or in one that draws its order. No statement of the seat. | Owned slices of statements with a lower base. No statement of the seat. | Dice.Of, Bytes, Digest of the made inputs: contracts, no statement of the seat. -/
import Derived.Test.YtaakacahblndcaaMg02
import Derived.Deep.RegionLaw
import Derived.Test.YtaakacahblndcaaMg01
namespace Go.Proofs.Ytaakacahblndcaa
open Go.RowKit Go.Sort

/-- The slice at ao owns the statements l: its row lies from rb on; what their lists lie in, from 'base' on, not in the row. -/
def OwnT (w : World) (rb base : Nat) (ao : Option Addr) (cap : Nat) (l : List St) : Prop :=
  ∃ xs : List (St × Sv × Sv), xs.map (·.1) = l ∧ OwnE stE 13 33 w rb ao cap xs ∧ ∀ x ∈ xs, Lies (fun b => base ≤ b ∧ rowOf ao ≠ some b) w x
theorem OwnS.t {w : World} {base : Nat} {ao : Option Addr} {cap : Nat} {l : List St} (h : OwnS w base ao cap l) : OwnT w base base ao cap l := h
theorem OwnE.lower {α : Type} {enc : α → List Value} {k : Nat} {e : TypeId} {w : World} {base base' : Nat} {ao : Option Addr} {cap : Nat} {xs : List α} (h : OwnE enc k e w base ao cap xs) (hb : base' ≤ base) : OwnE enc k e w base' ao cap xs := by
  refine ⟨h.1, ?_⟩
  rcases h.2 with h | ⟨g, c, cur, e1, e2, e3⟩
  · exact .inl h
  · exact .inr ⟨g, c, cur, e1, by omega, e3⟩
theorem OwnT.s {w : World} {rb base : Nat} {ao : Option Addr} {cap : Nat} {l : List St} (h : OwnT w rb base ao cap l) (hb : base ≤ rb) : OwnS w base ao cap l := by
  obtain ⟨xs, e, h1, h2⟩ := h
  exact ⟨xs, e, h1.lower hb, h2⟩
theorem OwnT.nil (w : World) (rb base : Nat) : OwnT w rb base none 0 [] := ⟨[], rfl, OwnE.nil _ _ _ _ _, fun x hx => by simp at hx⟩
theorem OwnT.keep {w w' : World} {rb base B : Nat} {ao : Option Addr} {cap : Nat} {l : List St} (h : OwnT w rb base ao cap l) (hx : Ex B none w w') (hB : w.heap.size ≤ B) : OwnT w' rb base ao cap l := by
  obtain ⟨xs, e, h1, h2⟩ := h
  exact ⟨xs, e, h1.keep hx hB (by simp), fun x hxx => (h2 x hxx).keep fun b _ hb => hx.block b (by omega) (by simp)⟩
theorem add_block (a : Addr) (j : Nat) : (a.add j).block = a.block := by unfold Addr.add; split <;> rfl
theorem OwnT.row {w : World} {rb base : Nat} {ao : Option Addr} {cap : Nat} {l : List St} (h : OwnT w rb base ao cap l) (b : Nat) (hb : rowOf ao = some b) : b < w.heap.size := by
  obtain ⟨xs, _, h1, _⟩ := h
  cases ao with
  | none => cases hb
  | some ad => simp [rowOf] at hb; subst hb; exact (h1.lt _ rfl).2
/-- Cells of statements by value, to be appended. -/
def Src (w : World) (so : Option Addr) (ys : List (St × Sv × Sv)) : Prop := ys.length = 0 ∨ ∃ ad, so = some ad ∧ ∀ (j : Nat) (v : Value), (flatL stE ys)[j]? = some v → w.cell? (ad.add j) = some v
theorem Src.keep {w w' : World} {so : Option Addr} {ys : List (St × Sv × Sv)} (h : Src w so ys) (hx : ∀ b, rowOf so = some b → b < w.heap.size → w'.heap[b]? = w.heap[b]?) : Src w' so ys := by
  rcases h with h | ⟨ad, e, h⟩
  · exact .inl h
  · refine .inr ⟨ad, e, fun j v hv => ?_⟩
    have h1 := h j v hv
    have hb : (ad.add j).block = ad.block := add_block _ _
    have h2 := World.block_lt_of_cell? w _ h1
    exact (World.cell?_of_block (w := w) (by rw [hb]; exact hx _ (by rw [e]; rfl) (by rw [← hb]; exact h2))).trans h1
/-- append at the operation. -/
theorem wp_appT {P : Program} {w : World} {o : Oper} {a : Act} {K : Act → World → Prop} {Q : Exit → Act → World → Prop} (s u : Operand) (t : TypeId)
    (ho : o.op = .call { callee := .builtin .append, args := #[s, u], argTypes := #[t, t] }) (ht : P.underlying t = some (.slice 33))
    (hinfo : (P.info? 33).map (fun i => (i.zero, i.size, i.bytes)) = some (some (.agg #[.int .i64 0, .int .i64 0, .string ⟨#[]⟩, .int .i64 0, .int .i64 0, .int .i64 0, .int .i64 0, .int .i64 0, .slice none 0 0, .slice none 0 0, .string ⟨#[]⟩, .int .i64 0, .string ⟨#[]⟩]), 13, 160))
    (rb base : Nat) (ao : Option Addr) (cap n : Nat) (l : List St) (hn : l.length = n) (hs : a.eval s = .slice ao n cap) (so : Option Addr) (m sc : Nat) (hu : a.eval u = .slice so m sc) (ys : List (St × Sv × Sv)) (hm : ys.length = m)
    (hown : OwnT w rb base ao cap l) (hsrc : Src w so ys) (hx : ∀ x ∈ ys, Lies (fun b => base ≤ b ∧ rowOf ao ≠ some b) w x) (hlen : n + m ≤ 10000000) (hbase : rb ≤ w.heap.size) (r : Nat) (hr : n + m = r)
    (h : ∀ ao' cap' w', OwnT w' rb base ao' cap' (l ++ ys.map (·.1)) → Ex rb none w w' → (∀ b, b < w.heap.size → rowOf ao ≠ some b → w'.heap[b]? = w.heap[b]?) → (rowOf ao' = rowOf ao ∨ rowOf ao' = some w.heap.size) → K (a.put o.dst (.slice ao' r cap')) w') : o.wp P a w K Q := by
  subst hr hn hm
  obtain ⟨i0, hi, hz0, hz1, hz2⟩ := info_parts hinfo
  obtain ⟨xs, rfl, h1, h2⟩ := hown
  have e1 : (xs.map (·.1)).length = xs.length := by simp
  rw [e1] at hs hlen h
  have key : ∀ so ad, so = some ad → a.eval u = .slice so ys.length sc → (∀ (j : Nat) (v : Value), (flatL stE ys)[j]? = some v → w.cell? (ad.add j) = some v) → o.wp P a w K Q := fun so ad e2 hu hc => by
    subst e2
    obtain ⟨v', w', hr, ho', hg, _, hnew⟩ := run_append_own_at (P := P) w rb t o.type 33 i0 _ 13 160 ht hi hz0 hz1 hz2 rfl (by decide) _ _ _ h1 ad ys.length sc (flatL stE ys) (flatL_len stE_len ys) hc (flatL_one one_stE ys) (by simp only [maxLen]; omega) (by omega) hbase
    obtain ⟨ao', cap', rfl⟩ := own_shape ho'
    have hrow : (Value.slice ao xs.length cap).ownBlock = rowOf ao := by cases ao <;> rfl
    have hrow' : (Value.slice ao' (xs.length + ys.length) cap').ownBlock = rowOf ao' := by cases ao' <;> rfl
    rw [hrow] at hg hnew
    rw [hrow'] at hnew
    have hkeep : ∀ y, Lies (fun b => base ≤ b ∧ rowOf ao ≠ some b) w y → Lies (fun b => base ≤ b ∧ rowOf ao' ≠ some b) w' y := fun y hy => by
      refine Lies.mono (P := fun b => (base ≤ b ∧ rowOf ao ≠ some b) ∧ b < w.heap.size) (Lies.keep (w := w) (hy.mono fun b hb hlt => ⟨hb, hlt⟩) fun b hb hlt => hg.block b hlt (fun e => hb.1.2 e.symm)) (fun b hb _ => ⟨hb.1.1, fun e => ?_⟩)
      rcases hb with ⟨⟨_, hb1⟩, hb2⟩
      rcases hnew with h0 | h0
      · exact hb1 (h0 ▸ e)
      · rw [e] at h0; cases h0; omega
    unfold Oper.wp execOp
    simp only [ho, resolve, invoke, builtin, Sem.run_bind, Sem.run_pure, Result.andThen_ok, List.map_toArray, List.map_cons, List.map_nil, hs, hu, hr]
    refine h ao' cap' w' ⟨xs ++ ys, by simp, ?_, fun y hy => ?_⟩ ?_ (fun b hb hne => hg.block b hb (fun e => hne e.symm)) hnew
    · unfold OwnE
      have e2 : flatL stE (xs ++ ys) = flatL stE xs ++ flatL stE ys := by simp [flatL]
      rw [e2, List.length_append]; exact ho'
    · simp only [List.mem_append] at hy
      rcases hy with hy | hy
      · exact hkeep y (h2 y hy)
      · exact hkeep y (hx y hy)
    · refine ⟨hg.os, hg.tape, hg.output, hg.size, fun k hk _ => hg.block k (by omega) (fun e => ?_)⟩
      cases ao with
      | none => cases e
      | some ad =>
        have := (h1.lt ad rfl).1
        simp [rowOf] at e
        omega
  rcases hsrc with h0 | ⟨ad, e2, hc⟩
  · have hy : ys = [] := List.eq_nil_of_length_eq_zero h0
    cases so with
    | some ad => exact key _ ad rfl hu (fun j v hv => by subst hy; simp [flatL] at hv)
    | none =>
      subst hy
      have hrun := run_append_none (P := P) (w := w) rb t o.type _ i0 13 ht hi _ _ sc _ h1
      unfold Oper.wp execOp
      simp only [ho, resolve, invoke, builtin, Sem.run_bind, Sem.run_pure, Result.andThen_ok, List.map_toArray, List.map_cons, List.map_nil, hs, hu, List.length_nil, hrun]
      exact h ao cap w ⟨xs, by simp, h1, h2⟩ (Ex.refl _ _ _) (fun _ _ _ => rfl) (.inl rfl)
  · exact key so ad e2 hu hc
/-- .. as a step of a region that draws its order. -/
theorem step_appT {P : Program} {w : World} {ops : Array Oper} {o : Oper} {a : Act} {K : Act → World → Prop} {Q : Exit → Act → World → Prop} {E : Prop} (hgd : o.guard = none) (s u : Operand) (t : TypeId)
    (ho : o.op = .call { callee := .builtin .append, args := #[s, u], argTypes := #[t, t] }) (ht : P.underlying t = some (.slice 33))
    (hinfo : (P.info? 33).map (fun i => (i.zero, i.size, i.bytes)) = some (some (.agg #[.int .i64 0, .int .i64 0, .string ⟨#[]⟩, .int .i64 0, .int .i64 0, .int .i64 0, .int .i64 0, .int .i64 0, .slice none 0 0, .slice none 0 0, .string ⟨#[]⟩, .int .i64 0, .string ⟨#[]⟩]), 13, 160))
    (rb base : Nat) (ao : Option Addr) (cap n : Nat) (l : List St) (hn : l.length = n) (hs : a.eval s = .slice ao n cap) (so : Option Addr) (m sc : Nat) (hu : a.eval u = .slice so m sc) (ys : List (St × Sv × Sv)) (hm : ys.length = m)
    (hown : OwnT w rb base ao cap l) (hsrc : Src w so ys) (hx : ∀ x ∈ ys, Lies (fun b => base ≤ b ∧ rowOf ao ≠ some b) w x) (hlen : n + m ≤ 10000000) (hbase : rb ≤ w.heap.size) (r : Nat) (hr : n + m = r)
    (h : ∀ ao' cap' w', OwnT w' rb base ao' cap' (l ++ ys.map (·.1)) → Ex rb none w w' → (∀ b, b < w.heap.size → rowOf ao ≠ some b → w'.heap[b]? = w.heap[b]?) → (rowOf ao' = rowOf ao ∨ rowOf ao' = some w.heap.size) → K (a.put o.dst (.slice ao' r cap')) w') :
    if Region.wanted o (yielded ops a.tmps) = true then o.wp P a w K Q else E := by
  rw [if_pos (show Region.wanted o (yielded ops a.tmps) = true by simp [Region.wanted, hgd])]
  exact wp_appT s u t ho ht hinfo rb base ao cap n l hn hs so m sc hu ys hm hown hsrc hx hlen hbase r hr h
/-- .. in a plain region. -/
theorem wpList_appT {P : Program} {w : World} {ops : Array Oper} {rest : List Oper} {o : Oper} {a : Act} {Q : Exit → Act → World → Prop} (hgd : o.guard = none) (s u : Operand) (t : TypeId)
    (ho : o.op = .call { callee := .builtin .append, args := #[s, u], argTypes := #[t, t] }) (ht : P.underlying t = some (.slice 33))
    (hinfo : (P.info? 33).map (fun i => (i.zero, i.size, i.bytes)) = some (some (.agg #[.int .i64 0, .int .i64 0, .string ⟨#[]⟩, .int .i64 0, .int .i64 0, .int .i64 0, .int .i64 0, .int .i64 0, .slice none 0 0, .slice none 0 0, .string ⟨#[]⟩, .int .i64 0, .string ⟨#[]⟩]), 13, 160))
    (rb base : Nat) (ao : Option Addr) (cap n : Nat) (l : List St) (hn : l.length = n) (hs : a.eval s = .slice ao n cap) (so : Option Addr) (m sc : Nat) (hu : a.eval u = .slice so m sc) (ys : List (St × Sv × Sv)) (hm : ys.length = m)
    (hown : OwnT w rb base ao cap l) (hsrc : Src w so ys) (hx : ∀ x ∈ ys, Lies (fun b => base ≤ b ∧ rowOf ao ≠ some b) w x) (hlen : n + m ≤ 10000000) (hbase : rb ≤ w.heap.size) (r : Nat) (hr : n + m = r)
    (h : ∀ ao' cap' w', OwnT w' rb base ao' cap' (l ++ ys.map (·.1)) → Ex rb none w w' → (∀ b, b < w.heap.size → rowOf ao ≠ some b → w'.heap[b]? = w.heap[b]?) → (rowOf ao' = rowOf ao ∨ rowOf ao' = some w.heap.size) → wpList P ops Q rest (a.put o.dst (.slice ao' r cap')) w') : wpList P ops Q (o :: rest) a w :=
  wpList_plain hgd fun _K hK => wp_appT s u t ho ht hinfo rb base ao cap n l hn hs so m sc hu ys hm hown hsrc hx hlen hbase r hr fun ao' cap' w' h1 h2 h3 h4 => hK _ _ (h ao' cap' w' h1 h2 h3 h4)
end Go.Proofs.Ytaakacahblndcaa

namespace Go.Proofs.Ytaakacahblndcaa
open Go.RowKit Go.Sort

theorem OwnS.lower {w : World} {base base' : Nat} {ao : Option Addr} {cap : Nat} {l : List St} (h : OwnS w base ao cap l) (hb : base' ≤ base) : OwnS w base' ao cap l := by
  obtain ⟨xs, e, h1, h2⟩ := h
  refine ⟨xs, e, ⟨h1.1, ?_⟩, fun x hx => (h2 x hx).mono fun b hbb _ => ⟨by omega, hbb.2⟩⟩
  rcases h1.2 with h | ⟨g, c, cur, e1, e2, e3⟩
  · exact .inl h
  · exact .inr ⟨g, c, cur, e1, by omega, e3⟩

end Go.Proofs.Ytaakacahblndcaa

namespace Go.Proofs.Ytaakacahblndcaa
open Go.RowKit Go.Sort

theorem dVal_nat {d : List Int} {n : Int} (h : 1 ≤ n) : ∃ k : Nat, dVal d n = k ∧ (k : Int) < n := by
  obtain ⟨h1, h2⟩ := dVal_bd (d := d) h
  exact ⟨(dVal d n).toNat, by omega, by omega⟩

end Go.Proofs.Ytaakacahblndcaa
