/- append of statements, as AppT has it, with whatever predicate on the blocks that the lists lie in. No statement of the seat. | The closures that the program's epoch hands about: contracts, no statement of the seat. | ref09.Latest: a contract, no statement of the seat. -/
import Derived.Test.YtdmchekkcmjafaaMg08
import Derived.Sort.Grow
import Derived.Deep.RegionHeld3
import Derived.Deep.RegionLaw
import Derived.OwnWalk
import Derived.Outline
import Derived.Test.YtdmchekkcmjafaaMg05
namespace Go.Proofs.Ytdmchekkcmjafaa
open Go.RowKit Go.Sort

/-- The slice at ao owns the statements l: its row lies from rb on; what their lists lie in, from 'base' on, not in the row. -/
def OwnG (w : World) (rb : Nat) (G : Nat → Prop) (ao : Option Addr) (cap : Nat) (l : List St) : Prop :=
  ∃ xs : List (St × Sv × Sv), xs.map (·.1) = l ∧ OwnE stE 13 30 w rb ao cap xs ∧ ∀ x ∈ xs, Lies (fun b => G b ∧ rowOf ao ≠ some b) w x
theorem OwnG.nil (w : World) (rb : Nat) (G : Nat → Prop) : OwnG w rb G none 0 [] := ⟨[], rfl, OwnE.nil _ _ _ _ _, fun x hx => by simp at hx⟩
theorem OwnG.keep {w w' : World} {rb B : Nat} {G : Nat → Prop} {ao : Option Addr} {cap : Nat} {l : List St} (h : OwnG w rb G ao cap l) (hx : Ex B none w w') (hB : w.heap.size ≤ B) : OwnG w' rb G ao cap l := by
  obtain ⟨xs, e, h1, h2⟩ := h
  exact ⟨xs, e, h1.keep hx hB (by simp), fun x hxx => (h2 x hxx).keep fun b _ hb => hx.block b (by omega) (by simp)⟩
theorem OwnG.len {w : World} {rb : Nat} {G : Nat → Prop} {ao : Option Addr} {cap : Nat} {l : List St} (h : OwnG w rb G ao cap l) : l.length ≤ cap := by
  obtain ⟨xs, rfl, h1, _⟩ := h
  rcases h1.cases with ⟨_, rfl, h0⟩ | ⟨g, _, _, _, hc⟩
  · subst h0; exact Nat.le_refl _
  · simpa using hc
theorem OwnG.row {w : World} {rb : Nat} {G : Nat → Prop} {ao : Option Addr} {cap : Nat} {l : List St} (h : OwnG w rb G ao cap l) (b : Nat) (hb : rowOf ao = some b) : b < w.heap.size := by
  obtain ⟨xs, _, h1, _⟩ := h
  cases ao with
  | none => cases hb
  | some ad => simp [rowOf] at hb; subst hb; exact (h1.lt _ rfl).2
theorem OwnG.row_ge {w : World} {rb : Nat} {G : Nat → Prop} {ao : Option Addr} {cap : Nat} {l : List St} (h : OwnG w rb G ao cap l) (b : Nat) (hb : rowOf ao = some b) : rb ≤ b := by
  obtain ⟨xs, _, h1, _⟩ := h
  cases ao with
  | none => cases hb
  | some ad => simp [rowOf] at hb; subst hb; exact (h1.lt _ rfl).1
/-- The slices of a row. -/
theorem OwnG.parts {w : World} {rb : Nat} {G : Nat → Prop} {ao : Option Addr} {cap : Nat} {l : List St} (h : OwnG w rb G ao cap l) (j : Nat) (hj : j ≤ l.length) :
    ∃ (xs : List (St × Sv × Sv)) (a2 : Option Addr), xs.map (·.1) = l ∧ (∀ x ∈ xs, Lies (fun b => G b ∧ rowOf ao ≠ some b) w x) ∧ Src w ao (xs.take j) ∧ (if cap = j then ao else ao.map (fun x => x.add (j * 13))) = a2 ∧ Src w a2 (xs.drop j) ∧ rowOf a2 = rowOf ao ∧ ∀ b, rowOf ao = some b → b < w.heap.size := by
  obtain ⟨xs, rfl, h1, h2⟩ := h
  have hj' : j ≤ xs.length := by simpa using hj
  refine ⟨xs, _, rfl, h2, ?_, rfl, ?_, ?_, ?_⟩
  · rcases h1.cases with ⟨_, _, h0⟩ | ⟨g, rfl, hb, _, _⟩
    · subst h0; exact .inl (by simp)
    · refine .inr ⟨_, rfl, fun i v hv => ?_⟩
      obtain ⟨_, _, _, _, hc, _⟩ := own_there h1
      rw [Addr.add_lit, Nat.zero_add]
      refine hc i v ?_
      have e : flatL stE xs = flatL stE (xs.take j) ++ flatL stE (xs.drop j) := flatL_cut xs j
      rw [e, List.getElem?_append_left (List.getElem?_eq_some_iff.1 hv).1]
      exact hv
  · by_cases hc : cap = j
    · rw [if_pos hc]
      refine .inl ?_
      rcases h1.cases with ⟨_, _, h0⟩ | ⟨g, _, _, _, hl⟩
      · subst h0; simp
      · simp; omega
    · rw [if_neg hc]
      rcases h1.cases with ⟨_, _, h0⟩ | ⟨g, rfl, hb, _, _⟩
      · subst h0; exact .inl (by simp)
      · refine .inr ⟨_, rfl, fun i v hv => ?_⟩
        obtain ⟨_, _, _, _, hc, _⟩ := own_there h1
        show w.cell? (((⟨g, 0, none⟩ : Addr).add (j * 13)).add i) = some v
        rw [Addr.add_lit, Addr.add_lit, Nat.zero_add]
        refine hc (j * 13 + i) v ?_
        have e : flatL stE xs = flatL stE (xs.take j) ++ flatL stE (xs.drop j) := flatL_cut xs j
        have hl : (flatL stE (xs.take j)).length = j * 13 := by rw [flatL_len stE_len, List.length_take, Nat.min_eq_left hj']
        rw [e, List.getElem?_append_right (by omega), hl, Nat.add_sub_cancel_left]
        exact hv
  · by_cases hc : cap = j
    · rw [if_pos hc]
    · rw [if_neg hc]; cases ao with
      | none => rfl
      | some ad => exact congrArg some (add_block _ _)
  · intro b hb
    cases ao with
    | none => cases hb
    | some ad => simp [rowOf] at hb; subst hb; exact (h1.lt _ rfl).2

/-- append at the operation. -/
theorem wp_appG {P : Program} {w : World} {o : Oper} {a : Act} {K : Act → World → Prop} {Q : Exit → Act → World → Prop} (s u : Operand) (t : TypeId)
    (ho : o.op = .call { callee := .builtin .append, args := #[s, u], argTypes := #[t, t] }) (ht : P.underlying t = some (.slice 30))
    (hinfo : (P.info? 30).map (fun i => (i.zero, i.size, i.bytes)) = some (some (.agg #[.int .i64 0, .int .i64 0, .string ⟨#[]⟩, .int .i64 0, .int .i64 0, .int .i64 0, .int .i64 0, .int .i64 0, .slice none 0 0, .slice none 0 0, .string ⟨#[]⟩, .int .i64 0, .string ⟨#[]⟩]), 13, 160))
    (rb : Nat) (G : Nat → Prop) (ao : Option Addr) (cap n : Nat) (l : List St) (hn : l.length = n) (hs : a.eval s = .slice ao n cap) (so : Option Addr) (m sc : Nat) (hu : a.eval u = .slice so m sc) (ys : List (St × Sv × Sv)) (hm : ys.length = m)
    (hown : OwnG w rb G ao cap l) (hsrc : Src w so ys) (hx : ∀ x ∈ ys, Lies (fun b => G b ∧ rowOf ao ≠ some b) w x) (hlen : n + m ≤ 10000000) (hbase : rb ≤ w.heap.size) (r : Nat) (hr : n + m = r)
    (h : ∀ ao' cap' w', OwnG w' rb G ao' cap' (l ++ ys.map (·.1)) → Ex rb none w w' → (∀ b, b < w.heap.size → rowOf ao ≠ some b → w'.heap[b]? = w.heap[b]?) → (rowOf ao' = rowOf ao ∨ rowOf ao' = some w.heap.size) → K (a.put o.dst (.slice ao' r cap')) w') : o.wp P a w K Q := by
  subst hr hn hm
  obtain ⟨i0, hi, hz0, hz1, hz2⟩ := info_parts hinfo
  obtain ⟨xs, rfl, h1, h2⟩ := hown
  have e1 : (xs.map (·.1)).length = xs.length := by simp
  rw [e1] at hs hlen h
  have key : ∀ so ad, so = some ad → a.eval u = .slice so ys.length sc → (∀ (j : Nat) (v : Value), (flatL stE ys)[j]? = some v → w.cell? (ad.add j) = some v) → o.wp P a w K Q := fun so ad e2 hu hc => by
    subst e2
    obtain ⟨v', w', hr, ho', hg, _, hnew⟩ := run_append_own_at (P := P) w rb t o.type 30 i0 _ 13 160 ht hi hz0 hz1 hz2 rfl (by decide) _ _ _ h1 ad ys.length sc (flatL stE ys) (flatL_len stE_len ys) hc (flatL_one one_stE ys) (by simp only [maxLen]; omega) (by omega) hbase
    obtain ⟨ao', cap', rfl⟩ := own_shape ho'
    have hrow : (Value.slice ao xs.length cap).ownBlock = rowOf ao := by cases ao <;> rfl
    have hrow' : (Value.slice ao' (xs.length + ys.length) cap').ownBlock = rowOf ao' := by cases ao' <;> rfl
    rw [hrow] at hg hnew
    rw [hrow'] at hnew
    have hkeep : ∀ y, Lies (fun b => G b ∧ rowOf ao ≠ some b) w y → Lies (fun b => G b ∧ rowOf ao' ≠ some b) w' y := fun y hy => by
      refine Lies.mono (P := fun b => (G b ∧ rowOf ao ≠ some b) ∧ b < w.heap.size) (Lies.keep (w := w) (hy.mono fun b hb hlt => ⟨hb, hlt⟩) fun b hb hlt => hg.block b hlt (fun e => hb.1.2 e.symm)) (fun b hb _ => ⟨hb.1.1, fun e => ?_⟩)
      rcases hb with ⟨⟨_, hb1⟩, hb2⟩
      rcases hnew with h0 | h0
      · exact hb1 (h0 ▸ e)
      · rw [e] at h0; cases h0; omega
    unfold Oper.wp execOp
    simp only [ho, resolve, invoke, builtin, Sem.run_bind, Sem.run_pure, Result.andThen_ok, List.map_toArray, List.map_cons, List.map_nil, hs, hu, hr]
    refine h ao' cap' w' ⟨xs ++ ys, by simp, ?_, fun y hy => ?_⟩ ?_ (fun b hb hne => hg.block b hb (fun e => hne e.symm)) hnew
    · unfold OwnE
      have e2 : flatL stE (xs ++ ys) = flatL stE xs ++ flatL stE ys := by simp [flatL]
      rw [e2, List.length_append]; exact ho'
    · simp only [List.mem_append] at hy
      rcases hy with hy | hy
      · exact hkeep y (h2 y hy)
      · exact hkeep y (hx y hy)
    · refine ⟨hg.os, hg.tape, hg.output, hg.size, fun k hk _ => hg.block k (by omega) (fun e => ?_)⟩
      cases ao with
      | none => cases e
      | some ad =>
        have := (h1.lt ad rfl).1
        simp [rowOf] at e
        omega
  rcases hsrc with h0 | ⟨ad, e2, hc⟩
  · have hy : ys = [] := List.eq_nil_of_length_eq_zero h0
    cases so with
    | some ad => exact key _ ad rfl hu (fun j v hv => by subst hy; simp [flatL] at hv)
    | none =>
      subst hy
      have hrun := run_append_none (P := P) (w := w) rb t o.type _ i0 13 ht hi _ _ sc _ h1
      unfold Oper.wp execOp
      simp only [ho, resolve, invoke, builtin, Sem.run_bind, Sem.run_pure, Result.andThen_ok, List.map_toArray, List.map_cons, List.map_nil, hs, hu, List.length_nil, hrun]
      exact h ao cap w ⟨xs, by simp, h1, h2⟩ (Ex.refl _ _ _) (fun _ _ _ => rfl) (.inl rfl)
  · exact key so ad e2 hu hc
/-- .. as a step of a region that draws its order. -/
theorem step_appG {P : Program} {w : World} {ops : Array Oper} {o : Oper} {a : Act} {K : Act → World → Prop} {Q : Exit → Act → World → Prop} {E : Prop} (hgd : o.guard = none) (s u : Operand) (t : TypeId)
    (ho : o.op = .call { callee := .builtin .append, args := #[s, u], argTypes := #[t, t] }) (ht : P.underlying t = some (.slice 30))
    (hinfo : (P.info? 30).map (fun i => (i.zero, i.size, i.bytes)) = some (some (.agg #[.int .i64 0, .int .i64 0, .string ⟨#[]⟩, .int .i64 0, .int .i64 0, .int .i64 0, .int .i64 0, .int .i64 0, .slice none 0 0, .slice none 0 0, .string ⟨#[]⟩, .int .i64 0, .string ⟨#[]⟩]), 13, 160))
    (rb : Nat) (G : Nat → Prop) (ao : Option Addr) (cap n : Nat) (l : List St) (hn : l.length = n) (hs : a.eval s = .slice ao n cap) (so : Option Addr) (m sc : Nat) (hu : a.eval u = .slice so m sc) (ys : List (St × Sv × Sv)) (hm : ys.length = m)
    (hown : OwnG w rb G ao cap l) (hsrc : Src w so ys) (hx : ∀ x ∈ ys, Lies (fun b => G b ∧ rowOf ao ≠ some b) w x) (hlen : n + m ≤ 10000000) (hbase : rb ≤ w.heap.size) (r : Nat) (hr : n + m = r)
    (h : ∀ ao' cap' w', OwnG w' rb G ao' cap' (l ++ ys.map (·.1)) → Ex rb none w w' → (∀ b, b < w.heap.size → rowOf ao ≠ some b → w'.heap[b]? = w.heap[b]?) → (rowOf ao' = rowOf ao ∨ rowOf ao' = some w.heap.size) → K (a.put o.dst (.slice ao' r cap')) w') :
    if Region.wanted o (yielded ops a.tmps) = true then o.wp P a w K Q else E := by
  rw [if_pos (show Region.wanted o (yielded ops a.tmps) = true by simp [Region.wanted, hgd])]
  exact wp_appG s u t ho ht hinfo rb G ao cap n l hn hs so m sc hu ys hm hown hsrc hx hlen hbase r hr h
/-- .. in a plain region. -/
theorem wpList_appG {P : Program} {w : World} {ops : Array Oper} {rest : List Oper} {o : Oper} {a : Act} {Q : Exit → Act → World → Prop} (hgd : o.guard = none) (s u : Operand) (t : TypeId)
    (ho : o.op = .call { callee := .builtin .append, args := #[s, u], argTypes := #[t, t] }) (ht : P.underlying t = some (.slice 30))
    (hinfo : (P.info? 30).map (fun i => (i.zero, i.size, i.bytes)) = some (some (.agg #[.int .i64 0, .int .i64 0, .string ⟨#[]⟩, .int .i64 0, .int .i64 0, .int .i64 0, .int .i64 0, .int .i64 0, .slice none 0 0, .slice none 0 0, .string ⟨#[]⟩, .int .i64 0, .string ⟨#[]⟩]), 13, 160))
    (rb : Nat) (G : Nat → Prop) (ao : Option Addr) (cap n : Nat) (l : List St) (hn : l.length = n) (hs : a.eval s = .slice ao n cap) (so : Option Addr) (m sc : Nat) (hu : a.eval u = .slice so m sc) (ys : List (St × Sv × Sv)) (hm : ys.length = m)
    (hown : OwnG w rb G ao cap l) (hsrc : Src w so ys) (hx : ∀ x ∈ ys, Lies (fun b => G b ∧ rowOf ao ≠ some b) w x) (hlen : n + m ≤ 10000000) (hbase : rb ≤ w.heap.size) (r : Nat) (hr : n + m = r)
    (h : ∀ ao' cap' w', OwnG w' rb G ao' cap' (l ++ ys.map (·.1)) → Ex rb none w w' → (∀ b, b < w.heap.size → rowOf ao ≠ some b → w'.heap[b]? = w.heap[b]?) → (rowOf ao' = rowOf ao ∨ rowOf ao' = some w.heap.size) → wpList P ops Q rest (a.put o.dst (.slice ao' r cap')) w') : wpList P ops Q (o :: rest) a w :=
  wpList_plain hgd fun _K hK => wp_appG s u t ho ht hinfo rb G ao cap n l hn hs so m sc hu ys hm hown hsrc hx hlen hbase r hr fun ao' cap' w' h1 h2 h3 h4 => hK _ _ (h ao' cap' w' h1 h2 h3 h4)

theorem OwnG.keepG {w w' : World} {rb : Nat} {G : Nat → Prop} {ao : Option Addr} {cap : Nat} {l : List St} (h : OwnG w rb G ao cap l) (hr : ∀ b, rowOf ao = some b → b < w.heap.size → w'.heap[b]? = w.heap[b]?) (hl : ∀ b, G b → b < w.heap.size → w'.heap[b]? = w.heap[b]?) : OwnG w' rb G ao cap l := by
  obtain ⟨xs, e, h1, h2⟩ := h
  refine ⟨xs, e, ?_, fun x hx => (h2 x hx).keep fun b hb hlt => hl b hb.1 hlt⟩
  obtain ⟨k1, k2⟩ := h1
  refine ⟨k1, ?_⟩
  rcases k2 with k2 | ⟨g, c, cur, hv, hg, hh, r⟩
  · exact .inl k2
  · refine .inr ⟨g, c, cur, hv, hg, ?_, r⟩
    have hlt := (Array.getElem?_eq_some_iff.1 hh).1
    rw [hr g ?_ hlt]
    · exact hh
    · simp only [Value.slice.injEq] at hv
      rw [hv.1]; rfl
theorem OwnG.monoG {w : World} {rb : Nat} {G G' : Nat → Prop} {ao : Option Addr} {cap : Nat} {l : List St} (h : OwnG w rb G ao cap l) (hg : ∀ b, G b → b < w.heap.size → G' b) : OwnG w rb G' ao cap l := by
  obtain ⟨xs, e, h1, h2⟩ := h
  exact ⟨xs, e, h1, fun x hx => (h2 x hx).mono fun b hb hlt => ⟨hg b hb.1 hlt, hb.2⟩⟩
theorem OwnG.lowG {w : World} {rb rb' : Nat} {G : Nat → Prop} {ao : Option Addr} {cap : Nat} {l : List St} (h : OwnG w rb G ao cap l) (hb : rb' ≤ rb) : OwnG w rb' G ao cap l := by
  obtain ⟨xs, e, h1, h2⟩ := h
  exact ⟨xs, e, h1.lower hb, h2⟩
/-- A slice that the call owns, no part of which lies in block g. -/
def OwnZ (g base : Nat) (w : World) (ao : Option Addr) (cap : Nat) (l : List St) : Prop := OwnG w base (fun b => base ≤ b ∧ b ≠ g) ao cap l ∧ rowOf ao ≠ some g
theorem OwnZ.s {g base : Nat} {w : World} {ao : Option Addr} {cap : Nat} {l : List St} (h : OwnZ g base w ao cap l) : OwnS w base ao cap l := h.1.monoG (G' := fun b => base ≤ b) fun _b hb _ => hb.1
theorem OwnZ.keep {g base : Nat} {w w' : World} {ao : Option Addr} {cap : Nat} {l : List St} (h : OwnZ g base w ao cap l) (hx : ∀ b, base ≤ b → b ≠ g → b < w.heap.size → w'.heap[b]? = w.heap[b]?) : OwnZ g base w' ao cap l :=
  ⟨h.1.keepG (fun b hb hlt => hx b (h.1.row_ge b hb) (fun e => h.2 (by rw [hb, e])) hlt) (fun b hb hlt => hx b hb.1 hb.2 hlt), h.2⟩
theorem OwnZ.of {g base : Nat} {w : World} {ao : Option Addr} {cap : Nat} {l : List St} (h : OwnS w base ao cap l) (hg : w.heap.size ≤ g) : OwnZ g base w ao cap l :=
  ⟨OwnG.monoG (G := fun b => base ≤ b) h fun b hb hlt => ⟨hb, by omega⟩, fun e => by have := h.t.row g e; omega⟩
end Go.Proofs.Ytdmchekkcmjafaa

namespace Go.Proofs.Ytdmchekkcmjafaa
open Go.RowKit Go.Sort

/-- By time, author, number: what the program's Order compares by. -/
def byTime (x y : St × Sv × Sv) : Int := (([cmpI x.1.time y.1.time, cmpI x.1.author y.1.author, cmpI x.1.number y.1.number] : List Int).find? (· != 0)).getD 0
theorem cmpI_self (n : Int) : cmpI n n = 0 := cmpI_zero.2 rfl
theorem byTime_lt {x y : St × Sv × Sv} : byTime x y < 0 ↔ beforeB x.1 y.1 = true := by
  unfold byTime beforeB
  have a1 := @cmpI_zero x.1.time y.1.time
  have a2 := @cmpI_zero x.1.author y.1.author
  have a3 := @cmpI_zero x.1.number y.1.number
  have b1 := @cmpI_lt x.1.time y.1.time
  have b2 := @cmpI_lt x.1.author y.1.author
  have b3 := @cmpI_lt x.1.number y.1.number
  by_cases h1 : x.1.time = y.1.time
  · have e1 : (cmpI x.1.time y.1.time != 0) = false := by simp [a1.2 h1]
    by_cases h2 : x.1.author = y.1.author
    · have e2 : (cmpI x.1.author y.1.author != 0) = false := by simp [a2.2 h2]
      by_cases h3 : x.1.number = y.1.number
      · have e3 : (cmpI x.1.number y.1.number != 0) = false := by simp [a3.2 h3]
        simp [cmpI_self, h1, h2, h3]
      · have e3 : (cmpI x.1.number y.1.number != 0) = true := by simp; exact fun h => h3 (a3.1 h)
        simp [cmpI_self, e3, h1, h2, b3]
    · have e2 : (cmpI x.1.author y.1.author != 0) = true := by simp; exact fun h => h2 (a2.1 h)
      simp [cmpI_self, e2, h1, h2, b2]
  · have e1 : (cmpI x.1.time y.1.time != 0) = true := by simp; exact fun h => h1 (a1.1 h)
    simp [e1, h1, b1]

/-- The world has grown by draws and blocks. -/
def GrowsTo (w w' : World) : Prop := ∃ q os', w' = grow (w.drewN q) os'

set_option maxHeartbeats 2000000 in
set_option maxRecDepth 100000 in
theorem orderCmp_any (x y : St × Sv × Sv) (w : World) : Calls Try.prog 32 #[.agg (stE x).toArray, .agg (stE y).toArray] w fun e w' => e = .returned (.int .i64 (byTime x y)) ∧ GrowsTo w w' := by
  obtain ⟨s, ⟨lo, ln, lc⟩, ⟨po, pn, pc⟩⟩ := x
  obtain ⟨t, ⟨lo', ln', lc'⟩, ⟨po', pn', pc'⟩⟩ := y
  simp only [stE, Sv.v, byTime]
  go_enter Try.func32, Try.ntmps32
  go_wp2_with fail
  go_region_held3 (fun w' => w'.cell? ⟨w.heap.size, 3, none⟩ = some (.int .i64 s.time) ∧ w'.cell? ⟨w.heap.size + 1, 3, none⟩ = some (.int .i64 t.time) ∧ w'.cell? ⟨w.heap.size, 0, none⟩ = some (.int .i64 s.author) ∧ w'.cell? ⟨w.heap.size + 1, 0, none⟩ = some (.int .i64 t.author) ∧ w'.cell? ⟨w.heap.size, 1, none⟩ = some (.int .i64 s.number) ∧ w'.cell? ⟨w.heap.size + 1, 1, none⟩ = some (.int .i64 t.number)) (go_keep)
    (first
      | (go_at_call 34; refine (compare_any _ _ _).mono ?_; rintro e w' ⟨rfl, rfl⟩)
      | (go_at_call 33; refine (cmpOr_any _ [cmpI s.time t.time, cmpI s.author t.author, cmpI s.number t.number] _ (Ints.keep (Ints.lit [cmpI s.time t.time, cmpI s.author t.author, cmpI s.number t.number] (by simp) rfl) (Ex.refl _ none _).drew (Nat.le_refl _)) (by simp)).mono ?_; rintro e w' ⟨rfl, rfl⟩))
  go_wp2
  go_ret
  refine ⟨rfl, ?_⟩
  exact ⟨1, #[_, _, _], by rw [alloc_eq_grow, alloc_eq_grow, alloc_eq_grow, grow_grow, grow_grow]; rfl⟩

set_option maxHeartbeats 400000 in
theorem latestCmp_any (x y : St × Sv × Sv) (w : World) : Calls Try.prog 37 #[.agg (stE x).toArray, .agg (stE y).toArray] w fun e w' => e = .returned (.int .i64 (cmpI x.1.time y.1.time)) ∧ Ex w.heap.size none w w' := by
  obtain ⟨s, ⟨lo, ln, lc⟩, ⟨po, pn, pc⟩⟩ := x
  obtain ⟨t, ⟨lo', ln', lc'⟩, ⟨po', pn', pc'⟩⟩ := y
  simp only [stE, Sv.v]
  go_enter Try.func37, Try.ntmps37
  go_wp2_with (go_at_call 34; refine (compare_any _ _ _).mono ?_; rintro e w' ⟨rfl, rfl⟩)
  go_ret
  exact ⟨rfl, ex_two _ _⟩
set_option maxHeartbeats 400000 in
theorem allTest_any (x : St × Sv × Sv) (w : World) : Calls Try.prog 30 #[.agg (stE x).toArray] w fun e w' => e = .returned (.bool true) ∧ Ex w.heap.size none w w' := by
  obtain ⟨s, ⟨lo, ln, lc⟩, ⟨po, pn, pc⟩⟩ := x
  simp only [stE, Sv.v]
  go_enter Try.func30, Try.ntmps30
  go_wp2
  go_ret
  exact ⟨rfl, Ex.new _ _⟩
set_option maxHeartbeats 400000 in
theorem untilTest_any (x : St × Sv × Sv) (g : Nat) (t : Int) (w : World) (hc : w.cell? ⟨g, 0, none⟩ = some (.int .i64 t)) : Calls Try.prog 27 #[.agg (stE x).toArray, .pointer (some ⟨g, 0, none⟩)] w fun e w' => e = .returned (.bool (decide (x.1.time ≤ t))) ∧ Ex w.heap.size none w w' := by
  obtain ⟨s, ⟨lo, ln, lc⟩, ⟨po, pn, pc⟩⟩ := x
  simp only [stE, Sv.v]
  have hlt := World.block_lt_of_cell? w _ hc
  simp only at hlt
  go_enter Try.func27, Try.ntmps27
  go_wp2
  go_ret
  exact ⟨rfl, Ex.new _ _⟩
set_option maxHeartbeats 400000 in
theorem windowTest_any (x : St × Sv × Sv) (g g' : Nat) (t u : Int) (w : World) (hc : w.cell? ⟨g, 0, none⟩ = some (.int .i64 t)) (hc' : w.cell? ⟨g', 0, none⟩ = some (.int .i64 u)) : Calls Try.prog 29 #[.agg (stE x).toArray, .pointer (some ⟨g, 0, none⟩), .pointer (some ⟨g', 0, none⟩)] w fun e w' => e = .returned (.bool (decide (t ≤ x.1.time) && decide (x.1.time ≤ u))) ∧ Ex w.heap.size none w w' := by
  obtain ⟨s, ⟨lo, ln, lc⟩, ⟨po, pn, pc⟩⟩ := x
  simp only [stE, Sv.v]
  have hlt := World.block_lt_of_cell? w _ hc
  have hlt' := World.block_lt_of_cell? w _ hc'
  simp only at hlt hlt'
  by_cases h1 : t ≤ s.time
  · have d1 : decide (t ≤ s.time) = true := decide_eq_true h1
    have HK : Hid ((decide (t ≤ s.time) && decide (s.time ≤ u)) = decide (s.time ≤ u)) := by show _ = _; simp [h1]
    go_enter Try.func29, Try.ntmps29
    go_wp2
    go_ret
    exact ⟨by rw [HK.out]; rfl, Ex.new _ _⟩
  · have d1 : decide (t ≤ s.time) = false := decide_eq_false h1
    go_enter Try.func29, Try.ntmps29
    go_wp2
    go_ret
    exact ⟨rfl, Ex.new _ _⟩
end Go.Proofs.Ytdmchekkcmjafaa

namespace Go.Proofs.Ytdmchekkcmjafaa
open Go.RowKit Go.Sort

/-- The greatest time so far. -/
def lateO (l : List St) : Option Int := l.foldl (fun o s => some (match o with | none => s.time | some m => if m < s.time then s.time else m)) none
def latestI (l : List St) : Int := (lateO l).getD (-1)
theorem lateO_snoc {l : List St} {k : Nat} {s : St} (h : l[k]? = some s) : lateO (l.take (k + 1)) = some (match lateO (l.take k) with | none => s.time | some m => if m < s.time then s.time else m) := by
  unfold lateO
  rw [List.take_add_one, h, List.foldl_append]
  rfl
theorem lateO_some {l : List St} {k : Nat} (hk : 0 < k) (hl : k ≤ l.length) : ∃ m, lateO (l.take k) = some m := by
  obtain ⟨k, rfl⟩ : ∃ j, k = j + 1 := ⟨k - 1, by omega⟩
  exact ⟨_, lateO_snoc (List.getElem?_eq_getElem (by omega))⟩
theorem latestI_yes {l : List St} {k : Nat} {s : St} (h : l[k]? = some s) (hk : k = 0 ∨ latestI (l.take k) < s.time) : latestI (l.take (k + 1)) = s.time := by
  rcases Nat.eq_zero_or_pos k with h0 | h0
  · subst h0; unfold latestI; rw [lateO_snoc h]; simp [lateO]
  · obtain ⟨m, hm⟩ := lateO_some h0 (Nat.le_of_lt (List.getElem?_eq_some_iff.1 h).1)
    unfold latestI at hk ⊢
    rw [lateO_snoc h, hm]
    rw [hm] at hk
    simp only [Option.getD_some] at hk ⊢
    rw [if_pos (by omega)]
theorem latestI_no {l : List St} {k : Nat} {s : St} (h : l[k]? = some s) (h0 : 0 < k) (hk : ¬ latestI (l.take k) < s.time) : latestI (l.take (k + 1)) = latestI (l.take k) := by
  obtain ⟨m, hm⟩ := lateO_some h0 (Nat.le_of_lt (List.getElem?_eq_some_iff.1 h).1)
  unfold latestI at hk ⊢
  rw [lateO_snoc h, hm]
  rw [hm] at hk
  simp only [Option.getD_some] at hk ⊢
  rw [if_neg hk]

set_option maxHeartbeats 2000000 in
set_option maxRecDepth 100000 in
theorem refLatest_any {P : Nat → Prop} (v : Value) (l : List St) (w : World) (hv : Sl stRep P w v l) (hm : l.length ≤ 100000) :
    Calls Try.prog 18 #[v] w fun e w' => e = .returned (.int .i64 (latestI l)) ∧ w = w' := by
  obtain ⟨ao, cap, rfl, hx⟩ := hv
  go_enter Try.func18, Try.ntmps18
  go_wp2
  go_loopw [3, 4] (fun v i wr => ∃ (k : Nat), k ≤ l.length ∧ i = .int .i64 k ∧ v = .int .i64 (latestI (l.take k)) ∧ w = wr) (fun _ i _ => l.length - (intOf i).toNat)
  case atStart => exact ⟨0, by omega, rfl, rfl, rfl⟩
  case round =>
    obtain ⟨k, hk, rfl, rfl, rfl⟩ := hrel
    by_cases hlt : k < l.length
    · obtain ⟨b, off, s, ⟨lo, ln, lc⟩, ⟨po, pn, pc⟩, rfl, _, hls, hr, HX⟩ := st_get hx k hlt
      have hc := st_at hr
      simp only [Sv.v] at hc
      obtain ⟨c0, c1, c2, c3, c4, c5, c6, c7, c8, c9, c10, c11, c12⟩ := hc
      obtain ⟨m, hmm⟩ : ∃ m, m = latestI (l.take k) := ⟨_, rfl⟩
      have HM := Lib.hid hmm
      rw [← hmm]
      clear hr hls hmm c0 c1 c2 c4 c5 c6 c7 c8 c9 c10 c11 c12
      by_cases h0 : k = 0
      · have HK : Hid (latestI (l.take (k + 1)) = s.time) := latestI_yes HX.out (.inl h0)
        subst h0
        simp only [Nat.zero_mul, Nat.add_zero, Nat.zero_add] at c3 HK
        have hk1 : 1 ≤ l.length := hlt
        go_wp2
        go_roundw
        case rel => exact ⟨1, hk1, by go_num, by rw [HK.out], by trivial⟩
        case measure => simp [intOf] <;> omega
      · have d0 : decide ((k : Int) = 0) = false := decide_eq_false (by omega)
        by_cases hp : m < s.time
        · have HK : Hid (latestI (l.take (k + 1)) = s.time) := latestI_yes HX.out (.inr (by rw [← HM.out]; exact hp))
          have d1 : decide (m < s.time) = true := decide_eq_true hp
          go_wp2
          go_roundw
          case rel => exact ⟨k + 1, by omega, by go_num, by rw [HK.out], by trivial⟩
          case measure => simp [intOf] <;> omega
        · have HK : Hid (latestI (l.take (k + 1)) = latestI (l.take k)) := latestI_no HX.out (by omega) (by rw [← HM.out]; exact hp)
          have d1 : decide (m < s.time) = false := decide_eq_false hp
          go_wp2
          go_roundw
          case rel => exact ⟨k + 1, by omega, by go_num, by rw [HK.out, ← HM.out], by trivial⟩
          case measure => simp [intOf] <;> omega
    · obtain rfl : k = l.length := by omega
      rw [List.take_length]
      go_wp2
      go_ret
      exact ⟨rfl, rfl⟩
end Go.Proofs.Ytdmchekkcmjafaa
