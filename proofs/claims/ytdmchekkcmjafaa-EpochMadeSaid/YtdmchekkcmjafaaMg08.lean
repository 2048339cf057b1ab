/- append of statements to a slice of statements that the call owns, one or many, in a plain region or in one that draws its order. No statement of the seat. | Small functions of the epochs: contracts, no statement of the seat. | ref03.CopyList: a contract, no statement of the seat. -/
import Derived.Test.YtdmchekkcmjafaaMg07
import Derived.Deep.RegionLaw
import Derived.Test.YtdmchekkcmjafaaSameListG
import Derived.Test.YtdmchekkcmjafaaMg01
import Derived.Sort.Grow
namespace Go.Proofs.Ytdmchekkcmjafaa
open Go.RowKit Go.Sort

/-- The slice at ao owns the statements l: its row lies from rb on; what their lists lie in, from 'base' on, not in the row. -/
def OwnT (w : World) (rb base : Nat) (ao : Option Addr) (cap : Nat) (l : List St) : Prop :=
  ∃ xs : List (St × Sv × Sv), xs.map (·.1) = l ∧ OwnE stE 13 30 w rb ao cap xs ∧ ∀ x ∈ xs, Lies (fun b => base ≤ b ∧ rowOf ao ≠ some b) w x
theorem OwnS.t {w : World} {base : Nat} {ao : Option Addr} {cap : Nat} {l : List St} (h : OwnS w base ao cap l) : OwnT w base base ao cap l := h
theorem OwnE.lower {α : Type} {enc : α → List Value} {k : Nat} {e : TypeId} {w : World} {base base' : Nat} {ao : Option Addr} {cap : Nat} {xs : List α} (h : OwnE enc k e w base ao cap xs) (hb : base' ≤ base) : OwnE enc k e w base' ao cap xs := by
  refine ⟨h.1, ?_⟩
  rcases h.2 with h | ⟨g, c, cur, e1, e2, e3⟩
  · exact .inl h
  · exact .inr ⟨g, c, cur, e1, by omega, e3⟩
theorem OwnT.s {w : World} {rb base : Nat} {ao : Option Addr} {cap : Nat} {l : List St} (h : OwnT w rb base ao cap l) (hb : base ≤ rb) : OwnS w base ao cap l := by
  obtain ⟨xs, e, h1, h2⟩ := h
  exact ⟨xs, e, h1.lower hb, h2⟩
theorem OwnT.nil (w : World) (rb base : Nat) : OwnT w rb base none 0 [] := ⟨[], rfl, OwnE.nil _ _ _ _ _, fun x hx => by simp at hx⟩
theorem OwnT.keep {w w' : World} {rb base B : Nat} {ao : Option Addr} {cap : Nat} {l : List St} (h : OwnT w rb base ao cap l) (hx : Ex B none w w') (hB : w.heap.size ≤ B) : OwnT w' rb base ao cap l := by
  obtain ⟨xs, e, h1, h2⟩ := h
  exact ⟨xs, e, h1.keep hx hB (by simp), fun x hxx => (h2 x hxx).keep fun b _ hb => hx.block b (by omega) (by simp)⟩
theorem OwnT.len {w : World} {rb base : Nat} {ao : Option Addr} {cap : Nat} {l : List St} (h : OwnT w rb base ao cap l) : l.length ≤ cap := by
  obtain ⟨xs, rfl, h1, _⟩ := h
  rcases h1.cases with ⟨_, rfl, h0⟩ | ⟨g, _, _, _, hc⟩
  · subst h0; exact Nat.le_refl _
  · simpa using hc
theorem flatL_cut (xs : List (St × Sv × Sv)) (j : Nat) : flatL stE xs = flatL stE (xs.take j) ++ flatL stE (xs.drop j) := by
  unfold flatL
  rw [← List.flatMap_append, List.take_append_drop]
theorem add_block (a : Addr) (j : Nat) : (a.add j).block = a.block := by unfold Addr.add; split <;> rfl
theorem OwnT.row {w : World} {rb base : Nat} {ao : Option Addr} {cap : Nat} {l : List St} (h : OwnT w rb base ao cap l) (b : Nat) (hb : rowOf ao = some b) : b < w.heap.size := by
  obtain ⟨xs, _, h1, _⟩ := h
  cases ao with
  | none => cases hb
  | some ad => simp [rowOf] at hb; subst hb; exact (h1.lt _ rfl).2
theorem OwnT.row_ge {w : World} {rb base : Nat} {ao : Option Addr} {cap : Nat} {l : List St} (h : OwnT w rb base ao cap l) (b : Nat) (hb : rowOf ao = some b) : rb ≤ b := by
  obtain ⟨xs, _, h1, _⟩ := h
  cases ao with
  | none => cases hb
  | some ad => simp [rowOf] at hb; subst hb; exact (h1.lt _ rfl).1
/-- Cells of statements by value, to be appended. -/
def Src (w : World) (so : Option Addr) (ys : List (St × Sv × Sv)) : Prop := ys.length = 0 ∨ ∃ ad, so = some ad ∧ ∀ (j : Nat) (v : Value), (flatL stE ys)[j]? = some v → w.cell? (ad.add j) = some v
theorem Src.keep {w w' : World} {so : Option Addr} {ys : List (St × Sv × Sv)} (h : Src w so ys) (hx : ∀ b, rowOf so = some b → b < w.heap.size → w'.heap[b]? = w.heap[b]?) : Src w' so ys := by
  rcases h with h | ⟨ad, e, h⟩
  · exact .inl h
  · refine .inr ⟨ad, e, fun j v hv => ?_⟩
    have h1 := h j v hv
    have hb : (ad.add j).block = ad.block := add_block _ _
    have h2 := World.block_lt_of_cell? w _ h1
    exact (World.cell?_of_block (w := w) (by rw [hb]; exact hx _ (by rw [e]; rfl) (by rw [← hb]; exact h2))).trans h1
/-- The slices of a row. -/
theorem OwnT.parts {w : World} {rb base : Nat} {ao : Option Addr} {cap : Nat} {l : List St} (h : OwnT w rb base ao cap l) (j : Nat) (hj : j ≤ l.length) :
    ∃ (xs : List (St × Sv × Sv)) (a2 : Option Addr), xs.map (·.1) = l ∧ (∀ x ∈ xs, Lies (fun b => base ≤ b ∧ rowOf ao ≠ some b) w x) ∧ Src w ao (xs.take j) ∧ (if cap = j then ao else ao.map (fun x => x.add (j * 13))) = a2 ∧ Src w a2 (xs.drop j) ∧ rowOf a2 = rowOf ao ∧ ∀ b, rowOf ao = some b → b < w.heap.size := by
  obtain ⟨xs, rfl, h1, h2⟩ := h
  have hj' : j ≤ xs.length := by simpa using hj
  refine ⟨xs, _, rfl, h2, ?_, rfl, ?_, ?_, ?_⟩
  · rcases h1.cases with ⟨_, _, h0⟩ | ⟨g, rfl, hb, _, _⟩
    · subst h0; exact .inl (by simp)
    · refine .inr ⟨_, rfl, fun i v hv => ?_⟩
      obtain ⟨_, _, _, _, hc, _⟩ := own_there h1
      rw [Addr.add_lit, Nat.zero_add]
      refine hc i v ?_
      have e : flatL stE xs = flatL stE (xs.take j) ++ flatL stE (xs.drop j) := flatL_cut xs j
      rw [e, List.getElem?_append_left (List.getElem?_eq_some_iff.1 hv).1]
      exact hv
  · by_cases hc : cap = j
    · rw [if_pos hc]
      refine .inl ?_
      rcases h1.cases with ⟨_, _, h0⟩ | ⟨g, _, _, _, hl⟩
      · subst h0; simp
      · simp; omega
    · rw [if_neg hc]
      rcases h1.cases with ⟨_, _, h0⟩ | ⟨g, rfl, hb, _, _⟩
      · subst h0; exact .inl (by simp)
      · refine .inr ⟨_, rfl, fun i v hv => ?_⟩
        obtain ⟨_, _, _, _, hc, _⟩ := own_there h1
        show w.cell? (((⟨g, 0, none⟩ : Addr).add (j * 13)).add i) = some v
        rw [Addr.add_lit, Addr.add_lit, Nat.zero_add]
        refine hc (j * 13 + i) v ?_
        have e : flatL stE xs = flatL stE (xs.take j) ++ flatL stE (xs.drop j) := flatL_cut xs j
        have hl : (flatL stE (xs.take j)).length = j * 13 := by rw [flatL_len stE_len, List.length_take, Nat.min_eq_left hj']
        rw [e, List.getElem?_append_right (by omega), hl, Nat.add_sub_cancel_left]
        exact hv
  · by_cases hc : cap = j
    · rw [if_pos hc]
    · rw [if_neg hc]; cases ao with
      | none => rfl
      | some ad => exact congrArg some (add_block _ _)
  · intro b hb
    cases ao with
    | none => cases hb
    | some ad => simp [rowOf] at hb; subst hb; exact (h1.lt _ rfl).2

/-- append at the operation. -/
theorem wp_appT {P : Program} {w : World} {o : Oper} {a : Act} {K : Act → World → Prop} {Q : Exit → Act → World → Prop} (s u : Operand) (t : TypeId)
    (ho : o.op = .call { callee := .builtin .append, args := #[s, u], argTypes := #[t, t] }) (ht : P.underlying t = some (.slice 30))
    (hinfo : (P.info? 30).map (fun i => (i.zero, i.size, i.bytes)) = some (some (.agg #[.int .i64 0, .int .i64 0, .string ⟨#[]⟩, .int .i64 0, .int .i64 0, .int .i64 0, .int .i64 0, .int .i64 0, .slice none 0 0, .slice none 0 0, .string ⟨#[]⟩, .int .i64 0, .string ⟨#[]⟩]), 13, 160))
    (rb base : Nat) (ao : Option Addr) (cap n : Nat) (l : List St) (hn : l.length = n) (hs : a.eval s = .slice ao n cap) (so : Option Addr) (m sc : Nat) (hu : a.eval u = .slice so m sc) (ys : List (St × Sv × Sv)) (hm : ys.length = m)
    (hown : OwnT w rb base ao cap l) (hsrc : Src w so ys) (hx : ∀ x ∈ ys, Lies (fun b => base ≤ b ∧ rowOf ao ≠ some b) w x) (hlen : n + m ≤ 10000000) (hbase : rb ≤ w.heap.size) (r : Nat) (hr : n + m = r)
    (h : ∀ ao' cap' w', OwnT w' rb base ao' cap' (l ++ ys.map (·.1)) → Ex rb none w w' → (∀ b, b < w.heap.size → rowOf ao ≠ some b → w'.heap[b]? = w.heap[b]?) → (rowOf ao' = rowOf ao ∨ rowOf ao' = some w.heap.size) → K (a.put o.dst (.slice ao' r cap')) w') : o.wp P a w K Q := by
  subst hr hn hm
  obtain ⟨i0, hi, hz0, hz1, hz2⟩ := info_parts hinfo
  obtain ⟨xs, rfl, h1, h2⟩ := hown
  have e1 : (xs.map (·.1)).length = xs.length := by simp
  rw [e1] at hs hlen h
  have key : ∀ so ad, so = some ad → a.eval u = .slice so ys.length sc → (∀ (j : Nat) (v : Value), (flatL stE ys)[j]? = some v → w.cell? (ad.add j) = some v) → o.wp P a w K Q := fun so ad e2 hu hc => by
    subst e2
    obtain ⟨v', w', hr, ho', hg, _, hnew⟩ := run_append_own_at (P := P) w rb t o.type 30 i0 _ 13 160 ht hi hz0 hz1 hz2 rfl (by decide) _ _ _ h1 ad ys.length sc (flatL stE ys) (flatL_len stE_len ys) hc (flatL_one one_stE ys) (by simp only [maxLen]; omega) (by omega) hbase
    obtain ⟨ao', cap', rfl⟩ := own_shape ho'
    have hrow : (Value.slice ao xs.length cap).ownBlock = rowOf ao := by cases ao <;> rfl
    have hrow' : (Value.slice ao' (xs.length + ys.length) cap').ownBlock = rowOf ao' := by cases ao' <;> rfl
    rw [hrow] at hg hnew
    rw [hrow'] at hnew
    have hkeep : ∀ y, Lies (fun b => base ≤ b ∧ rowOf ao ≠ some b) w y → Lies (fun b => base ≤ b ∧ rowOf ao' ≠ some b) w' y := fun y hy => by
      refine Lies.mono (P := fun b => (base ≤ b ∧ rowOf ao ≠ some b) ∧ b < w.heap.size) (Lies.keep (w := w) (hy.mono fun b hb hlt => ⟨hb, hlt⟩) fun b hb hlt => hg.block b hlt (fun e => hb.1.2 e.symm)) (fun b hb _ => ⟨hb.1.1, fun e => ?_⟩)
      rcases hb with ⟨⟨_, hb1⟩, hb2⟩
      rcases hnew with h0 | h0
      · exact hb1 (h0 ▸ e)
      · rw [e] at h0; cases h0; omega
    unfold Oper.wp execOp
    simp only [ho, resolve, invoke, builtin, Sem.run_bind, Sem.run_pure, Result.andThen_ok, List.map_toArray, List.map_cons, List.map_nil, hs, hu, hr]
    refine h ao' cap' w' ⟨xs ++ ys, by simp, ?_, fun y hy => ?_⟩ ?_ (fun b hb hne => hg.block b hb (fun e => hne e.symm)) hnew
    · unfold OwnE
      have e2 : flatL stE (xs ++ ys) = flatL stE xs ++ flatL stE ys := by simp [flatL]
      rw [e2, List.length_append]; exact ho'
    · simp only [List.mem_append] at hy
      rcases hy with hy | hy
      · exact hkeep y (h2 y hy)
      · exact hkeep y (hx y hy)
    · refine ⟨hg.os, hg.tape, hg.output, hg.size, fun k hk _ => hg.block k (by omega) (fun e => ?_)⟩
      cases ao with
      | none => cases e
      | some ad =>
        have := (h1.lt ad rfl).1
        simp [rowOf] at e
        omega
  rcases hsrc with h0 | ⟨ad, e2, hc⟩
  · have hy : ys = [] := List.eq_nil_of_length_eq_zero h0
    cases so with
    | some ad => exact key _ ad rfl hu (fun j v hv => by subst hy; simp [flatL] at hv)
    | none =>
      subst hy
      have hrun := run_append_none (P := P) (w := w) rb t o.type _ i0 13 ht hi _ _ sc _ h1
      unfold Oper.wp execOp
      simp only [ho, resolve, invoke, builtin, Sem.run_bind, Sem.run_pure, Result.andThen_ok, List.map_toArray, List.map_cons, List.map_nil, hs, hu, List.length_nil, hrun]
      exact h ao cap w ⟨xs, by simp, h1, h2⟩ (Ex.refl _ _ _) (fun _ _ _ => rfl) (.inl rfl)
  · exact key so ad e2 hu hc
/-- .. as a step of a region that draws its order. -/
theorem step_appT {P : Program} {w : World} {ops : Array Oper} {o : Oper} {a : Act} {K : Act → World → Prop} {Q : Exit → Act → World → Prop} {E : Prop} (hgd : o.guard = none) (s u : Operand) (t : TypeId)
    (ho : o.op = .call { callee := .builtin .append, args := #[s, u], argTypes := #[t, t] }) (ht : P.underlying t = some (.slice 30))
    (hinfo : (P.info? 30).map (fun i => (i.zero, i.size, i.bytes)) = some (some (.agg #[.int .i64 0, .int .i64 0, .string ⟨#[]⟩, .int .i64 0, .int .i64 0, .int .i64 0, .int .i64 0, .int .i64 0, .slice none 0 0, .slice none 0 0, .string ⟨#[]⟩, .int .i64 0, .string ⟨#[]⟩]), 13, 160))
    (rb base : Nat) (ao : Option Addr) (cap n : Nat) (l : List St) (hn : l.length = n) (hs : a.eval s = .slice ao n cap) (so : Option Addr) (m sc : Nat) (hu : a.eval u = .slice so m sc) (ys : List (St × Sv × Sv)) (hm : ys.length = m)
    (hown : OwnT w rb base ao cap l) (hsrc : Src w so ys) (hx : ∀ x ∈ ys, Lies (fun b => base ≤ b ∧ rowOf ao ≠ some b) w x) (hlen : n + m ≤ 10000000) (hbase : rb ≤ w.heap.size) (r : Nat) (hr : n + m = r)
    (h : ∀ ao' cap' w', OwnT w' rb base ao' cap' (l ++ ys.map (·.1)) → Ex rb none w w' → (∀ b, b < w.heap.size → rowOf ao ≠ some b → w'.heap[b]? = w.heap[b]?) → (rowOf ao' = rowOf ao ∨ rowOf ao' = some w.heap.size) → K (a.put o.dst (.slice ao' r cap')) w') :
    if Region.wanted o (yielded ops a.tmps) = true then o.wp P a w K Q else E := by
  rw [if_pos (show Region.wanted o (yielded ops a.tmps) = true by simp [Region.wanted, hgd])]
  exact wp_appT s u t ho ht hinfo rb base ao cap n l hn hs so m sc hu ys hm hown hsrc hx hlen hbase r hr h
/-- .. in a plain region. -/
theorem wpList_appT {P : Program} {w : World} {ops : Array Oper} {rest : List Oper} {o : Oper} {a : Act} {Q : Exit → Act → World → Prop} (hgd : o.guard = none) (s u : Operand) (t : TypeId)
    (ho : o.op = .call { callee := .builtin .append, args := #[s, u], argTypes := #[t, t] }) (ht : P.underlying t = some (.slice 30))
    (hinfo : (P.info? 30).map (fun i => (i.zero, i.size, i.bytes)) = some (some (.agg #[.int .i64 0, .int .i64 0, .string ⟨#[]⟩, .int .i64 0, .int .i64 0, .int .i64 0, .int .i64 0, .int .i64 0, .slice none 0 0, .slice none 0 0, .string ⟨#[]⟩, .int .i64 0, .string ⟨#[]⟩]), 13, 160))
    (rb base : Nat) (ao : Option Addr) (cap n : Nat) (l : List St) (hn : l.length = n) (hs : a.eval s = .slice ao n cap) (so : Option Addr) (m sc : Nat) (hu : a.eval u = .slice so m sc) (ys : List (St × Sv × Sv)) (hm : ys.length = m)
    (hown : OwnT w rb base ao cap l) (hsrc : Src w so ys) (hx : ∀ x ∈ ys, Lies (fun b => base ≤ b ∧ rowOf ao ≠ some b) w x) (hlen : n + m ≤ 10000000) (hbase : rb ≤ w.heap.size) (r : Nat) (hr : n + m = r)
    (h : ∀ ao' cap' w', OwnT w' rb base ao' cap' (l ++ ys.map (·.1)) → Ex rb none w w' → (∀ b, b < w.heap.size → rowOf ao ≠ some b → w'.heap[b]? = w.heap[b]?) → (rowOf ao' = rowOf ao ∨ rowOf ao' = some w.heap.size) → wpList P ops Q rest (a.put o.dst (.slice ao' r cap')) w') : wpList P ops Q (o :: rest) a w :=
  wpList_plain hgd fun _K hK => wp_appT s u t ho ht hinfo rb base ao cap n l hn hs so m sc hu ys hm hown hsrc hx hlen hbase r hr fun ao' cap' w' h1 h2 h3 h4 => hK _ _ (h ao' cap' w' h1 h2 h3 h4)
end Go.Proofs.Ytdmchekkcmjafaa

namespace Go.Proofs.Ytdmchekkcmjafaa
open Go.RowKit Go.Sort

def ofI (t n : Int) : Int := if t < 0 ∨ n < 1 then -1 else t / n
set_option maxHeartbeats 400000 in
theorem of_any (t n : Int) (w : World) (ht : t ≤ 9223372036854775807) : Calls Try.prog 8 #[.int .i64 t, .int .i64 n] w fun e w' => e = .returned (.int .i64 (ofI t n)) ∧ w = w' := by
  by_cases h1 : t < 0
  · have d1 : decide (t < 0) = true := decide_eq_true h1
    have HK : Hid (ofI t n = -1) := if_pos (Or.inl h1)
    go_enter Try.func8, Try.ntmps8
    go_wp2
    go_ret
    exact ⟨by rw [HK.out]; rfl, rfl⟩
  · have d1 : decide (t < 0) = false := decide_eq_false h1
    have h1' : 0 ≤ t := by omega
    by_cases h2 : n < 1
    · have d2 : decide (n < 1) = true := decide_eq_true h2
      have HK : Hid (ofI t n = -1) := if_pos (Or.inr h2)
      go_enter Try.func8, Try.ntmps8
      go_wp2
      go_ret
      exact ⟨by rw [HK.out]; rfl, rfl⟩
    · have d2 : decide (n < 1) = false := decide_eq_false h2
      have h2' : 1 ≤ n := by omega
      have HK : Hid (ofI t n = t / n) := if_neg (by omega)
      have q0 : 0 ≤ t / n := Int.ediv_nonneg h1' (by omega)
      have q1 : t / n ≤ 9223372036854775807 := Int.le_trans (Int.ediv_le_self n h1') ht
      go_enter Try.func8, Try.ntmps8
      go_wp2
      go_ret
      refine ⟨by rw [HK.out]; rfl, rfl⟩
set_option maxHeartbeats 400000 in
theorem refOf_any (t n : Int) (w : World) (ht : t ≤ 9223372036854775807) : Calls Try.prog 9 #[.int .i64 t, .int .i64 n] w fun e w' => e = .returned (.int .i64 (ofI t n)) ∧ w = w' := by
  by_cases h1 : t < 0
  · have d1 : decide (t < 0) = true := decide_eq_true h1
    have HK : Hid (ofI t n = -1) := if_pos (Or.inl h1)
    go_enter Try.func9, Try.ntmps9
    go_wp2
    go_ret
    exact ⟨by rw [HK.out]; rfl, rfl⟩
  · have d1 : decide (t < 0) = false := decide_eq_false h1
    have h1' : 0 ≤ t := by omega
    by_cases h2 : n < 1
    · have d2 : decide (n < 1) = true := decide_eq_true h2
      have HK : Hid (ofI t n = -1) := if_pos (Or.inr h2)
      go_enter Try.func9, Try.ntmps9
      go_wp2
      go_ret
      exact ⟨by rw [HK.out]; rfl, rfl⟩
    · have d2 : decide (n < 1) = false := decide_eq_false h2
      have h2' : 1 ≤ n := by omega
      have HK : Hid (ofI t n = t / n) := if_neg (by omega)
      have q0 : 0 ≤ t / n := Int.ediv_nonneg h1' (by omega)
      have q1 : t / n ≤ 9223372036854775807 := Int.le_trans (Int.ediv_le_self n h1') ht
      go_enter Try.func9, Try.ntmps9
      go_wp2
      go_ret
      refine ⟨by rw [HK.out]; rfl, rfl⟩

/-- By time, author, number. -/
def beforeB (s t : St) : Bool := decide (s.time < t.time) || (decide (s.time = t.time) && (decide (s.author < t.author) || (decide (s.author = t.author) && decide (s.number < t.number))))
set_option maxHeartbeats 1000000 in
set_option maxRecDepth 100000 in
theorem before_any (x y : St × Sv × Sv) (w : World) : Calls Try.prog 35 #[.agg (stE x).toArray, .agg (stE y).toArray] w fun e w' => e = .returned (.bool (beforeB x.1 y.1)) ∧ Ex w.heap.size none w w' := by
  obtain ⟨s, ⟨lo, ln, lc⟩, ⟨po, pn, pc⟩⟩ := x
  obtain ⟨t, ⟨lo', ln', lc'⟩, ⟨po', pn', pc'⟩⟩ := y
  simp only [stE, Sv.v]
  by_cases h1 : s.time = t.time
  · have d1 : (s.time != t.time) = false := by simp [h1]
    by_cases h2 : s.author = t.author
    · have d2 : (s.author != t.author) = false := by simp [h2]
      have HK : Hid (beforeB s t = decide (s.number < t.number)) := by show _ = _; simp [beforeB, h1, h2]
      clear h1 h2
      go_enter Try.func35, Try.ntmps35
      go_wp2
      go_ret
      exact ⟨by rw [HK.out]; rfl, ex_two _ _⟩
    · have d2 : (s.author != t.author) = true := by simp [h2]
      have HK : Hid (beforeB s t = decide (s.author < t.author)) := by show _ = _; simp [beforeB, h1, h2]
      clear h1 h2
      go_enter Try.func35, Try.ntmps35
      go_wp2
      go_ret
      exact ⟨by rw [HK.out]; rfl, ex_two _ _⟩
  · have d1 : (s.time != t.time) = true := by simp [h1]
    have HK : Hid (beforeB s t = decide (s.time < t.time)) := by show _ = _; simp [beforeB, h1]
    clear h1
    go_enter Try.func35, Try.ntmps35
    go_wp2
    go_ret
    exact ⟨by rw [HK.out]; rfl, ex_two _ _⟩

/-- cmp.Or of three numbers. -/
def or3 (a b c : Int) : Int := if a = 0 then (if b = 0 then c else b) else a
set_option maxHeartbeats 1000000 in
theorem cmpOr_any (v : Value) (xs : List Int) (w : World) (hv : Ints w v xs) (hm : xs.length ≤ 1000000) : Calls Try.prog 33 #[v] w fun e w' => e = .returned (.int .i64 ((xs.find? (· != 0)).getD 0)) ∧ w = w' := by
  obtain ⟨ao, cap, rfl, hx⟩ := hv
  go_enter Try.func33, Try.ntmps33
  go_wp2
  go_loop [8] (fun i => ∃ k : Nat, k ≤ xs.length ∧ i = .int .i64 k ∧ Hid ((xs.take k).find? (· != 0) = none)) (fun i => xs.length - (intOf i).toNat)
  case atStart => exact ⟨0, Nat.zero_le _, rfl, (show _ = _ by simp)⟩
  case round =>
    obtain ⟨k, hk, rfl, HN⟩ := hrel
    by_cases hlt : k < xs.length
    · obtain ⟨b, off, y, rfl, hck, HY⟩ := hx.get k hlt
      have ht : xs.take (k + 1) = xs.take k ++ [y] := by
        rw [List.take_add_one, List.getElem?_eq_getElem hlt]
        have := HY.out
        rw [List.getD_eq_getElem?_getD, List.getElem?_eq_getElem hlt] at this
        simp at this; simp [this]
      by_cases he : y = 0
      · have hb : (y != 0) = false := by simp [he]
        have HR : Hid ((xs.take (k + 1)).find? (· != 0) = none) := by
          show _ = _
          rw [ht, List.find?_append, HN.out]; simp [he]
        clear he ht
        go_wp2
        go_round
        case rel => exact ⟨k + 1, by omega, by go_num, HR⟩
        case measure => simp [intOf]; omega
      · have hb : (y != 0) = true := by simp [he]
        have HR : Hid (xs.find? (· != 0) = some y) := by
          show _ = _
          rw [← List.take_append_drop (k + 1) xs, ht, List.find?_append, List.find?_append, HN.out]; simp [he]
        clear he ht
        go_wp2
        go_ret
        exact ⟨by rw [HR.out]; rfl, rfl⟩
    · have HR : Hid (xs.find? (· != 0) = none) := by
        have h := HN.out
        rwa [List.take_of_length_le (by omega)] at h
      go_wp2
      go_ret
      exact ⟨by rw [HR.out]; rfl, rfl⟩
end Go.Proofs.Ytdmchekkcmjafaa

namespace Go.Proofs.Ytdmchekkcmjafaa
open Go.RowKit Go.Sort

set_option maxHeartbeats 2000000 in
set_option maxRecDepth 100000 in
theorem copyList_any {P : Nat → Prop} (v : Value) (l : List St) (w : World) (hv : Sl stRep P w v l) (hm : l.length ≤ 100000) (hl : LightL 1000000 l) :
    Calls Try.prog 53 #[v] w fun e w' => ∃ ro rc, e = .returned (.slice ro l.length rc) ∧ OwnS w' w.heap.size ro rc l ∧ Ex w.heap.size none w w' := by
  obtain ⟨ao, cap, rfl, hx⟩ := hv
  have HL := Lib.hid hl
  clear hl
  go_enter Try.func53, Try.ntmps53
  go_wp2
  go_loopw [3, 4] (fun v i wr => ∃ (k : Nat) (ro : Option Addr) (rc : Nat), k ≤ l.length ∧ i = .int .i64 k ∧ v = .slice ro k rc ∧ OwnS wr w.heap.size ro rc (l.take k) ∧ Ex w.heap.size none w wr) (fun _ i _ => l.length - (intOf i).toNat)
  case atStart => exact ⟨0, none, 0, by omega, rfl, rfl, by simpa using OwnS.nil _ _, Ex.refl _ _ _⟩
  case round =>
    obtain ⟨k, ro, rc, hk, rfl, rfl, hown, hex⟩ := hrel
    have hle : (l.take k).length = k := by simp; omega
    have HLE := Lib.hid hle
    have hsz := hex.size
    by_cases hlt : k < l.length
    · have fx := hx.keep (by decide) (fun b _ hb => hex.block b hb (by simp))
      obtain ⟨b, off, s, ⟨lo, ln, lc⟩, ⟨po, pn, pc⟩, rfl, _, hls, hr, HX⟩ := st_get fx k hlt
      have hc := st_at hr
      simp only [Sv.v] at hc
      obtain ⟨c0, c1, c2, c3, c4, c5, c6, c7, c8, c9, c10, c11, c12⟩ := hc
      have hm1 := HL.out.get HX.out
      have HLS := Lib.hid hls
      have HO := Lib.hid hown
      clear fx hr hls hown
      have HK : Hid (l.take (k + 1) = l.take k ++ [s]) := (show _ = _ by rw [List.take_add_one, HX.out]; rfl)
      clear hle
      go_wp2_with fail
      refine (copy03_lit s lo po ln lc pn pc _ HLS.out (by omega)).mono ?_
      rintro e w2 ⟨la, na, ca, pa, np, cp, rfl, hl2, hex2⟩
      have hs2 := hex2.size
      have HL2 := Lib.hid hl2
      clear hl2 c0 c1 c2 c3 c4 c5 c6 c7 c8 c9 c10 c11 c12
      go_wp2_with (at_builtin; refine wpList_appS rfl (.tmp 11) (.tmp 17) _ rfl Try.underlying22 Try.infoSt w.heap.size ro rc _ (l.take k) HLE.out.symm (by rfl) w2.heap.size (by rfl) (s, ⟨la, na, ca⟩, ⟨pa, np, cp⟩) (HO.out.keep (hex2.trans (Ex.new w2 _) hs2 (by simp)) (Nat.le_refl _)) (lit_st rfl) (lies_new HO.out HL2.out hsz) (by rw [HLE.out]; omega) (by simp <;> omega) ?_; intro ro' rc' w3 hown3 hex3)
      go_roundw
      case rel => exact ⟨k + 1, ro', rc', by omega, by go_num, rfl, by rw [HK.out]; exact hown3, (hex.trans hex2 hsz (by simp)).trans ((Ex.new w2 _).mono (show w.heap.size ≤ w2.heap.size by omega) |>.trans hex3 (Nat.le_refl _) (by simp)) (Nat.le_refl _) (by simp)⟩
      case measure => simp [intOf] <;> omega
    · obtain rfl : k = l.length := by omega
      rw [List.take_length] at hown
      go_wp2
      go_ret
      exact ⟨ro, rc, rfl, hown, hex⟩

end Go.Proofs.Ytdmchekkcmjafaa
