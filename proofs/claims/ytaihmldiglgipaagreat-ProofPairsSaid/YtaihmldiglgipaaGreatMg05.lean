/- append of statements to a slice of statements that the call owns, one or many, in a plain region or in one that draws its order. No statement of the seat. | Dice.Of, Bytes, Digest of the made inputs: contracts, no statement of the seat. | append of a slice to an empty one: nothing that was there is turned. No statement of the seat. -/
import Derived.Test.YtaihmldiglgipaaGreatMg04
import Derived.Deep.RegionLaw
import Derived.Test.YtaihmldiglgipaaGreatMg02
namespace Go.Proofs.YtaihmldiglgipaaGreat
open Go.RowKit Go.Sort

/-- The slice at ao owns the statements l: its row lies from rb on; what their lists lie in, from 'base' on, not in the row. -/
def OwnT (w : World) (rb base : Nat) (ao : Option Addr) (cap : Nat) (l : List St) : Prop :=
  ∃ xs : List (St × Sv × Sv), xs.map (·.1) = l ∧ OwnE stE 13 35 w rb ao cap xs ∧ ∀ x ∈ xs, Lies (fun b => base ≤ b ∧ rowOf ao ≠ some b) w x
theorem OwnS.t {w : World} {base : Nat} {ao : Option Addr} {cap : Nat} {l : List St} (h : OwnS w base ao cap l) : OwnT w base base ao cap l := h
theorem OwnT.keep {w w' : World} {rb base B : Nat} {ao : Option Addr} {cap : Nat} {l : List St} (h : OwnT w rb base ao cap l) (hx : Ex B none w w') (hB : w.heap.size ≤ B) : OwnT w' rb base ao cap l := by
  obtain ⟨xs, e, h1, h2⟩ := h
  exact ⟨xs, e, h1.keep hx hB (by simp), fun x hxx => (h2 x hxx).keep fun b _ hb => hx.block b (by omega) (by simp)⟩
theorem OwnT.row {w : World} {rb base : Nat} {ao : Option Addr} {cap : Nat} {l : List St} (h : OwnT w rb base ao cap l) (b : Nat) (hb : rowOf ao = some b) : b < w.heap.size := by
  obtain ⟨xs, _, h1, _⟩ := h
  cases ao with
  | none => cases hb
  | some ad => simp [rowOf] at hb; subst hb; exact (h1.lt _ rfl).2
/-- Cells of statements by value, to be appended. -/
def Src (w : World) (so : Option Addr) (ys : List (St × Sv × Sv)) : Prop := ys.length = 0 ∨ ∃ ad, so = some ad ∧ ∀ (j : Nat) (v : Value), (flatL stE ys)[j]? = some v → w.cell? (ad.add j) = some v
/-- append at the operation. -/
theorem wp_appT {P : Program} {w : World} {o : Oper} {a : Act} {K : Act → World → Prop} {Q : Exit → Act → World → Prop} (s u : Operand) (t : TypeId)
    (ho : o.op = .call { callee := .builtin .append, args := #[s, u], argTypes := #[t, t] }) (ht : P.underlying t = some (.slice 35))
    (hinfo : (P.info? 35).map (fun i => (i.zero, i.size, i.bytes)) = some (some (.agg #[.int .i64 0, .int .i64 0, .string ⟨#[]⟩, .int .i64 0, .int .i64 0, .int .i64 0, .int .i64 0, .int .i64 0, .slice none 0 0, .slice none 0 0, .string ⟨#[]⟩, .int .i64 0, .string ⟨#[]⟩]), 13, 160))
    (rb base : Nat) (ao : Option Addr) (cap n : Nat) (l : List St) (hn : l.length = n) (hs : a.eval s = .slice ao n cap) (so : Option Addr) (m sc : Nat) (hu : a.eval u = .slice so m sc) (ys : List (St × Sv × Sv)) (hm : ys.length = m)
    (hown : OwnT w rb base ao cap l) (hsrc : Src w so ys) (hx : ∀ x ∈ ys, Lies (fun b => base ≤ b ∧ rowOf ao ≠ some b) w x) (hlen : n + m ≤ 10000000) (hbase : rb ≤ w.heap.size) (r : Nat) (hr : n + m = r)
    (h : ∀ ao' cap' w', OwnT w' rb base ao' cap' (l ++ ys.map (·.1)) → Ex rb none w w' → (∀ b, b < w.heap.size → rowOf ao ≠ some b → w'.heap[b]? = w.heap[b]?) → (rowOf ao' = rowOf ao ∨ rowOf ao' = some w.heap.size) → K (a.put o.dst (.slice ao' r cap')) w') : o.wp P a w K Q := by
  subst hr hn hm
  obtain ⟨i0, hi, hz0, hz1, hz2⟩ := info_parts hinfo
  obtain ⟨xs, rfl, h1, h2⟩ := hown
  have e1 : (xs.map (·.1)).length = xs.length := by simp
  rw [e1] at hs hlen h
  have key : ∀ so ad, so = some ad → a.eval u = .slice so ys.length sc → (∀ (j : Nat) (v : Value), (flatL stE ys)[j]? = some v → w.cell? (ad.add j) = some v) → o.wp P a w K Q := fun so ad e2 hu hc => by
    subst e2
    obtain ⟨v', w', hr, ho', hg, _, hnew⟩ := run_append_own_at (P := P) w rb t o.type 35 i0 _ 13 160 ht hi hz0 hz1 hz2 rfl (by decide) _ _ _ h1 ad ys.length sc (flatL stE ys) (flatL_len stE_len ys) hc (flatL_one one_stE ys) (by simp only [maxLen]; omega) (by omega) hbase
    obtain ⟨ao', cap', rfl⟩ := own_shape ho'
    have hrow : (Value.slice ao xs.length cap).ownBlock = rowOf ao := by cases ao <;> rfl
    have hrow' : (Value.slice ao' (xs.length + ys.length) cap').ownBlock = rowOf ao' := by cases ao' <;> rfl
    rw [hrow] at hg hnew
    rw [hrow'] at hnew
    have hkeep : ∀ y, Lies (fun b => base ≤ b ∧ rowOf ao ≠ some b) w y → Lies (fun b => base ≤ b ∧ rowOf ao' ≠ some b) w' y := fun y hy => by
      refine Lies.mono (P := fun b => (base ≤ b ∧ rowOf ao ≠ some b) ∧ b < w.heap.size) (Lies.keep (w := w) (hy.mono fun b hb hlt => ⟨hb, hlt⟩) fun b hb hlt => hg.block b hlt (fun e => hb.1.2 e.symm)) (fun b hb _ => ⟨hb.1.1, fun e => ?_⟩)
      rcases hb with ⟨⟨_, hb1⟩, hb2⟩
      rcases hnew with h0 | h0
      · exact hb1 (h0 ▸ e)
      · rw [e] at h0; cases h0; omega
    unfold Oper.wp execOp
    simp only [ho, resolve, invoke, builtin, Sem.run_bind, Sem.run_pure, Result.andThen_ok, List.map_toArray, List.map_cons, List.map_nil, hs, hu, hr]
    refine h ao' cap' w' ⟨xs ++ ys, by simp, ?_, fun y hy => ?_⟩ ?_ (fun b hb hne => hg.block b hb (fun e => hne e.symm)) hnew
    · unfold OwnE
      have e2 : flatL stE (xs ++ ys) = flatL stE xs ++ flatL stE ys := by simp [flatL]
      rw [e2, List.length_append]; exact ho'
    · simp only [List.mem_append] at hy
      rcases hy with hy | hy
      · exact hkeep y (h2 y hy)
      · exact hkeep y (hx y hy)
    · refine ⟨hg.os, hg.tape, hg.output, hg.size, fun k hk _ => hg.block k (by omega) (fun e => ?_)⟩
      cases ao with
      | none => cases e
      | some ad =>
        have := (h1.lt ad rfl).1
        simp [rowOf] at e
        omega
  rcases hsrc with h0 | ⟨ad, e2, hc⟩
  · have hy : ys = [] := List.eq_nil_of_length_eq_zero h0
    cases so with
    | some ad => exact key _ ad rfl hu (fun j v hv => by subst hy; simp [flatL] at hv)
    | none =>
      subst hy
      have hrun := run_append_none (P := P) (w := w) rb t o.type _ i0 13 ht hi _ _ sc _ h1
      unfold Oper.wp execOp
      simp only [ho, resolve, invoke, builtin, Sem.run_bind, Sem.run_pure, Result.andThen_ok, List.map_toArray, List.map_cons, List.map_nil, hs, hu, List.length_nil, hrun]
      exact h ao cap w ⟨xs, by simp, h1, h2⟩ (Ex.refl _ _ _) (fun _ _ _ => rfl) (.inl rfl)
  · exact key so ad e2 hu hc
/-- .. as a step of a region that draws its order. -/
theorem step_appT {P : Program} {w : World} {ops : Array Oper} {o : Oper} {a : Act} {K : Act → World → Prop} {Q : Exit → Act → World → Prop} {E : Prop} (hgd : o.guard = none) (s u : Operand) (t : TypeId)
    (ho : o.op = .call { callee := .builtin .append, args := #[s, u], argTypes := #[t, t] }) (ht : P.underlying t = some (.slice 35))
    (hinfo : (P.info? 35).map (fun i => (i.zero, i.size, i.bytes)) = some (some (.agg #[.int .i64 0, .int .i64 0, .string ⟨#[]⟩, .int .i64 0, .int .i64 0, .int .i64 0, .int .i64 0, .int .i64 0, .slice none 0 0, .slice none 0 0, .string ⟨#[]⟩, .int .i64 0, .string ⟨#[]⟩]), 13, 160))
    (rb base : Nat) (ao : Option Addr) (cap n : Nat) (l : List St) (hn : l.length = n) (hs : a.eval s = .slice ao n cap) (so : Option Addr) (m sc : Nat) (hu : a.eval u = .slice so m sc) (ys : List (St × Sv × Sv)) (hm : ys.length = m)
    (hown : OwnT w rb base ao cap l) (hsrc : Src w so ys) (hx : ∀ x ∈ ys, Lies (fun b => base ≤ b ∧ rowOf ao ≠ some b) w x) (hlen : n + m ≤ 10000000) (hbase : rb ≤ w.heap.size) (r : Nat) (hr : n + m = r)
    (h : ∀ ao' cap' w', OwnT w' rb base ao' cap' (l ++ ys.map (·.1)) → Ex rb none w w' → (∀ b, b < w.heap.size → rowOf ao ≠ some b → w'.heap[b]? = w.heap[b]?) → (rowOf ao' = rowOf ao ∨ rowOf ao' = some w.heap.size) → K (a.put o.dst (.slice ao' r cap')) w') :
    if Region.wanted o (yielded ops a.tmps) = true then o.wp P a w K Q else E := by
  rw [if_pos (show Region.wanted o (yielded ops a.tmps) = true by simp [Region.wanted, hgd])]
  exact wp_appT s u t ho ht hinfo rb base ao cap n l hn hs so m sc hu ys hm hown hsrc hx hlen hbase r hr h
/-- .. in a plain region. -/
theorem wpList_appT {P : Program} {w : World} {ops : Array Oper} {rest : List Oper} {o : Oper} {a : Act} {Q : Exit → Act → World → Prop} (hgd : o.guard = none) (s u : Operand) (t : TypeId)
    (ho : o.op = .call { callee := .builtin .append, args := #[s, u], argTypes := #[t, t] }) (ht : P.underlying t = some (.slice 35))
    (hinfo : (P.info? 35).map (fun i => (i.zero, i.size, i.bytes)) = some (some (.agg #[.int .i64 0, .int .i64 0, .string ⟨#[]⟩, .int .i64 0, .int .i64 0, .int .i64 0, .int .i64 0, .int .i64 0, .slice none 0 0, .slice none 0 0, .string ⟨#[]⟩, .int .i64 0, .string ⟨#[]⟩]), 13, 160))
    (rb base : Nat) (ao : Option Addr) (cap n : Nat) (l : List St) (hn : l.length = n) (hs : a.eval s = .slice ao n cap) (so : Option Addr) (m sc : Nat) (hu : a.eval u = .slice so m sc) (ys : List (St × Sv × Sv)) (hm : ys.length = m)
    (hown : OwnT w rb base ao cap l) (hsrc : Src w so ys) (hx : ∀ x ∈ ys, Lies (fun b => base ≤ b ∧ rowOf ao ≠ some b) w x) (hlen : n + m ≤ 10000000) (hbase : rb ≤ w.heap.size) (r : Nat) (hr : n + m = r)
    (h : ∀ ao' cap' w', OwnT w' rb base ao' cap' (l ++ ys.map (·.1)) → Ex rb none w w' → (∀ b, b < w.heap.size → rowOf ao ≠ some b → w'.heap[b]? = w.heap[b]?) → (rowOf ao' = rowOf ao ∨ rowOf ao' = some w.heap.size) → wpList P ops Q rest (a.put o.dst (.slice ao' r cap')) w') : wpList P ops Q (o :: rest) a w :=
  wpList_plain hgd fun _K hK => wp_appT s u t ho ht hinfo rb base ao cap n l hn hs so m sc hu ys hm hown hsrc hx hlen hbase r hr fun ao' cap' w' h1 h2 h3 h4 => hK _ _ (h ao' cap' w' h1 h2 h3 h4)
end Go.Proofs.YtaihmldiglgipaaGreat

namespace Go.Proofs.YtaihmldiglgipaaGreat
open Go.RowKit Go.Sort

theorem OwnS.keepP {w w' : World} {base B : Nat} {p : Option Nat} {ao : Option Addr} {cap : Nat} {l : List St} (h : OwnS w base ao cap l) (hx : Ex B p w w') (hB : w.heap.size ≤ B) (hp : ∀ q, p = some q → q < base) : OwnS w' base ao cap l := by
  obtain ⟨xs, e, h1, h2⟩ := h
  exact ⟨xs, e, h1.keep hx hB hp, fun x hxx => (h2 x hxx).keep fun b hb hlt => hx.block b (by omega) (fun e => by have := hp b e.symm; omega)⟩
theorem dVal_nat {d : List Int} {n : Int} (h : 1 ≤ n) : ∃ k : Nat, dVal d n = k ∧ (k : Int) < n := by
  obtain ⟨h1, h2⟩ := dVal_bd (d := d) h
  exact ⟨(dVal d n).toNat, by omega, by omega⟩

set_option maxHeartbeats 400000 in
theorem ofD_any (N p : Nat) (d : List Int) (v : Value) (xs : List Int) (w : World) (hd : DiceAt N w p d) (hv : IntsO p w v xs) (h1 : 1 ≤ xs.length) (hm : xs.length ≤ 100000) :
    Calls Tryz.prog 38 #[.pointer (some ⟨p, 0, none⟩), v] w fun e w' => e = .returned (.int .i64 (xs.getD (dVal d xs.length).toNat 0)) ∧ DiceAt N w' p d.tail ∧ Ex w.heap.size (some p) w w' := by
  obtain ⟨ao, cap, rfl, hx, haw⟩ := hv
  obtain ⟨k, hk, hkl⟩ := dVal_nat (d := d) (n := xs.length) (by omega)
  have HK : Hid ((dVal d xs.length).toNat = k) := (show _ = _ by rw [hk]; simp)
  have hkl' : k < xs.length := by omega
  have HX := Lib.hid hx
  have HA := Lib.hid haw
  have HD := Lib.hid hd
  clear hx haw hd
  go_enter Tryz.func38, Tryz.ntmps38
  go_wp2_with fail
  refine (next_any N p d xs.length w HD.out (by omega)).mono ?_
  rw [hk]
  clear hk
  rintro e w1 ⟨rfl, hd1, hex1⟩
  obtain ⟨b, off, y, rfl, hc, HY⟩ := (HX.out.keep hex1 (Nat.le_refl _) (fun q hq hne => by cases hq; exact HA.out hne)).get k hkl'
  have HD1 := Lib.hid hd1
  have HE1 := Lib.hid hex1
  clear hd1 hex1
  go_wp2
  go_ret
  exact ⟨by rw [HK.out, HY.out]; rfl, HD1.out, HE1.out⟩
end Go.Proofs.YtaihmldiglgipaaGreat

namespace Go.Proofs.YtaihmldiglgipaaGreat
open Go.RowKit Go.Sort

theorem run_append_empty {P : Program} (t e ty : TypeId) (i : TypeInfo) (ht : P.underlying t = some (.slice e)) (hi : P.info? e = some i) (w : World) (g : Nat) (so : Option Addr) (c : Nat) :
    (Builtin.append_ #[t, t] ty #[.slice (some ⟨g, 0, none⟩) 0 0, .slice so 0 c]).run P w = .ok (.slice (some ⟨g, 0, none⟩) 0 0) w := by
  cases so with
  | none => simp [Builtin.append_, run_underlying ht, sizeOf, typeInfo, hi, Builtin.lenOf, Builtin.firstCells, storeCells]
  | some ad => simp [Builtin.append_, run_underlying ht, sizeOf, typeInfo, hi, Builtin.lenOf, Builtin.firstCells, storeCells, loadCells, loadCellsFrom]
theorem own_slK {α : Type} [Inhabited α] {enc : α → List Value} {k : Nat} {hk : ∀ x, (enc x).length = k} {h1 : ∀ x, ∀ v ∈ enc x, v.oneCell' = true} {e : TypeId} {w : World} {base n : Nat} {ao : Option Addr} {ac : Nat} {xs : List α} (hn : xs.length = n) (h : OwnE enc k e w base ao ac xs) : Sl (valRep enc k hk h1) (fun b => base ≤ b) w (.slice ao n ac) xs := by
  subst hn
  refine ⟨ao, ac, rfl, ?_⟩
  rcases h.cases with ⟨_, _, rfl⟩ | ⟨g, rfl, hg, _, _⟩
  · exact SlAt.nil _ _ _
  · exact val_sl hg (h.holds hk)
/-- A slice that is owned, above a block. -/
def Fact.own {α : Type} (enc : α → List Value) (k : Nat) (e : TypeId) (base n : Nat) (xs : List α) : Fact := ⟨fun v w => ∃ ao ac, v = .slice ao n ac ∧ OwnE enc k e w base ao ac xs, fun ⟨ao, ac, h1, h2⟩ hx => ⟨ao, ac, h1, h2.keep hx (Nat.le_refl _) (by simp)⟩⟩
theorem own_empty {α : Type} {enc : α → List Value} {k : Nat} {e : TypeId} {w : World} {base g : Nat} (h : w.heap[g]? = some (.cells #[] e (0, 0))) (hb : base ≤ g) : OwnE enc k e w base (some ⟨g, 0, none⟩) 0 [] := ⟨by simp [flatL], .inr ⟨g, 0, #[], rfl, hb, h, Nat.le_refl _, by simp, by simp, by simp [flatL]⟩⟩
/-- An owned row does not lie in a block of another type. -/
theorem own_away {α : Type} {enc : α → List Value} {k : Nat} {e t : TypeId} {w : World} {base g : Nat} {ao : Option Addr} {ac : Nat} {xs : List α} (h : OwnE enc k e w base ao ac xs) {cs : Array Value} (hg : w.heap[g]? = some (.cells cs t (0, 0))) (ht : e ≠ t) : rowOf ao ≠ some g := by
  intro hr
  rcases h.2 with ⟨h1, _⟩ | ⟨g', cap', cur, hv, _, hh, _⟩
  · simp only [Value.slice.injEq] at h1
    rw [h1.1] at hr; cases hr
  · simp only [Value.slice.injEq] at hv
    rw [hv.1] at hr
    have : g' = g := Option.some.inj hr
    subst this
    rw [hh] at hg
    cases hg
    exact ht rfl
/-- 'append([]T{}, src...)': a slice of its own, and the world grows. -/
theorem wp_appN {α : Type} {P : Program} {w : World} {o : Oper} {a : Act} {K : Act → World → Prop} {Q : Exit → Act → World → Prop} (hgd : o.guard = none) (s u : Operand) (t e : TypeId)
    (ho : o.op = .call { callee := .builtin .append, args := #[s, u], argTypes := #[t, t] }) (ht : P.underlying t = some (.slice e)) (z : Value) (k bytes : Nat)
    (hinfo : (P.info? e).map (fun i => (i.zero, i.size, i.bytes)) = some (some z, k, bytes)) (hzc : z.cells.size = k) (hk0 : 0 < k) (hb : bytes ≤ 1000)
    (enc : α → List Value) (hk : ∀ x, (enc x).length = k) (h1 : ∀ x, ∀ v ∈ enc x, v.oneCell' = true)
    (base b : Nat) (hs : a.eval s = .slice (some ⟨b, 0, none⟩) 0 0) (hbb : base ≤ b) (hbe : w.heap[b]? = some (.cells #[] e (0, 0))) (so : Option Addr) (m c : Nat) (hu : a.eval u = .slice so m c) (ys : List α) (hm : ys.length = m)
    (hsrc : ys.length = 0 ∨ ∃ ad, so = some ad ∧ ∀ (j : Nat) (v : Value), (flatL enc ys)[j]? = some v → w.cell? (ad.add j) = some v) (h2 : m ≤ 1000000) (hbw : base ≤ w.heap.size)
    (hK : ∀ v w', Ex w.heap.size none w w' → (Fact.own enc k e base m ys).p v w' → K (a.put o.dst v) w') : o.wp P a w K Q := by
  obtain ⟨i0, hi, hz0, hz1, hz2⟩ := info_parts hinfo
  rcases Nat.eq_zero_or_pos m with h0 | h0
  · subst h0
    have hy : ys = [] := List.eq_nil_of_length_eq_zero hm
    subst hy
    have hrun := run_append_empty (P := P) t e o.type i0 ht hi w b so c
    unfold Oper.wp
    simp [execOp, ho, resolve, invoke, builtin, hs, hu, hrun, Result.andThen]
    exact hK _ _ (Ex.refl _ _ _) ⟨some ⟨b, 0, none⟩, 0, rfl, own_empty hbe hbb⟩
  · rcases hsrc with hy | ⟨ad, rfl, hc⟩
    · omega
    · have hmb : m * bytes ≤ 1000000 * 1000 := Nat.mul_le_mul h2 hb
      have H := step_append_grows (P := P) (ops := #[]) (E := True) (Q := Q) (K := K) (w := w) hgd s u t ho e i0 z k bytes ht hi hz0 hz1 hz2 hzc hk0 (some ⟨b, 0, none⟩) 0 0 [] hs (fun h => by cases h) (by simp) (fun _ _ j u h => by simp at h) ad m c (flatL enc ys) hu (by rw [flatL_len hk, hm]) hc (flatL_one h1 ys) (by omega) (by simp only [maxLen]; omega) (by rw [Nat.zero_add]; omega) (fun v' w' hown hgr => by
        obtain ⟨ao', cap', rfl⟩ := own_shape hown
        rw [Nat.zero_add, List.nil_append] at hown
        rw [Nat.zero_add]
        have hO : OwnE enc k e w' w.heap.size ao' cap' ys := by unfold OwnE; rw [hm]; exact hown
        exact hK _ _ ((Ex.refl _ _ w).grown hgr (Nat.le_refl _) (by simp)) ⟨ao', cap', rfl, hO.lowerE hbw⟩)
      rwa [if_pos (show Region.wanted o (yielded #[] a.tmps) = true by simp [Region.wanted, hgd])] at H
end Go.Proofs.YtaihmldiglgipaaGreat
