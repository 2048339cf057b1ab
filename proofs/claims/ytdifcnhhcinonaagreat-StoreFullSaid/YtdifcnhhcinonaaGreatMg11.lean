/- append of one statement to a slice of statements that the call owns, as a run and in a fence. No statement of the seat. | chain.back; the links of a chain laid into a map: parts of chain.Branch. No statement of the seat. | chain.Branch: a contract, no statement of the seat. | store.Pinned: a contract, no statement of the seat. | Of stores: what Add and Merge make of valid ones, in plain words. No statement of the seat. | law05.awake: its plain facts. No statement of the seat. -/
import Derived.Test.YtdifcnhhcinonaaGreatMg03
import Derived.Test.YtdifcnhhcinonaaGreatMg08
import Derived.OwnWalkIn
import Derived.Test.YtdifcnhhcinonaaGreatMg10
import Derived.Laws.ResultCell
import Derived.Test.YtdifcnhhcinonaaGreatMg04
import Derived.Deep.RegionHeld3
import Derived.Test.YtdifcnhhcinonaaGreatMg09
namespace Go.Proofs.YtdifcnhhcinonaaGreat
open Go.RowKit Go.Sort

theorem run_appOne {P : Program} {w : World} (t ty : TypeId) (ht : P.underlying t = some (.slice 28))
    (hinfo : (P.info? 28).map (fun i => (i.zero, i.size, i.bytes)) = some (some (.agg #[.int .i64 0, .int .i64 0, .string ⟨#[]⟩, .int .i64 0, .int .i64 0, .int .i64 0, .int .i64 0, .int .i64 0, .slice none 0 0, .slice none 0 0, .string ⟨#[]⟩, .int .i64 0, .string ⟨#[]⟩]), 13, 160))
    (rb base : Nat) (ao : Option Addr) (cap n : Nat) (l : List St) (hn : l.length = n) (g : Nat) (y : St × Sv × Sv)
    (hown : OwnT w rb base ao cap l) (hc : ∀ (j : Nat) (v : Value), (stE y)[j]? = some v → w.cell? ⟨g, j, none⟩ = some v) (hx : Lies (fun b => base ≤ b ∧ rowOf ao ≠ some b) w y) (hlen : n + 1 ≤ 10000000) (hbase : rb ≤ w.heap.size) :
    ∃ ao' cap' w', (Builtin.append_ #[t, t] ty #[.slice ao n cap, .slice (some ⟨g, 0, none⟩) 1 1]).run P w = .ok (.slice ao' (n + 1) cap') w' ∧ OwnT w' rb base ao' cap' (l ++ [y.1]) ∧ Ex rb none w w' ∧ ∀ b, b < w.heap.size → rowOf ao ≠ some b → w'.heap[b]? = w.heap[b]? := by
  subst hn
  obtain ⟨i0, hi, hz0, hz1, hz2⟩ := info_parts hinfo
  obtain ⟨xs, rfl, h1, h2⟩ := hown
  have e1 : (xs.map (·.1)).length = xs.length := by simp
  rw [e1] at hlen ⊢
  have hc' : ∀ (j : Nat) (v : Value), (flatL stE [y])[j]? = some v → w.cell? ((⟨g, 0, none⟩ : Addr).add j) = some v := fun j v hj => by
    have h3 : (stE y)[j]? = some v := by simpa [flatL] using hj
    rw [Addr.add_lit, Nat.zero_add]; exact hc j v h3
  obtain ⟨v', w', hr, ho', hg, _, hnew⟩ := run_append_own_at (P := P) w rb t ty 28 i0 _ 13 160 ht hi hz0 hz1 hz2 rfl (by decide) _ _ _ h1 ⟨g, 0, none⟩ 1 1 (flatL stE [y]) (flatL_len stE_len [y]) hc' (flatL_one one_stE [y]) (by simp only [maxLen]; omega) (by omega) hbase
  obtain ⟨ao', cap', rfl⟩ := own_shape ho'
  have hrow : (Value.slice ao xs.length cap).ownBlock = rowOf ao := by cases ao <;> rfl
  have hrow' : (Value.slice ao' (xs.length + 1) cap').ownBlock = rowOf ao' := by cases ao' <;> rfl
  rw [hrow] at hg hnew
  rw [hrow'] at hnew
  have hkeep : ∀ y, Lies (fun b => base ≤ b ∧ rowOf ao ≠ some b) w y → Lies (fun b => base ≤ b ∧ rowOf ao' ≠ some b) w' y := fun y hy => by
    refine Lies.mono (P := fun b => (base ≤ b ∧ rowOf ao ≠ some b) ∧ b < w.heap.size) (Lies.keep (w := w) (hy.mono fun b hb hlt => ⟨hb, hlt⟩) fun b hb hlt => hg.block b hlt (fun e => hb.1.2 e.symm)) (fun b hb _ => ⟨hb.1.1, fun e => ?_⟩)
    rcases hb with ⟨⟨_, hb1⟩, hb2⟩
    rcases hnew with h0 | h0
    · exact hb1 (h0 ▸ e)
    · rw [e] at h0; cases h0; omega
  refine ⟨ao', cap', w', hr, ⟨xs ++ [y], by simp, ?_, fun z hz => ?_⟩, ?_⟩
  · unfold OwnE
    have e2 : flatL stE (xs ++ [y]) = flatL stE xs ++ flatL stE [y] := by simp [flatL]
    rw [e2, List.length_append]; exact ho'
  · simp only [List.mem_append, List.mem_singleton] at hz
    rcases hz with hz | rfl
    · exact hkeep z (h2 z hz)
    · exact hkeep z hx
  · refine ⟨⟨hg.os, hg.tape, hg.output, hg.size, fun k hk _ => hg.block k (by omega) (fun e => ?_)⟩, fun b hb hne => hg.block b hb (fun e => hne e.symm)⟩
    cases ao with
    | none => cases e
    | some ad =>
      have := (h1.lt ad rfl).1
      simp [rowOf] at e
      omega
/-- A block of another kind is not the row. -/
theorem OwnS.other {w : World} {base : Nat} {ao : Option Addr} {cap : Nat} {l : List St} (h : OwnS w base ao cap l) {b : Nat} {cs : Array Value} {t : TypeId} {fr : Nat × Nat} (hb : w.heap[b]? = some (.cells cs t fr)) (ht : t ≠ 28) : rowOf ao ≠ some b := by
  obtain ⟨xs, _, h1, _⟩ := h
  rcases h1.2 with ⟨e, _⟩ | ⟨g, cap', cur, e, hg, hh, _⟩
  · injection e with e1
    subst e1
    intro h; cases h
  · injection e with e1
    subst e1
    intro h
    simp only [rowOf, Option.map_some, Option.some.injEq] at h
    subst h
    rw [hh] at hb
    simp only [Option.some.injEq, Obj.cells.injEq] at hb
    exact ht hb.2.1.symm
/-- append in one word: the walk looks up its run. -/
def appR (ats : Array TypeId) (ty : TypeId) (args : Array Value) : Sem Value := Builtin.append_ ats ty args
theorem builtin_appR (ats : Array TypeId) (ty : TypeId) (cs : Array Bool) (args : Array Value) : builtin .append ats ty cs args = (do pure (.value (← appR ats ty args))) := rfl
theorem run_appSt {w : World} (rb base : Nat) (ao : Option Addr) (cap n : Nat) (l : List St) (hn : l.length = n) (g : Nat) (y : St × Sv × Sv) (hown : OwnT w rb base ao cap l)
    (hc : w.heap[g]? = some (.cells (stV y).cells 28 (0, 0))) (hx : Lies (fun b => base ≤ b ∧ rowOf ao ≠ some b) w y) (hlen : n + 1 ≤ 10000000) (hbase : rb ≤ w.heap.size) :
    ∃ ao' cap' w', (appR #[22, 22] 22 #[.slice ao n cap, .slice (some ⟨g, 0, none⟩) 1 1]).run Tryz.prog w = .ok (.slice ao' (n + 1) cap') w' ∧ OwnT w' rb base ao' cap' (l ++ [y.1]) ∧ Ex rb none w w' ∧ ∀ b, b < w.heap.size → rowOf ao ≠ some b → w'.heap[b]? = w.heap[b]? :=
  run_appOne _ _ Tryz.underlying22 Tryz.infoSt rb base ao cap n l hn g y hown (fun j v hj => by rw [cell_of_row _ _ _ _ _ _ hc, stV_cells]; simpa using hj) hx hlen hbase
/-- append of a row that came in, as a run. -/
theorem run_appMany {w : World} (rb base : Nat) (ao : Option Addr) (cap n : Nat) (l : List St) (hn : l.length = n) (ad : Addr) (m sc : Nat) (ys : List (St × Sv × Sv)) (hm : ys.length = m) (hown : OwnT w rb base ao cap l)
    (hc : ∀ (j : Nat) (v : Value), (flatL stE ys)[j]? = some v → w.cell? (ad.add j) = some v) (hx : ∀ x ∈ ys, Lies (fun b => base ≤ b ∧ rowOf ao ≠ some b) w x) (hlen : n + m ≤ 10000000) (hbase : rb ≤ w.heap.size) :
    ∃ ao' cap' w', (appR #[22, 22] 22 #[.slice ao n cap, .slice (some ad) m sc]).run Tryz.prog w = .ok (.slice ao' (n + m) cap') w' ∧ OwnT w' rb base ao' cap' (l ++ ys.map (·.1)) ∧ Ex rb none w w' ∧ ∀ b, b < w.heap.size → rowOf ao ≠ some b → w'.heap[b]? = w.heap[b]? := by
  subst hn hm
  obtain ⟨i0, hi, hz0, hz1, hz2⟩ := info_parts Tryz.infoSt
  obtain ⟨xs, rfl, h1, h2⟩ := hown
  have e1 : (xs.map (·.1)).length = xs.length := by simp
  rw [e1] at hlen ⊢
  obtain ⟨v', w', hr, ho', hg, _, hnew⟩ := run_append_own_at (P := Tryz.prog) w rb 22 22 28 i0 _ 13 160 Tryz.underlying22 hi hz0 hz1 hz2 rfl (by decide) _ _ _ h1 ad ys.length sc (flatL stE ys) (flatL_len stE_len ys) hc (flatL_one one_stE ys) (by simp only [maxLen]; omega) (by omega) hbase
  obtain ⟨ao', cap', rfl⟩ := own_shape ho'
  have hrow : (Value.slice ao xs.length cap).ownBlock = rowOf ao := by cases ao <;> rfl
  have hrow' : (Value.slice ao' (xs.length + ys.length) cap').ownBlock = rowOf ao' := by cases ao' <;> rfl
  rw [hrow] at hg hnew
  rw [hrow'] at hnew
  have hkeep : ∀ y, Lies (fun b => base ≤ b ∧ rowOf ao ≠ some b) w y → Lies (fun b => base ≤ b ∧ rowOf ao' ≠ some b) w' y := fun y hy => by
    refine Lies.mono (P := fun b => (base ≤ b ∧ rowOf ao ≠ some b) ∧ b < w.heap.size) (Lies.keep (w := w) (hy.mono fun b hb hlt => ⟨hb, hlt⟩) fun b hb hlt => hg.block b hlt (fun e => hb.1.2 e.symm)) (fun b hb _ => ⟨hb.1.1, fun e => ?_⟩)
    rcases hb with ⟨⟨_, hb1⟩, hb2⟩
    rcases hnew with h0 | h0
    · exact hb1 (h0 ▸ e)
    · rw [e] at h0; cases h0; omega
  refine ⟨ao', cap', w', hr, ⟨xs ++ ys, by simp, ?_, fun z hz => ?_⟩, ⟨hg.os, hg.tape, hg.output, hg.size, fun k hk _ => hg.block k (by omega) (fun e => ?_)⟩, fun b hb hne => hg.block b hb (fun e => hne e.symm)⟩
  · unfold OwnE
    have e2 : flatL stE (xs ++ ys) = flatL stE xs ++ flatL stE ys := by simp [flatL]
    rw [e2, List.length_append]; exact ho'
  · simp only [List.mem_append] at hz
    rcases hz with hz | hz
    · exact hkeep z (h2 z hz)
    · exact hkeep z (hx z hz)
  · cases ao with
    | none => cases e
    | some ad' =>
      have := (h1.lt ad' rfl).1
      simp [rowOf] at e
      omega
end Go.Proofs.YtdifcnhhcinonaaGreat

namespace Go.Proofs.YtdifcnhhcinonaaGreat
open Go.RowKit Go.Sort Go.Maps
attribute [local go_sem ↓] rowLoad_stv rowStore_stv rowBuild_stv rowLoad_lkv rowStore_lkv

/-- A row of links, all told. -/
theorem links_all {P : Nat → Prop} {w : World} {ao : Option Addr} {ls : List St} (h : SlAt linkRep P w ao ls) :
    ∃ X : List (St × Sv × Sv), X.map (·.1) = ls ∧ (∀ x ∈ X, Lies P w x) ∧ ∀ (i : Nat) (x : St × Sv × Sv), X[i]? = some x → ∃ b off, ao = some ⟨b, off, none⟩ ∧ P b ∧ b < w.heap.size ∧ w.rangeAt b (off + i * 14) (linkE x) := by
  have hc : ∀ i : Fin ls.length, ∃ lp : Sv × Sv, Lies P w (ls[i.1], lp.1, lp.2) ∧ ∃ b off, ao = some ⟨b, off, none⟩ ∧ P b ∧ b < w.heap.size ∧ w.rangeAt b (off + i.1 * 14) (linkE (ls[i.1], lp.1, lp.2)) := fun i => by
    obtain ⟨b, off, x, e, hp, hb, hx, hl, hr⟩ := lkv_get h i.1 i.2
    obtain ⟨s, l, p⟩ := x
    have hs : ls[i.1] = s := by have := hx.out; rw [List.getElem?_eq_getElem i.2] at this; exact Option.some.inj this
    rw [hs]
    exact ⟨(l, p), hl, b, off, e, hp, hb, hr.out⟩
  let f := fun i => Classical.choose (hc i)
  have hf := fun i => Classical.choose_spec (hc i)
  refine ⟨List.ofFn fun i : Fin ls.length => (ls[i.1], (f i).1, (f i).2), ?_, ?_, ?_⟩
  · apply List.ext_getElem
    · simp
    · intro i h1 h2; simp
  · intro x hx
    obtain ⟨i, rfl⟩ := List.mem_ofFn.1 hx
    exact (hf i).1
  · intro i x hx
    obtain ⟨hi, rfl⟩ := List.getElem?_eq_some_iff.1 hx
    have hi' : i < ls.length := by simpa using hi
    rw [List.getElem_ofFn]
    exact (hf ⟨i, hi'⟩).2
theorem Ex.grownP {B : Nat} {p row : Option Nat} {a w w' : World} (h : Ex B p a w) (hg : w.grownBy w' row) (hB : B ≤ w.heap.size) (hr : ∀ k, row = some k → p = some k ∨ B ≤ k) : Ex B p a w' :=
  ⟨hg.os.trans h.os, hg.tape.trans h.tape, hg.output.trans h.output, Nat.le_trans h.size hg.size, fun k hk hne => (hg.block k (by omega) (fun e => by
    rcases hr k e.symm with h1 | h1
    · exact hne h1.symm
    · omega)).trans (h.block k hk hne)⟩
theorem heap_setCell' {w : World} {b o : Nat} {cs : Array Value} {e : TypeId} {fr : Nat × Nat} (h : w.heap[b]? = some (.cells cs e fr)) (v : Value) : (w.setCell ⟨b, o, none⟩ v).heap[b]? = some (.cells (cs.setIfInBounds o v) e fr) := by
  simp [World.setCell, Array.getElem?_modify, h]

theorem heap_setCell_ne {w : World} {b q o : Nat} (v : Value) (h : b ≠ q) : (w.setCell ⟨q, o, none⟩ v).heap[b]? = w.heap[b]? := ((Ex.refl (b + 1) (some q) w).setCell o none v (.inl rfl)).block b (by omega) (fun e => h (Option.some.inj e))
theorem row_frz' {w : World} {g : Nat} {cs : Array Value} {t : TypeId} (h : w.heap[g]? = some (.cells cs t (0, 0))) (o : Nat) : w.frozen? ⟨g, o, none⟩ = false := by
  simp [World.frozen?, h]
theorem heap_putObj_ne {w : World} {b N : Nat} (o : Obj) (h : b ≠ N) : (w.putObj N o).heap[b]? = w.heap[b]? := World.putObj_heap_other (by omega)
theorem Ex.putObj {B : Nat} {p : Option Nat} {a w : World} (h : Ex B p a w) (N : Nat) (o : Obj) (hN : B ≤ N) : Ex B p a (w.putObj N o) :=
  ⟨h.os, h.tape, h.output, by simpa using h.size, fun b hb hne => (World.putObj_heap_other (by omega)).trans (h.block b hb hne)⟩
/-- The two results, and what is taken off the list of the deferred. -/
theorem two_results {W : World} {g N : Nat} {u0 ub0 : Value} (u ub : Value) {t t' : TypeId} {o : Obj} (h6 : W.heap[g]? = some (.cells #[u0] t (0, 0))) (h7 : W.heap[g + 1]? = some (.cells #[ub0] t' (0, 0))) (hN : g + 1 < N) :
    (((W.setCell ⟨g, 0, none⟩ u).setCell ⟨g + 1, 0, none⟩ ub).putObj N o).cell? ⟨g, 0, none⟩ = some u ∧ (((W.setCell ⟨g, 0, none⟩ u).setCell ⟨g + 1, 0, none⟩ ub).putObj N o).cell? ⟨g + 1, 0, none⟩ = some ub := by
  constructor
  · refine box_cell (t := t) ((World.putObj_heap_other (by omega)).trans ((heap_setCell_ne _ (by omega)).trans ?_))
    rw [heap_setCell' h6]; rfl
  · refine box_cell (t := t') ((World.putObj_heap_other (by omega)).trans ?_)
    rw [heap_setCell' ((heap_setCell_ne _ (by omega)).trans h7)]; rfl
theorem sha_size_le (b : List UInt8) : (sha b).size ≤ maxLen := by
  rw [sha_size b]; decide
theorem okB_dig {a : Int} {s : St} (h : okB a s = true) : s.dig.size ≤ maxLen := by
  have h1 := (okB_iff.1 h).2.2
  simp only [sealedB, Bool.and_eq_true, decide_eq_true_eq] at h1
  rw [h1.2]
  exact sha_size_le _
theorem okB_prev {a : Int} {s : St} (h : okB a s = true) : s.prev.size ≤ maxLen := by
  have h1 := (checkI_tame (okB_iff.1 h).2.1).prev
  unfold maxLen; omega
/-- Between two rounds of chain.Branch: what has come lies in the row, none of it has the number 0. -/
def BrI (w5 : World) (go gx : Nat) (pre : List (St × Sv × Sv)) (W : World) : Prop := ∃ ro rc, W.heap[go]? = some (.cells #[.slice ro pre.length rc] 22 (0, 0)) ∧ OwnS W (w5.heap.size + 2) ro rc (pre.map (·.1)) ∧ (∀ y ∈ pre, y.1.number ≠ 0) ∧ w5.heap.size ≤ W.heap.size ∧ (W.os = w5.os ∧ W.tape = w5.tape ∧ W.output = w5.output) ∧ ∀ b, b < w5.heap.size → b ≠ gx → b ≠ go → W.heap[b]? = w5.heap[b]?
/-- Where a round has left: the row is turned and in the results. -/
def BrX (w5 : World) (g6 go gx : Nat) (pre : List (St × Sv × Sv)) (W : World) : Prop := ∃ ro rc n, n = pre.length ∧ W.heap[g6]? = some (.cells #[.slice ro n rc] 22 (0, 0)) ∧ W.heap[g6 + 1]? = some (.cells #[.bool true] 4 (0, 0)) ∧ OwnS W (w5.heap.size + 2) ro rc (pre.map (·.1)).reverse ∧ (∃ p z, pre = p ++ [z] ∧ z.1.number = 0) ∧ w5.heap.size ≤ W.heap.size ∧ (W.os = w5.os ∧ W.tape = w5.tape ∧ W.output = w5.output) ∧ ∀ b, b < w5.heap.size → b ≠ gx → b ≠ go → b ≠ g6 → b ≠ g6 + 1 → W.heap[b]? = w5.heap[b]?
theorem BrI.beside {w5 A B : World} {go gx : Nat} {pre : List (St × Sv × Sv)} (hgo : go < w5.heap.size ∧ go ≠ gx) (hgx : gx < w5.heap.size) (h : BrI w5 go gx pre A) (hb : Beside gx w5.heap.size A B) : BrI w5 go gx pre B := by
  obtain ⟨ro, rc, h1, h2, h3, h4, ⟨h5, h6, h7⟩, h8⟩ := h
  obtain ⟨b1, b2, b3, b4, b5⟩ := hb
  exact ⟨ro, rc, (b5 go (by omega) hgo.2 (by omega) (by omega)).trans h1, h2.keepB fun b hb hlt => b5 b hlt (by omega) (by omega) (by omega), h3, by omega, ⟨b2.trans h5, b3.trans h6, b4.trans h7⟩, fun b hb c1 c2 => (b5 b (by omega) c1 (by omega) (by omega)).trans (h8 b hb c1 c2)⟩
theorem BrX.beside {w5 A B : World} {g6 go gx : Nat} {pre : List (St × Sv × Sv)} (hg6 : g6 + 1 < w5.heap.size ∧ g6 ≠ gx ∧ g6 + 1 ≠ gx) (hgx : gx < w5.heap.size) (h : BrX w5 g6 go gx pre A) (hb : Beside gx w5.heap.size A B) : BrX w5 g6 go gx pre B := by
  obtain ⟨ro, rc, n, hn, h1, h1', h2, h3, h4, ⟨h5, h6, h7⟩, h8⟩ := h
  obtain ⟨b1, b2, b3, b4, b5⟩ := hb
  exact ⟨ro, rc, n, hn, (b5 g6 (by omega) hg6.2.1 (by omega) (by omega)).trans h1, (b5 (g6 + 1) (by omega) hg6.2.2 (by omega) (by omega)).trans h1', h2.keepB fun b hb hlt => b5 b hlt (by omega) (by omega) (by omega), h3, by omega, ⟨b2.trans h5, b3.trans h6, b4.trans h7⟩, fun b hb c1 c2 c3 c4 => (b5 b (by omega) c1 (by omega) (by omega)).trans (h8 b hb c1 c2 c3 c4)⟩
theorem backP_any (mb : Nat) (x : St × Sv × Sv) (w : World) :
    Calls Tryz.prog 175 #[.map (some mb), linkV x] w fun e w' => e = .returned (.func (.func 220) #[] #[.pointer (some ⟨w.heap.size + 1, 0, none⟩), .pointer (some ⟨w.heap.size, 0, none⟩)]) ∧ w' = (w.alloc (.cells #[.map (some mb)] 195)).alloc (.cells (linkV x).cells 192) := by
  go_enter Tryz.func175, Tryz.ntmps175
  go_upto_region 1 with (fail)
  refine wp_world (fun W => W = (w.alloc (.cells #[.map (some mb)] 195)).alloc (.cells (linkV x).cells 192)) rfl (fun W hW => ?_)
  have HW := Lib.hid hW
  clear hW
  go_wp2
  go_ret
  exact ⟨rfl, HW.out⟩
end Go.Proofs.YtdifcnhhcinonaaGreat

namespace Go.Proofs.YtdifcnhhcinonaaGreat
open Go.RowKit Go.Sort Go.Maps
attribute [local go_sem] Oper.semAt_some
attribute [local go_sem ↓] rowLoad_stv rowStore_stv rowBuild_stv rowLoad_lkv rowStore_lkv
attribute [local go_sem ↓ high] builtin_appR

/-- The last statement with a digest; the one behind which another stands; from one back. -/
def lookS (ls : List St) (d : ByteArray) : Option St := ls.foldl (fun r x => if x.dig = d then some x else r) none
def beforeS (ls : List St) (x : St) : Option St := (lookS ls x.prev).filter fun y => followsL y x
def backS (ls : List St) : Nat → St → List St
  | 0, _ => []
  | f + 1, x => x :: (match beforeS ls x with
    | none => []
    | some y => backS ls f y)
/-- The row that ends with a digest. -/
def branchS (ls : List St) (d : ByteArray) : Option (List St) := (lookS ls d).bind fun x =>
  if (backS ls 201 x).any (fun y => decide (y.number = 0)) then some (backS ls 201 x).reverse else none
theorem lookX_map (X : List (St × Sv × Sv)) (d : ByteArray) : (lookX X d).map (·.1) = lookS (X.map (·.1)) d := by
  induction X using snoc_ind with
  | nil => rfl
  | snoc X x ih =>
    rw [List.map_append, List.map_singleton, lookX_snoc]
    unfold lookS
    rw [List.foldl_append]
    simp only [List.foldl_cons, List.foldl_nil]
    by_cases h : x.1.dig = d
    · rw [if_pos h, if_pos h]; rfl
    · rw [if_neg h, if_neg h, ih]; rfl
theorem beforeX_map (X : List (St × Sv × Sv)) (x : St × Sv × Sv) : (beforeX X x).map (·.1) = beforeS (X.map (·.1)) x.1 := by
  unfold beforeX beforeS
  rw [← lookX_map]
  cases lookX X x.1.prev with
  | none => rfl
  | some y => cases h : followsL y.1 x.1 <;> simp [Option.filter, h]
theorem backX_map (X : List (St × Sv × Sv)) : ∀ (f : Nat) (x : St × Sv × Sv), (backX X f x).map (·.1) = backS (X.map (·.1)) f x.1
  | 0, _ => rfl
  | f + 1, x => by
    have h := beforeX_map X x
    cases hb : beforeX X x with
    | none =>
      rw [hb] at h
      rw [backX_none hb]
      unfold backS
      rw [← h]; rfl
    | some y =>
      rw [hb] at h
      rw [backX_some hb]
      unfold backS
      rw [← h, List.map_cons, backX_map X f y]; rfl
/-- Behind a statement with the number 0 nothing comes. -/
theorem backX_zero {X : List (St × Sv × Sv)} (hX : ∀ x ∈ X, 0 ≤ x.1.number) : ∀ (f : Nat) (x : St × Sv × Sv) (pre rest : List (St × Sv × Sv)) (z : St × Sv × Sv), backX X f x = pre ++ [z] ++ rest → z.1.number = 0 → rest = []
  | 0, _, pre, rest, z, h, _ => by simp [backX] at h
  | f + 1, x, pre, rest, z, h, hz => by
    cases hb : beforeX X x with
    | none =>
      rw [backX_none hb] at h
      have := congrArg List.length h
      simp at this
      exact List.eq_nil_of_length_eq_zero (by omega)
    | some y =>
      rw [backX_some hb] at h
      cases pre with
      | nil =>
        simp only [List.nil_append, List.cons_append, List.cons.injEq] at h
        obtain ⟨rfl, h⟩ := h
        exfalso
        unfold beforeX at hb
        cases hl : lookX X x.1.prev with
        | none => rw [hl] at hb; cases hb
        | some y' =>
          rw [hl] at hb
          have hm := (lookX_mem hl).1
          simp only [Option.filter] at hb
          split at hb
          · next hf =>
            have := (followsL_iff.1 hf).2.1
            have := hX y' hm
            omega
          · cases hb
      | cons p pre =>
        simp only [List.cons_append, List.cons.injEq] at h
        exact backX_zero hX f y pre rest z h.2 hz
/-- What chain.Branch answers, the bool as a value. -/
def BranchV (w' : World) (base : Nat) (ls : List St) (d : ByteArray) (u ub : Value) : Prop := (branchS ls d = none ∧ u = .slice none 0 0 ∧ ub = .bool false) ∨ (∃ r ro rc n, branchS ls d = some r ∧ n = r.length ∧ u = .slice ro n rc ∧ ub = .bool true ∧ OwnS w' base ro rc r)

set_option maxHeartbeats 16000000 in
set_option maxRecDepth 100000 in
theorem branchP_any {P : Nat → Prop} (a : Int) (v : Value) (l : List St) (d : ByteArray) (w : World) (hv : Sl stRep P w v l) (hm : l.length ≤ 100000) (hL : LightL 9223372036854775807 l) (hd : d.size ≤ maxLen) :
    Calls Tryz.prog 122 #[.int .i64 a, v, .string d] w fun e w' => ∃ ls u ub, LinksR a l ls ∧ e = .returned (.tuple #[u, ub]) ∧ BranchV w' w.heap.size ls d u ub ∧ Ex w.heap.size none w w' := by
  have HV := Lib.hid hv
  have HLL := Lib.hid hL
  have HD := Lib.hid hd
  have hmm := @run_makeMap Tryz.prog
  obtain ⟨w0, hw0⟩ : ∃ w0 : World, w0 = ((w.alloc (.cells #[.slice none 0 0] 22)).alloc (.cells #[.bool false] 4)).alloc (.map #[] 0) := ⟨_, rfl⟩
  have hz0 : w0.heap.size = w.heap.size + 1 + 1 + 1 := by rw [hw0]; simp
  have HE0 : Hid (Ex w.heap.size none w w0) := Lib.hid (by rw [hw0]; exact ((Ex.new w _).alloc (by simp) _).alloc (by simp; omega) _)
  have HB0 : Hid (w0.heap[w.heap.size]? = some (.cells #[.slice none 0 0] 22 (0, 0)) ∧ w0.heap[w.heap.size + 1]? = some (.cells #[.bool false] 4 (0, 0)) ∧ w0.ownsMap Tryz.prog 9 valElem (w.heap.size + 1 + 1) 0 (mapV [])) := Lib.hid (by
    rw [hw0]
    have e1 := heap_alloc_new w (.cells #[.slice none 0 0] 22)
    have e2 := heap_alloc_new (w.alloc (.cells #[.slice none 0 0] 22)) (.cells #[.bool false] 4)
    have f1 := (Ex.new (w.alloc (.cells #[.slice none 0 0] 22)) (.cells #[.bool false] 4)).block w.heap.size (by simp) (by simp)
    have f2 := fun b hb => (Ex.new ((w.alloc (.cells #[.slice none 0 0] 22)).alloc (.cells #[.bool false] 4)) (.map #[] 0)).block b hb (by simp)
    have e3 := World.ownsMap_made ((w.alloc (.cells #[.slice none 0 0] 22)).alloc (.cells #[.bool false] 4)) Tryz.prog 9 valElem
    simp only [World.size_alloc] at e2 f2 e3
    exact ⟨(f2 _ (by omega)).trans (f1.trans e1), (f2 _ (by omega)).trans e2, e3⟩)
  clear hv hL hd
  refine (callsIn_wide (n := 3)).1 (callsIn_of_wp_marks Tryz.func122 rfl trivial (wpIn_wide.2 ?_))
  simp only [Tryz.ntmps122, List.size_toArray, List.length_cons, List.length_nil, Nat.reduceAdd, Nat.reduceSub, Array.replicate_succ, Array.replicate_zero, List.push_toArray, List.append_toArray, List.nil_append, List.cons_append]
  go_upto_region 2 with (fail)
  rw [← hw0]
  clear hmm hw0
  go_wp2_with (first
    | (go_at_call 170
       refine (links_any (P := fun b => b < w.heap.size) v l a w0 ((HV.out.mono (by decide) fun b _ hb => hb).keep (by decide) fun b hb' hb => HE0.out.block b hb' (by simp)) hm HLL.out).mono ?_
       rintro e w1 ⟨u, ls, rfl, hls, hsl, hln, hex⟩
       obtain ⟨ao, cap, rfl, hsl⟩ := hsl
       obtain ⟨X, hX1, hX2, hX3⟩ := links_all hsl
       obtain ⟨m, hm0⟩ : ∃ m, m = ls.length := ⟨_, rfl⟩
       rw [← hm0]
       have HM : Hid (X.length = m) := Lib.hid (by rw [hm0, ← hX1]; simp)
       have HLS := Lib.hid hls
       have HX1 := Lib.hid hX1
       have HX2 := Lib.hid hX2
       have HX3 := Lib.hid hX3
       have HE1 := Lib.hid hex
       have hz1 : w0.heap.size ≤ w1.heap.size := hex.size
       have hm5 : m ≤ 100000 := by omega
       clear hls hsl hex hm0 hln hX1 hX2 hX3)
    | fail)
  have HOKX : Hid (∀ x ∈ X, okB a x.1 = true) := Lib.hid (fun x hx => LinksR.ok HLS.out x.1 (by rw [← HX1.out]; exact List.mem_map.2 ⟨x, hx, rfl⟩))
  go_loopw [20] (fun i wr => ∃ (k : Nat), k ≤ m ∧ i = .int .i64 k ∧ Hid (wr.ownsMap Tryz.prog 9 valElem (w.heap.size + 1 + 1) k (mapV ((X.take k).map storeL))) ∧ Ex w1.heap.size (some (w.heap.size + 1 + 1)) w1 wr) (fun i _ => m - (intOf i).toNat)
  case atStart => exact ⟨0, by omega, rfl, Lib.hid (by rw [List.take_zero]; exact ownsMap_same HB0.out.2.2 (HE1.out.block _ (by omega) (by simp))), Ex.refl _ _ _⟩
  case round =>
    obtain ⟨k, hk, rfl, HMP, hex0⟩ := hrel
    have hsz0 := hex0.size
    have HER := Lib.hid hex0
    clear hex0
    by_cases hlt : k < m
    · have hltI : (k : Int) < (m : Int) := by omega
      obtain ⟨x, hxk⟩ : ∃ x, X[k]? = some x := ⟨_, List.getElem?_eq_getElem (by rw [HM.out]; exact hlt)⟩
      obtain ⟨b, off, hao, hPb, hbl, hr⟩ := HX3.out k x hxk
      have HXK := Lib.hid hxk
      subst hao
      have hbne : b ≠ w.heap.size + 1 + 1 := by omega
      have hld := linkV_load (rangeAt_keep hr (HER.out.block b hbl (fun e => hbne (Option.some.inj e))))
      have hnew := linkV_new wr #[.int .i64 0, .int .i64 0, .string ⟨#[]⟩, .int .i64 0, .int .i64 0, .int .i64 0, .int .i64 0, .int .i64 0, .slice none 0 0, .slice none 0 0, .string ⟨#[]⟩, .int .i64 0, .string ⟨#[]⟩, .string ⟨#[]⟩] x rfl
      clear hr hxk
      go_upto_region 5 with (fail)
      refine wp_world (fun W => W = wr.alloc (.cells (linkV x).cells 192)) rfl (fun ws hws => ?_)
      have HEs : Hid (Ex wr.heap.size none wr ws) := Lib.hid (by rw [hws]; exact Ex.new wr _)
      have hzs : ws.heap.size = wr.heap.size + 1 := by rw [hws]; simp
      have HBs : Hid (ws.heap[wr.heap.size]? = some (.cells (linkV x).cells 192 (0, 0))) := Lib.hid (by rw [hws]; exact heap_alloc_new wr _)
      have HMs : Hid (ws.ownsMap Tryz.prog 9 valElem (w.heap.size + 1 + 1) k (mapV ((X.take k).map storeL))) := Lib.hid (ownsMap_same HMP.out (HEs.out.block _ (by omega) (by simp)))
      have hc := (linkV_cells5 HBs.out).2.2.2.2
      have hlb := linkV_box HBs.out
      have HDG : Hid (x.1.dig.size ≤ maxLen) := Lib.hid (okB_dig (HOKX.out x (List.mem_of_getElem? HXK.out)))
      clear hld hnew hws
      go_wp2_with (at_mapUpdate; refine wpList_mapUpdate_own _ rfl _ _ _ _ rfl 9 192 (string_keyed Tryz.underlying9) Tryz.underlying195 valElem (w.heap.size + 1 + 1) k _ (by rfl) HMs.out (by unfold maxLen; omega) _ _ (keyS x.1.dig) (by rfl) (by rfl) (WideMaps.keyOf_string_mk Tryz.underlying9 HDG.out) (.held (linkV x)) [] rfl ?_; intro w5 hown5 hgrow5)
      have H5 : Hid (w5.ownsMap Tryz.prog 9 valElem (w.heap.size + 1 + 1) (k + 1) (mapV ((X.take (k + 1)).map storeL)) ∧ Ex w1.heap.size (some (w.heap.size + 1 + 1)) w1 w5) := Lib.hid ⟨by
        have e : X.take (k + 1) = X.take k ++ [x] := by rw [List.take_add_one, HXK.out]; rfl
        rw [e, List.map_append, List.map_singleton, mapV_snoc]; exact hown5, (HER.out.trans HEs.out hsz0 (by simp)).grownP hgrow5 (by omega) (fun q e => .inl e)⟩
      clear hown5 hgrow5
      go_roundw
      case rel => exact ⟨k + 1, by omega, by go_num, Lib.hid H5.out.1, H5.out.2⟩
      case measure => simp [intOf] <;> omega
    · obtain rfl : k = m := by omega
      have HMX : Hid (wr.ownsMap Tryz.prog 9 valElem (w.heap.size + 1 + 1) k (mapV (X.map storeL))) := Lib.hid (by have h := HMP.out; rwa [List.take_of_length_le (by rw [HM.out]; exact Nat.le_refl _)] at h)
      have hszr : w0.heap.size ≤ wr.heap.size := by omega
      have HEW : Hid (Ex w.heap.size none w wr) := Lib.hid ((HE0.out.trans HE1.out (by omega) (by simp)).trans HER.out (by omega) (by simp; omega))
      have HC : Hid (∀ w', Ex wr.heap.size none wr w' → w'.heap[w.heap.size]? = some (.cells #[.slice none 0 0] 22 (0, 0)) ∧ w'.heap[w.heap.size + 1]? = some (.cells #[.bool false] 4 (0, 0)) ∧ w'.heap[w.heap.size + 1 + 1]? = wr.heap[w.heap.size + 1 + 1]?) := Lib.hid (fun w' h => ⟨(h.block _ (by omega) (by simp)).trans ((HER.out.block _ (by omega) (fun e => by have := Option.some.inj e; omega)).trans ((HE1.out.block _ (by omega) (by simp)).trans HB0.out.1)), (h.block _ (by omega) (by simp)).trans ((HER.out.block _ (by omega) (fun e => by have := Option.some.inj e; omega)).trans ((HE1.out.block _ (by omega) (by simp)).trans HB0.out.2.1)), h.block _ (by omega) (by simp)⟩)
      have HLX : Hid (∀ w', Ex wr.heap.size none wr w' → ∀ x ∈ X, Lies (fun b => b < w.heap.size ∨ w0.heap.size ≤ b) w' x) := Lib.hid (fun w' h x hx => (HX2.out x hx).keep fun b hP hb => (h.block b (by omega) (by simp)).trans (HER.out.block b hb (fun e => by have := Option.some.inj e; omega)))
      cases hlk : lookX X d with
      | none =>
        have HLK : Hid (lastV (X.map storeL) (keyS d) = none) := Lib.hid (by rw [lastV_look, hlk]; rfl)
        have HBV : Hid (branchS ls d = none) := Lib.hid (by unfold branchS; rw [← HX1.out, ← lookX_map, hlk]; rfl)
        have hnew := linkV_new wr #[.int .i64 0, .int .i64 0, .string ⟨#[]⟩, .int .i64 0, .int .i64 0, .int .i64 0, .int .i64 0, .int .i64 0, .slice none 0 0, .slice none 0 0, .string ⟨#[]⟩, .int .i64 0, .string ⟨#[]⟩, .string ⟨#[]⟩] zeroLk rfl
        clear hlk
        go_upto_region 8 with (at_lookup; refine wpList_lookV _ rfl _ _ _ (by rfl) 9 192 (string_keyed Tryz.underlying9) Tryz.underlying195 (linkV zeroLk) (zeroLk_val _) (w.heap.size + 1 + 1) k (X.map storeL) (by rfl) HMX.out _ (keyS d) (by rfl) (WideMaps.keyOf_string_mk Tryz.underlying9 HD.out) trivial (linkV zeroLk) false (by rw [HLK.out]; rfl) (by rw [HLK.out]; rfl) ?_)
        refine wp_world (fun W => W = wr.alloc (.cells (linkV zeroLk).cells 192)) rfl (fun w3 hw3 => ?_)
        have HE3 : Hid (Ex wr.heap.size none wr w3) := Lib.hid (by rw [hw3]; exact Ex.new wr _)
        obtain ⟨k6, k7, _⟩ := HC.out w3 HE3.out
        have c6 := box_cell k6
        have c7 := box_cell k7
        have z6 := row_frz' k6 0
        have z7 := row_frz' k7 0
        clear hnew hw3 k6 k7
        go_wp2
        refine ⟨.tuple #[.slice none 0 0, .bool false], by simp [results, Tryz.results122, go_sem, c6, c7], ?_⟩
        exact ⟨ls, _, _, HLS.out, rfl, .inl ⟨HBV.out, rfl, rfl⟩, (((HEW.out.trans HE3.out (by omega) (by simp)).setCell _ none _ (.inr (Nat.le_refl _))).setCell _ none _ (.inr (by omega)))⟩
      | some x0 =>
        have HLK : Hid (lastV (X.map storeL) (keyS d) = some (linkV x0)) := Lib.hid (by rw [lastV_look, hlk]; rfl)
        have hx0 := (lookX_mem hlk).1
        have HLK2 := Lib.hid hlk
        have hnew := linkV_new wr #[.int .i64 0, .int .i64 0, .string ⟨#[]⟩, .int .i64 0, .int .i64 0, .int .i64 0, .int .i64 0, .int .i64 0, .slice none 0 0, .slice none 0 0, .string ⟨#[]⟩, .int .i64 0, .string ⟨#[]⟩, .string ⟨#[]⟩] x0 rfl
        clear hlk
        go_upto_region 8 with (at_lookup; refine wpList_lookV _ rfl _ _ _ (by rfl) 9 192 (string_keyed Tryz.underlying9) Tryz.underlying195 (linkV zeroLk) (zeroLk_val _) (w.heap.size + 1 + 1) k (X.map storeL) (by rfl) HMX.out _ (keyS d) (by rfl) (WideMaps.keyOf_string_mk Tryz.underlying9 HD.out) trivial (linkV x0) true (by rw [HLK.out]; rfl) (by rw [HLK.out]; rfl) ?_)
        refine wp_world (fun W => W = wr.alloc (.cells (linkV x0).cells 192)) rfl (fun w3 hw3 => ?_)
        have HE3 : Hid (Ex wr.heap.size none wr w3) := Lib.hid (by rw [hw3]; exact Ex.new wr _)
        have hz3 : w3.heap.size = wr.heap.size + 1 := by rw [hw3]; simp
        have HB3 : Hid (w3.heap[wr.heap.size]? = some (.cells (linkV x0).cells 192 (0, 0))) := Lib.hid (by rw [hw3]; exact heap_alloc_new wr _)
        have r3 := linkV_box HB3.out
        clear hnew hw3
        obtain ⟨w4, hw4⟩ : ∃ w4 : World, w4 = w3.alloc (.cells #[.slice none 0 0] 22) := ⟨_, rfl⟩
        have HE4 : Hid (Ex wr.heap.size none wr w4) := Lib.hid (HE3.out.trans (by rw [hw4]; exact Ex.new w3 _) (by omega) (by simp))
        have hz4 : w4.heap.size = w3.heap.size + 1 := by rw [hw4]; simp
        have HG4 : Hid (w4.heap[w3.heap.size]? = some (.cells #[.slice none 0 0] 22 (0, 0))) := Lib.hid (by rw [hw4]; exact heap_alloc_new w3 _)
        have r4 := linkV_box (show w4.heap[wr.heap.size]? = some (.cells (linkV x0).cells 192 (0, 0)) by rw [hw4]; exact ((Ex.new w3 _).block _ (by omega) (by simp)).trans HB3.out)
        go_upto_region 11 with (fail)
        rw [← hw4]
        clear hw4 r3
        go_wp2_with (first
          | (go_at_call 175
             refine (backP_any _ x0 w4).mono ?_
             rintro e w5 ⟨rfl, hw5⟩
             have HW5 := Lib.hid hw5
             clear hw5)
          | fail)
        have HE5 : Hid (Ex wr.heap.size none wr w5) := Lib.hid (by rw [HW5.out]; exact ((HE4.out.trans (Ex.new w4 _) (by omega) (by simp)).alloc (by simp; omega) _))
        have hz5 : w5.heap.size = wr.heap.size + 1 + 1 + 1 + 1 := by rw [HW5.out]; simp; omega
        have HG5 : Hid (w5.heap[wr.heap.size + 1]? = some (.cells #[.slice none 0 0] 22 (0, 0)) ∧ w5.cell? ⟨wr.heap.size + 1 + 1, 0, none⟩ = some (.map (some (w.heap.size + 1 + 1))) ∧ w5.heap[wr.heap.size + 1 + 1 + 1]? = some (.cells (linkV x0).cells 192 (0, 0))) := Lib.hid (by
          have e1 := heap_alloc_new w4 (.cells #[.map (some (w.heap.size + 1 + 1))] 195)
          have e2 := heap_alloc_new (w4.alloc (.cells #[.map (some (w.heap.size + 1 + 1))] 195)) (.cells (linkV x0).cells 192)
          have f2 := fun b hb => (Ex.new (w4.alloc (.cells #[.map (some (w.heap.size + 1 + 1))] 195)) (.cells (linkV x0).cells 192)).block b hb (by simp)
          have f1 := fun b hb => (Ex.new w4 (.cells #[.map (some (w.heap.size + 1 + 1))] 195)).block b hb (by simp)
          have hg4 := HG4.out
          simp only [World.size_alloc] at e2 f2
          rw [hz4, hz3] at e1 e2 f2 f1
          rw [hz3] at hg4
          rw [HW5.out]
          exact ⟨(f2 _ (by omega)).trans ((f1 _ (by omega)).trans hg4), box_cell ((f2 _ (by omega)).trans e1), e2⟩)
        have HM5 : Hid (w5.ownsMap Tryz.prog 9 valElem (w.heap.size + 1 + 1) k (mapV (X.map storeL))) := Lib.hid (ownsMap_same HMX.out (HE5.out.block _ (by omega) (by simp)))
        have HXN : Hid (∀ x ∈ X, (0 ≤ x.1.number ∧ x.1.number ≤ 200) ∧ x.1.prev.size ≤ maxLen) := Lib.hid (fun x hx => ⟨numB_le (okB_iff.1 (HOKX.out x hx)).2.1, okB_prev (HOKX.out x hx)⟩)
        refine (wpIn_wide (n := 3)).1 (wpIn_rangeBack w5.heap.size (wr.heap.size + 1 + 1 + 1) (wr.heap.size + 1 + 1) (w.heap.size + 1 + 1) k (wr.heap.size + 1) X x0 rfl HXN.out hx0 (by omega) (by omega) (by omega) (by omega) HG5.out.2.2 HG5.out.2.1 HM5.out rfl
          (BrI w5 (wr.heap.size + 1) (wr.heap.size + 1 + 1 + 1)) (BrX w5 w.heap.size (wr.heap.size + 1) (wr.heap.size + 1 + 1 + 1))
          (fun pre A B h hb => h.beside (by omega) (by omega) hb) (fun pre A B h hb => h.beside (by omega) (by omega) hb)
          ⟨none, 0, HG5.out.1, OwnS.nil _ _, (fun y hy => by cases hy), Nat.le_refl _, ⟨rfl, rfl, rfl⟩, fun _ _ _ _ => rfl⟩ ?act ?assign ?body ?done ?stop)
        case assign =>
          intro l x W K gb hgb hK
          have hnew := linkV_new W #[.int .i64 0, .int .i64 0, .string ⟨#[]⟩, .int .i64 0, .int .i64 0, .int .i64 0, .int .i64 0, .int .i64 0, .slice none 0 0, .slice none 0 0, .string ⟨#[]⟩, .int .i64 0, .string ⟨#[]⟩, .string ⟨#[]⟩] x rfl
          obtain ⟨W', hW'⟩ : ∃ W', W' = W.alloc (.cells (linkV x).cells 192) := ⟨_, rfl⟩
          rw [← hW'] at hnew hK
          clear hW'
          gi_wp2
          rw [← hgb]
          exact hK
        case body =>
          rintro pre x W gb ⟨ro, rc, hgoW, hown, hnz, hszW, ⟨hos, hta, hou⟩, hkeep⟩ hxm hpl hgb hNgb hltgb
          obtain ⟨np, hnp⟩ : ∃ np, np = pre.length := ⟨_, rfl⟩
          rw [← hnp] at hgoW hpl
          have HNP := Lib.hid hnp
          have HOW := Lib.hid hown
          have HGO := Lib.hid hgoW
          have HGB := Lib.hid hgb
          have HKP := Lib.hid hkeep
          have HOS : Hid (W.os = w5.os ∧ W.tape = w5.tape ∧ W.output = w5.output) := Lib.hid ⟨hos, hta, hou⟩
          have HNZ := Lib.hid hnz
          have HLW : Hid (Lies (fun b => b < wr.heap.size) W x) := Lib.hid (((HLX.out wr (Ex.refl _ _ _) x hxm).mono (P' := fun b => b < wr.heap.size) fun b _ hb => hb).keep fun b hb _ => (hkeep b (by omega) (by omega) (by omega)).trans (HE5.out.block b hb (by simp)))
          have HTX := Lib.hid (checkI_tame (okB_iff.1 (HOKX.out x hxm)).2.1)
          have HCP : Hid (∀ w', Ex W.heap.size none W w' → Calls Tryz.prog 172 #[stV x] w' fun e w'' => ∃ y, e = .returned (stV y) ∧ y.1 = x.1 ∧ Lies (fun b => w'.heap.size ≤ b) w'' y ∧ Ex w'.heap.size none w' w'') := Lib.hid (fun w' h => copied_v x w' (HLW.out.keep fun b _ hb => h.block b hb (by simp)) (by have h1 := HTX.out.list; have h2 := HTX.out.pins; omega))
          have HQW : Hid (∀ w', Ex W.heap.size none W w' → w'.cell? ⟨wr.heap.size + 1, 0, none⟩ = some (.slice ro np rc) ∧ w'.frozen? ⟨wr.heap.size + 1, 0, none⟩ = false ∧ (rowLoad 28 ⟨gb, 0, none⟩).run Tryz.prog w' = .ok (stV x) w' ∧ w'.cell? ⟨gb, 1, none⟩ = some (.int .i64 x.1.number)) := Lib.hid (fun w' h => by
            have k1 := (h.block (wr.heap.size + 1) (by omega) (by simp)).trans HGO.out
            have k2 := (h.block gb hltgb (by simp)).trans HGB.out
            exact ⟨box_cell k1, row_frz' k1 0, linkV_st k2, (linkV_cells5 k2).2.1⟩)
          obtain ⟨c13, z13, rst, cnm⟩ := HQW.out W (Ex.refl _ _ _)
          clear hnp hown hgoW hgb hkeep hnz hos hta hou r4
          gi_wp2_with (fail)
          have hmx : Tryz.prog.follows .mixedOrders = true := by kernel_rfl
          obtain ⟨d13, dz13, drst, dnm⟩ := HQW.out W.drew (Ex.refl _ _ _).drew
          gi_region_with_o (first
            | (refine ⟨trivial, rfl, ?_⟩
               refine (CallsIn.inRound _ (callsIn_wide.2 (HCP.out _ (by first | exact Ex.refl _ _ _ | exact (Ex.refl _ _ _).drew)))).mono ?_
               rintro e w8 ⟨y, rfl, hyx, hly, hex⟩
               have HE8 : Hid (Ex W.heap.size none W w8) := Lib.hid ((Ex.refl _ _ _).drew.trans hex (by simp) (by simp))
               have hz8 : W.heap.size ≤ w8.heap.size := HE8.out.size
               obtain ⟨e13, ez13, erst, enm⟩ := HQW.out w8 HE8.out
               have hlit := stV_lit w8 y
               obtain ⟨w9, hw9⟩ : ∃ w9 : World, w9 = w8.alloc (.cells (stV y).cells 28) := ⟨_, rfl⟩
               rw [← hw9] at hlit
               have HE9 : Hid (Ex W.heap.size none W w9) := Lib.hid (HE8.out.trans (by rw [hw9]; exact Ex.new w8 _) hz8 (by simp))
               have hz9 : w9.heap.size = w8.heap.size + 1 := by rw [hw9]; simp
               have HB9 : Hid (w9.heap[w8.heap.size]? = some (.cells (stV y).cells 28 (0, 0))) := Lib.hid (by rw [hw9]; exact heap_alloc_new w8 _)
               obtain ⟨i13, iz13, irst, inm⟩ := HQW.out w9 HE9.out
               obtain ⟨ro', rc', w10, happ, hown', hex10, hot10⟩ := run_appSt (w := w9) (w5.heap.size + 2) (w5.heap.size + 2) ro rc np (pre.map (·.1)) (by rw [List.length_map]; exact HNP.out.symm) w8.heap.size y ((HOW.out.keep HE9.out (Nat.le_refl _)).t) HB9.out
                 (((hly.mono fun b hb hlt => (⟨hb, hlt⟩ : W.heap.size ≤ b ∧ b < w8.heap.size)).keep fun b hb _ => by rw [hw9]; exact (Ex.new w8 _).block b hb.2 (by simp)).mono fun b hb _ => ⟨by omega, fun e => by have h := OwnT.row HOW.out.t b e; omega⟩) (by omega) (by omega)
               have HE10 : Hid (Ex (w5.heap.size + 2) none W w10) := Lib.hid ((HE9.out.mono (by omega)).trans hex10 (Nat.le_refl _) (by simp))
               have HO10 := Lib.hid hown'
               have h10a : w10.cell? ⟨wr.heap.size + 1, 0, none⟩ = some (.slice ro np rc) := box_cell ((HE10.out.block (wr.heap.size + 1) (by omega) (by simp)).trans HGO.out)
               have h10b : w10.frozen? ⟨wr.heap.size + 1, 0, none⟩ = false := row_frz' ((HE10.out.block (wr.heap.size + 1) (by omega) (by simp)).trans HGO.out) 0
               have HG10 : Hid (w10.heap[wr.heap.size + 1]? = some (.cells #[.slice ro np rc] 22 (0, 0))) := Lib.hid ((HE10.out.block (wr.heap.size + 1) (by omega) (by simp)).trans HGO.out)
               have hgb9 : w9.heap[gb]? = some (.cells (linkV x).cells 192 (0, 0)) := (HE9.out.block gb hltgb (by simp)).trans HGB.out
               have HGB10 : Hid (w10.heap[gb]? = some (.cells (linkV x).cells 192 (0, 0))) := Lib.hid ((hot10 gb (by omega) (OwnS.other (HOW.out.keep HE9.out (Nat.le_refl _)) hgb9 (by decide))).trans hgb9)
               have HYX := Lib.hid hyx
               clear hyx hly hex hw9 hex10 hown' hot10 hgb9)
            | fail)
          all_goals
            obtain ⟨w11, hw11⟩ : ∃ w11 : World, w11 = w10.setCell ⟨wr.heap.size + 1, 0, none⟩ (.slice ro' (np + 1) rc') := ⟨_, rfl⟩
            rw [← hw11]
            have HE11 : Hid (Ex (w5.heap.size + 2) (some (wr.heap.size + 1)) W w11) := Lib.hid (by rw [hw11]; exact (HE10.out.weaken _).setCell _ _ _ (.inl rfl))
            have HG11 : Hid (w11.heap[wr.heap.size + 1]? = some (.cells #[.slice ro' (np + 1) rc'] 22 (0, 0))) := Lib.hid (by rw [hw11, heap_setCell' HG10.out]; rfl)
            have hoth11 : ∀ b, b ≠ wr.heap.size + 1 → w11.heap[b]? = w10.heap[b]? := fun b hb => by rw [hw11]; exact ((Ex.refl (b + 1) (some (wr.heap.size + 1)) w10).setCell _ none _ (.inl rfl)).block b (by omega) (fun e => hb (Option.some.inj e))
            have HO11 : Hid (OwnS w11 (w5.heap.size + 2) ro' rc' ((pre ++ [x]).map (·.1))) := Lib.hid (by
              have h := (OwnT.s HO10.out (Nat.le_refl _)).keepB (w' := w11) fun b hb _ => hoth11 b (by omega)
              rw [HYX.out] at h
              rw [List.map_append]; exact h)
            have n11 : w11.cell? ⟨gb, 1, none⟩ = some (.int .i64 x.1.number) := (linkV_cells5 ((hoth11 gb (by omega)).trans HGB10.out)).2.1
            have c11 := box_cell HG11.out
            have hz11 : W.heap.size ≤ w11.heap.size := HE11.out.size
            have HOS11 : Hid (w11.os = w5.os ∧ w11.tape = w5.tape ∧ w11.output = w5.output) := Lib.hid ⟨HE11.out.os.trans HOS.out.1, HE11.out.tape.trans HOS.out.2.1, HE11.out.output.trans HOS.out.2.2⟩
            have HKP11 : Hid (∀ b, b < w5.heap.size → b ≠ wr.heap.size + 1 + 1 + 1 → b ≠ wr.heap.size + 1 → w11.heap[b]? = w5.heap[b]?) := Lib.hid fun b h1 h2 h3 => (HE11.out.block b (by omega) (fun e => h3 (Option.some.inj e))).trans (HKP.out b h1 h2 h3)
            clear hw11 hoth11
            by_cases h0 : x.1.number = 0
            · obtain ⟨k6, k7, -⟩ := HC.out w5 HE5.out
              have HK6 : Hid (w11.heap[w.heap.size]? = some (.cells #[.slice none 0 0] 22 (0, 0)) ∧ w11.heap[w.heap.size + 1]? = some (.cells #[.bool false] 4 (0, 0))) := Lib.hid ⟨(HKP11.out _ (by omega) (by omega) (by omega)).trans k6, (HKP11.out _ (by omega) (by omega) (by omega)).trans k7⟩
              clear k6 k7
              gi_wp2_with (first
                | (first | refine ⟨trivial, rfl, ?_⟩ | (refine ⟨trivial, ?_⟩; gi_at_call 176) | gi_at_call 176
                   refine (CallsIn.inRound _ (callsIn_wide.2 (reverse_own (w5.heap.size + 2) (np + 1) rc' ro' _ w11 HO11.out (by rw [List.length_map, List.length_append, ← HNP.out]; rfl) (by omega) (by omega)))).mono ?_
                   rintro e w12 ⟨rfl, hO12, hE12, -⟩
                   have HO12 := Lib.hid hO12
                   have HE12 := Lib.hid hE12
                   have c12 := box_cell ((HE12.out.block (wr.heap.size + 1) (by omega) (by simp)).trans HG11.out)
                   have HB6 : Hid (w12.heap[w.heap.size]? = some (.cells #[.slice none 0 0] 22 (0, 0)) ∧ w12.heap[w.heap.size + 1]? = some (.cells #[.bool false] 4 (0, 0))) := Lib.hid ⟨(HE12.out.block _ (by omega) (by simp)).trans HK6.out.1, (HE12.out.block _ (by omega) (by simp)).trans HK6.out.2⟩
                   have c6 := box_cell HB6.out.1
                   have c7 := box_cell HB6.out.2
                   have z6 := row_frz' HB6.out.1 0
                   have z7 := row_frz' HB6.out.2 0
                   clear hO12 hE12)
                | fail)
              have hoth : ∀ b, b ≠ w.heap.size → b ≠ w.heap.size + 1 → ((w12.setCell ⟨w.heap.size, 0, none⟩ (.slice ro' (np + 1) rc')).setCell ⟨w.heap.size + 1, 0, none⟩ (.bool true)).heap[b]? = w12.heap[b]? := fun b h1 h2 => (heap_setCell_ne _ h2).trans (heap_setCell_ne _ h1)
              have hblk : ∀ b, b < w5.heap.size + 2 → b ≠ w.heap.size → b ≠ w.heap.size + 1 → b ≠ wr.heap.size + 1 → ((w12.setCell ⟨w.heap.size, 0, none⟩ (.slice ro' (np + 1) rc')).setCell ⟨w.heap.size + 1, 0, none⟩ (.bool true)).heap[b]? = W.heap[b]? := fun b h1 h2 h3 h4 => (hoth b h2 h3).trans ((HE12.out.block b (by omega) (by simp)).trans (HE11.out.block b (by omega) (fun e => h4 (Option.some.inj e))))
              refine ⟨⟨hblk _ (by omega) (by omega) (by omega) (by omega), hblk _ (by omega) (by omega) (by omega) (by omega)⟩, ro', rc', np + 1, by rw [List.length_append, ← HNP.out]; rfl, ?_, ?_, ?_, ⟨pre, x, rfl, h0⟩, ?_, ?_, ?_⟩
              · exact (heap_setCell_ne _ (by omega)).trans (by rw [heap_setCell' HB6.out.1]; rfl)
              · rw [heap_setCell' ((heap_setCell_ne _ (by omega)).trans HB6.out.2)]; rfl
              · exact HO12.out.keepB fun b hb _ => hoth b (by omega) (by omega)
              · have := HE12.out.size
                simp only [World.size_setCell]
                omega
              · exact ⟨HE12.out.os.trans HOS11.out.1, HE12.out.tape.trans HOS11.out.2.1, HE12.out.output.trans HOS11.out.2.2⟩
              · exact fun b h1 h2 h3 h4 h5 => (hoth b h4 h5).trans ((HE12.out.block b (by omega) (by simp)).trans (HKP11.out b h1 h2 h3))
            · gi_wp2_with (fail)
              exact ⟨HE11.out, ro', rc', by rw [List.length_append, ← HNP.out]; exact HG11.out, HO11.out, fun y hy => by
                rcases List.mem_append.1 hy with h | h
                · exact HNZ.out y h
                · rw [List.mem_singleton.1 h]; exact h0, by omega, HOS11.out, HKP11.out⟩
        case done =>
          rintro W ⟨ro, rc, hgo, hown, hnz, hsz, ⟨hos, hta, hou⟩, hkeep⟩ hK
          obtain ⟨k6, k7, -⟩ := HC.out w5 HE5.out
          have HB6 : Hid (W.heap[w.heap.size]? = some (.cells #[.slice none 0 0] 22 (0, 0)) ∧ W.heap[w.heap.size + 1]? = some (.cells #[.bool false] 4 (0, 0))) := Lib.hid ⟨(hkeep _ (by omega) (by omega) (by omega)).trans k6, (hkeep _ (by omega) (by omega) (by omega)).trans k7⟩
          have HBV : Hid (branchS ls d = none) := Lib.hid (by
            have e1 : lookS ls d = some x0.1 := by rw [← HX1.out, ← lookX_map, HLK2.out]; rfl
            unfold branchS
            rw [e1, Option.bind_some, if_neg]
            rw [← HX1.out, ← backX_map]
            simp only [List.any_eq_true, decide_eq_true_eq, not_exists, not_and]
            intro y hy
            obtain ⟨z, hz, rfl⟩ := List.mem_map.1 hy
            exact hnz z hz)
          have HEF : Hid (Ex w.heap.size none w W) := Lib.hid ⟨hos.trans ((HEW.out.trans HE5.out (by omega) (by simp)).os), hta.trans ((HEW.out.trans HE5.out (by omega) (by simp)).tape), hou.trans ((HEW.out.trans HE5.out (by omega) (by simp)).output), by have := HEW.out.size; omega, fun b hb _ => (hkeep b (by have := HEW.out.size; omega) (by have := HEW.out.size; omega) (by have := HEW.out.size; omega)).trans ((HEW.out.trans HE5.out (by omega) (by simp)).block b hb (by simp))⟩
          have c6 := box_cell HB6.out.1
          have c7 := box_cell HB6.out.2
          have z6 := row_frz' HB6.out.1 0
          have z7 := row_frz' HB6.out.2 0
          have HK := Lib.hid hK
          clear hgo hown hnz hos hta hou hkeep hK k6 k7
          gi_wp2
          go_wp2
          have hKF : ((W.setCell ⟨w.heap.size, 0, none⟩ (.slice none 0 0)).setCell ⟨w.heap.size + 1, 0, none⟩ (.bool false)).heap[w5.heap.size]? = some (.deferred (some [])) := (heap_setCell_ne _ (by omega)).trans ((heap_setCell_ne _ (by omega)).trans HK.out)
          obtain ⟨r6, r7⟩ := two_results (N := w5.heap.size) (o := .deferred none) (.slice none 0 0) (.bool false) HB6.out.1 HB6.out.2 (by omega)
          refine ⟨by simp, .inl ⟨_, _, rfl, run_takeDeferred hKF, ?_⟩⟩
          refine ⟨.tuple #[.slice none 0 0, .bool false], by simp [results, Tryz.results122, go_sem, r6, r7], ?_⟩
          exact ⟨ls, _, _, HLS.out, rfl, .inl ⟨HBV.out, rfl, rfl⟩, ((HEF.out.setCell 0 none _ (.inr (Nat.le_refl _))).setCell 0 none _ (.inr (by omega))).putObj _ _ (by omega)⟩
        case stop =>
          rintro pre rest W hpr ⟨ro, rc, n, hn, h6, h7, hown, ⟨p9, z9, hp9, hz9⟩, hsz, ⟨hos, hta, hou⟩, hkeep⟩ hK
          have HX6 : Hid (W.heap[w.heap.size]? = some (.cells #[.slice ro n rc] 22 (0, 0)) ∧ W.heap[w.heap.size + 1]? = some (.cells #[.bool true] 4 (0, 0))) := Lib.hid ⟨h6, h7⟩
          have HBV : Hid (branchS ls d = some (pre.map (·.1)).reverse) := Lib.hid (by
            have e1 : lookS ls d = some x0.1 := by rw [← HX1.out, ← lookX_map, HLK2.out]; rfl
            have e2 : rest = [] := backX_zero (fun x hx => (HXN.out x hx).1.1) 201 x0 p9 rest z9 (by rw [← hpr, hp9]) hz9
            subst e2
            rw [List.append_nil] at hpr
            unfold branchS
            rw [e1, Option.bind_some, ← HX1.out, ← backX_map, ← hpr, if_pos]
            simp only [List.any_eq_true, decide_eq_true_eq]
            exact ⟨z9.1, List.mem_map.2 ⟨z9, by rw [hp9]; simp, rfl⟩, hz9⟩)
          have HEF : Hid (Ex w.heap.size none w W) := Lib.hid ⟨hos.trans ((HEW.out.trans HE5.out (by omega) (by simp)).os), hta.trans ((HEW.out.trans HE5.out (by omega) (by simp)).tape), hou.trans ((HEW.out.trans HE5.out (by omega) (by simp)).output), by have := HEW.out.size; omega, fun b hb _ => (hkeep b (by have := HEW.out.size; omega) (by have := HEW.out.size; omega) (by have := HEW.out.size; omega) (by omega) (by omega)).trans ((HEW.out.trans HE5.out (by omega) (by simp)).block b hb (by simp))⟩
          have HOW := Lib.hid hown
          have HN : Hid (n = ((pre.map (·.1)).reverse).length) := Lib.hid (by rw [hn]; simp)
          have HK := Lib.hid hK
          have hlt : w.heap.size + 1 < w5.heap.size := by omega
          clear h6 h7 hos hta hou hkeep hK hown hn hp9 hz9 hpr
          have r6 := box_cell (t := 22) (g := w.heap.size) ((heap_putObj_ne (w := W) (N := w5.heap.size) (.deferred none) (by omega)).trans HX6.out.1)
          have r7 := box_cell (t := 4) (g := w.heap.size + 1) ((heap_putObj_ne (w := W) (N := w5.heap.size) (.deferred none) (by omega)).trans HX6.out.2)
          gi_wp2
          go_wp2
          refine ⟨by simp, .inl ⟨_, _, rfl, run_takeDeferred HK.out, ?_⟩⟩
          refine ⟨.tuple #[.slice ro n rc, .bool true], by simp [results, Tryz.results122, go_sem, r6, r7], ?_⟩
          exact ⟨ls, _, _, HLS.out, rfl, .inr ⟨_, ro, rc, n, HBV.out, HN.out, rfl, rfl, (HOW.out.keepB fun b hb _ => heap_putObj_ne _ (by omega)).lower (by have := HEW.out.size; omega)⟩, HEF.out.putObj _ _ (by have := HEW.out.size; omega)⟩
end Go.Proofs.YtdifcnhhcinonaaGreat

namespace Go.Proofs.YtdifcnhhcinonaaGreat
open Go.RowKit Go.Sort
attribute [local go_sem ↓] rowLoad_stv rowStore_stv rowBuild_stv

theorem backS_len (ls : List St) : ∀ (f : Nat) (x : St), (backS ls f x).length ≤ f
  | 0, _ => Nat.le_refl _
  | f + 1, x => by
    unfold backS
    cases beforeS ls x with
    | none => simp
    | some y => have := backS_len ls f y; simp; omega
theorem branchS_len {ls : List St} {d : ByteArray} {r : List St} (h : branchS ls d = some r) : r.length ≤ 201 := by
  unfold branchS at h
  cases hl : lookS ls d with
  | none => rw [hl] at h; cases h
  | some x =>
    rw [hl, Option.bind_some] at h
    split at h
    · injection h with h
      rw [← h, List.length_reverse]; exact backS_len ls 201 x
    · cases h
/-- Each pin names a row of its key. -/
def RowsR (l : List St) (ps : List PinD) (rows : List (List St)) : Prop := rows.length = ps.length ∧ ∀ (j : Nat) (p : PinD) (r : List St), ps[j]? = some p → rows[j]? = some r → ∃ ls, LinksR p.1 (l.filter fun s => s.author == p.1) ls ∧ branchS ls p.2.2 = some r ∧ (r.length : Int) = p.2.1
theorem RowsR.snoc {l : List St} {ps : List PinD} {rows : List (List St)} {p : PinD} {r ls : List St} (h : RowsR l ps rows) (h1 : LinksR p.1 (l.filter fun s => s.author == p.1) ls) (h2 : branchS ls p.2.2 = some r) (h3 : (r.length : Int) = p.2.1) : RowsR l (ps ++ [p]) (rows ++ [r]) := by
  refine ⟨by simp [h.1], fun j p' r' e1 e2 => ?_⟩
  have hl := h.1
  by_cases hj : j < ps.length
  · rw [List.getElem?_append_left hj] at e1
    rw [List.getElem?_append_left (by omega)] at e2
    exact h.2 j p' r' e1 e2
  · rw [List.getElem?_append_right (by omega)] at e1
    rw [List.getElem?_append_right (by omega), hl] at e2
    cases hq : j - ps.length with
    | zero =>
      rw [hq] at e1 e2
      simp only [List.getElem?_cons_zero, Option.some.injEq] at e1 e2
      rw [← e1, ← e2]; exact ⟨ls, h1, h2, h3⟩
    | succ q => rw [hq] at e1; simp at e1
/-- What store.Pinned answers. -/
def PinnedV (w' : World) (base : Nat) (l : List St) (ps : List PinD) (u : Value) (c : Int) : Prop :=
  ((validB l && (checkI (pinS ps) == 0)) = false ∧ u = .slice none 0 0 ∧ c = 1) ∨
  ((validB l && (checkI (pinS ps) == 0)) = true ∧ u = .slice none 0 0 ∧ c = 11 ∧ ∃ p ∈ ps, ∃ ls, LinksR p.1 (l.filter fun s => s.author == p.1) ls ∧ ∀ r, branchS ls p.2.2 = some r → (r.length : Int) ≠ p.2.1) ∨
  ((validB l && (checkI (pinS ps) == 0)) = true ∧ c = 0 ∧ ∃ rows ro rc n, RowsR l ps rows ∧ u = .slice ro n rc ∧ n = rows.flatten.length ∧ OwnS w' base ro rc rows.flatten)

set_option maxHeartbeats 8000000 in
set_option maxRecDepth 100000 in
theorem pinnedP_any {P R : Nat → Prop} (ao : Option Addr) (cap n0 : Nat) (l : List St) (po : Option Addr) (pc np : Nat) (ps : List PinD) (w : World) (hn : l.length = n0) (hv : SlAt stRep P w ao l) (hm : l.length ≤ 100000) (hL : LightL 9223372036854775807 l) (hnp : ps.length = np) (hp : SlAt pinRep R w po ps) (hpm : np ≤ 1000) (hd : ∀ p ∈ ps, p.2.2.size ≤ maxLen) :
    Calls Tryz.prog 57 #[.agg #[.slice ao n0 cap], .slice po np pc] w fun e w' => ∃ u c, e = .returned (.tuple #[u, .int .i64 c]) ∧ PinnedV w' w.heap.size l ps u c ∧ Ex w.heap.size none w w' := by
  have HN := Lib.hid hn
  have HNP := Lib.hid hnp
  have HLL := Lib.hid hL
  have HD := Lib.hid hd
  have HM : Hid (n0 ≤ 100000) := Lib.hid (by omega)
  have HV : Hid (∀ w', Ex w.heap.size none w w' → SlAt stRep P w' ao l) := Lib.hid (fun w' h => hv.keep (by decide) fun b _ hb => h.block b hb (by simp))
  have HP : Hid (∀ w', Ex w.heap.size none w w' → SlAt pinRep R w' po ps) := Lib.hid (fun w' h => hp.keep (by decide) fun b _ hb => h.block b hb (by simp))
  clear hn hL hv hnp hp hd
  obtain ⟨w0, hw0⟩ : ∃ w0 : World, w0 = w.alloc (.cells #[.slice ao n0 cap] 31) := ⟨_, rfl⟩
  have hz0 : w0.heap.size = w.heap.size + 1 := by rw [hw0]; simp
  have HE0 : Hid (Ex w.heap.size none w w0) := Lib.hid (by rw [hw0]; exact Ex.new w _)
  have HB0 : Hid (∀ w', Ex w0.heap.size none w0 w' → w'.cell? ⟨w.heap.size, 0, none⟩ = some (.slice ao n0 cap)) := Lib.hid (fun w' h => box_cell ((h.block w.heap.size (by omega) (by simp)).trans (by rw [hw0]; exact heap_alloc_new w _)))
  obtain ⟨vb, hvb⟩ : ∃ vb, vb = validB l := ⟨_, rfl⟩
  obtain ⟨pb, hpb⟩ : ∃ pb, pb = (checkI (pinS ps) == 0) := ⟨_, rfl⟩
  have HVA : Hid (∀ w', Ex w0.heap.size none w0 w' → Calls Tryz.prog 46 #[.agg #[.slice ao n0 cap]] w' fun e w'' => e = .returned (.bool vb) ∧ Ex w'.heap.size none w' w'') := Lib.hid (fun w' h => by
    rw [hvb]; exact storeValid_any _ l w' ⟨ao, cap, by rw [HN.out], HV.out w' (HE0.out.trans h (by omega) (by simp))⟩ (by omega) HLL.out)
  have HPA : Hid (∀ w', Ex w0.heap.size none w0 w' → Calls Tryz.prog 121 #[.slice po np pc] w' fun e w'' => e = .returned (.bool pb) ∧ Ex w'.heap.size none w' w'') := Lib.hid (fun w' h => by
    rw [hpb]; exact pinnedS_any po pc np ps w' HNP.out (HP.out w' (HE0.out.trans h (by omega) (by simp))) (by omega))
  have HVB := Lib.hid hvb
  have HPB := Lib.hid hpb
  clear hvb hpb hm
  go_enter Tryz.func57, Tryz.ntmps57
  go_upto_region 1 with (fail)
  rw [← hw0]
  clear hw0
  have c0 := HB0.out w0 (Ex.refl _ _ _)
  cases vb with
  | false =>
    go_wp2_with (first
      | (go_at_call 46
         refine (HVA.out w0 (Ex.refl _ _ _)).mono ?_
         rintro e w1 ⟨rfl, hex⟩
         have HE1 : Hid (Ex w.heap.size none w w1) := Lib.hid (HE0.out.trans hex (by omega) (by simp))
         clear hex c0)
      | fail)
    refine ⟨rfl, .tuple #[.slice none 0 0, .int .i64 1], by simp [results, Tryz.results57, go_sem], ?_⟩
    exact ⟨_, _, rfl, .inl ⟨by rw [← HVB.out]; rfl, rfl, rfl⟩, HE1.out⟩
  | true =>
  cases pb with
  | false =>
    go_wp2_with (first
      | (go_at_call 46
         refine (HVA.out w0 (Ex.refl _ _ _)).mono ?_
         rintro e w1 ⟨rfl, hex⟩
         have HE1 := Lib.hid hex
         clear hex c0)
      | (go_at_call 121
         refine (HPA.out w1 HE1.out).mono ?_
         rintro e w2 ⟨rfl, hex⟩
         have HE2 : Hid (Ex w.heap.size none w w2) := Lib.hid (HE0.out.trans (HE1.out.trans hex HE1.out.size (by simp)) (by omega) (by simp))
         clear hex)
      | fail)
    refine ⟨rfl, .tuple #[.slice none 0 0, .int .i64 1], by simp [results, Tryz.results57, go_sem], ?_⟩
    exact ⟨_, _, rfl, .inl ⟨by rw [← HPB.out, Bool.and_false], rfl, rfl⟩, HE2.out⟩
  | true =>
    have HG : Hid ((validB l && (checkI (pinS ps) == 0)) = true) := Lib.hid (by rw [← HVB.out, ← HPB.out]; rfl)
    go_wp2_with (first
      | (go_at_call 46
         refine (HVA.out w0 (Ex.refl _ _ _)).mono ?_
         rintro e w1 ⟨rfl, hex⟩
         have HE1 := Lib.hid hex
         clear hex c0)
      | (go_at_call 121
         refine (HPA.out w1 HE1.out).mono ?_
         rintro e w2 ⟨rfl, hex⟩
         have HE2 : Hid (Ex w0.heap.size none w0 w2) := Lib.hid (HE1.out.trans hex HE1.out.size (by simp))
         have hz2 : w0.heap.size ≤ w2.heap.size := HE2.out.size
         clear hex)
      | fail)
    go_loopw [6, 21] (fun v i wr => ∃ (k nn : Nat) (ro : Option Addr) (rc : Nat) (rows : List (List St)), k ≤ np ∧ nn ≤ 201 * k ∧ i = .int .i64 k ∧ v = .slice ro nn rc ∧ Hid (rows.flatten.length = nn ∧ RowsR l (ps.take k) rows) ∧ Hid (OwnS wr w2.heap.size ro rc rows.flatten) ∧ Ex w2.heap.size none w2 wr) (fun _ i _ => np - (intOf i).toNat)
    case atStart => exact ⟨0, 0, none, 0, [], by omega, by omega, rfl, rfl, Lib.hid ⟨rfl, rfl, fun j p r h => by simp at h⟩, Lib.hid (OwnS.nil _ _), Ex.refl _ _ _⟩
    case round =>
      obtain ⟨k, nn, ro, rc, rows, hk, hnk, rfl, rfl, HR, HO, hex0⟩ := hrel
      have hsz0 := hex0.size
      have HER := Lib.hid hex0
      have HE0R : Hid (Ex w0.heap.size none w0 wr) := Lib.hid (HE2.out.trans hex0 hz2 (by simp))
      clear hex0
      by_cases hlt : k < np
      · have hltI : (k : Int) < (np : Int) := by omega
        obtain ⟨b, off, p, hpo, _, hbl, q0, q1, q2, HPK⟩ := pin_get (HP.out wr (HE0.out.trans HE0R.out (by omega) (by simp))) k (by rw [HNP.out]; exact hlt)
        subst hpo
        obtain ⟨p1, p2, p3⟩ := p
        have HPD : Hid (p3.size ≤ maxLen) := Lib.hid (HD.out _ (List.mem_of_getElem? HPK.out))
        have HTK : Hid (ps.take (k + 1) = ps.take k ++ [(p1, p2, p3)]) := Lib.hid (by rw [List.take_add_one, HPK.out]; rfl)
        obtain ⟨w3, hw3⟩ : ∃ w3 : World, w3 = wr.alloc (.cells #[.int .i64 p1, .int .i64 p2, .string p3] 125) := ⟨_, rfl⟩
        have HE3 : Hid (Ex wr.heap.size none wr w3) := Lib.hid (by rw [hw3]; exact Ex.new wr _)
        have hz3 : w3.heap.size = wr.heap.size + 1 := by rw [hw3]; simp
        have HQ : Hid (∀ w', Ex w3.heap.size none w3 w' → w'.cell? ⟨wr.heap.size, 0, none⟩ = some (.int .i64 p1) ∧ w'.cell? ⟨wr.heap.size, 1, none⟩ = some (.int .i64 p2) ∧ w'.cell? ⟨wr.heap.size, 2, none⟩ = some (.string p3) ∧ w'.cell? ⟨w.heap.size, 0, none⟩ = some (.slice ao n0 cap)) := Lib.hid (fun w' h => by
          have hb : w'.heap[wr.heap.size]? = some (.cells #[.int .i64 p1, .int .i64 p2, .string p3] 125 (0, 0)) := (h.block wr.heap.size (by omega) (by simp)).trans (by rw [hw3]; exact heap_alloc_new wr _)
          refine ⟨?_, ?_, ?_, HB0.out w' (HE0R.out.trans (HE3.out.trans h (by omega) (by simp)) (by omega) (by simp))⟩
          · rw [cell_of_row _ _ _ _ _ _ hb]; rfl
          · rw [cell_of_row _ _ _ _ _ _ hb]; rfl
          · rw [cell_of_row _ _ _ _ _ _ hb]; rfl)
        have HEW3 : Hid (Ex w.heap.size none w w3) := Lib.hid (HE0.out.trans (HE0R.out.trans HE3.out (by omega) (by simp)) (by omega) (by simp))
        go_upto_region 7 with (fail)
        rw [← hw3]
        clear hw3
        obtain ⟨d0, d1, d2, d3⟩ := HQ.out w3 (Ex.refl _ _ _)
        go_region_held3 (fun w' => w'.cell? ⟨wr.heap.size, 0, none⟩ = some (.int .i64 p1) ∧ w'.cell? ⟨wr.heap.size, 1, none⟩ = some (.int .i64 p2) ∧ w'.cell? ⟨wr.heap.size, 2, none⟩ = some (.string p3) ∧ w'.cell? ⟨w.heap.size, 0, none⟩ = some (.slice ao n0 cap)) (first | exact HQ.out _ HE5.out | exact HQ.out _ HE4.out | exact HQ.out _ (Ex.refl _ _ _) | exact HQ.out _ (Ex.refl _ _ _).drew)
          (first
            | (go_at_call 120
               refine (partN_any ao cap n0 l p1 _ HN.out (HV.out _ (by first | exact HEW3.out | exact HEW3.out.drew)) (by rw [HN.out]; exact HM.out)).mono ?_
               rintro e w4 ⟨u, rfl, hu, hex⟩
               have HE4 : Hid (Ex w3.heap.size none w3 w4) := Lib.hid (show Ex w3.heap.size none w3 w4 from by first | exact hex | exact (Ex.refl w3.heap.size none w3).drew.trans hex (Nat.le_refl _) (by simp))
               have HU := Lib.hid hu
               have hz4 : w3.heap.size ≤ w4.heap.size := HE4.out.size
               clear hu hex d0 d1 d2 d3
               obtain ⟨d0, d1, d2, d3⟩ := HQ.out w4 HE4.out)
            | (go_at_call 122
               refine (branchP_any p1 u _ p3 w4 HU.out (Nat.le_trans (List.length_filter_le _ _) (by rw [HN.out]; exact HM.out)) (HLL.out.filterS _) HPD.out).mono ?_
               rintro e w5 ⟨ls, v9, vk, hls, rfl, hbr, hex⟩
               have HE5 : Hid (Ex w3.heap.size none w3 w5) := Lib.hid (HE4.out.trans hex hz4 (by simp))
               have HLS := Lib.hid hls
               have HBR := Lib.hid hbr
               have hz5 : w4.heap.size ≤ w5.heap.size := hex.size
               clear hls hbr hex d0 d1 d2 d3
               obtain ⟨d0, d1, d2, d3⟩ := HQ.out w5 HE5.out)
            | fail)
        have HE35 : Hid (Ex wr.heap.size none wr w5) := Lib.hid (HE3.out.trans HE5.out (by omega) (by simp))
        have HEN : Hid (Ex w.heap.size none w w5) := Lib.hid (HEW3.out.trans HE5.out (by omega) (by simp))
        have HPM : Hid ((p1, p2, p3) ∈ ps) := Lib.hid (List.mem_of_getElem? HPK.out)
        rcases HBR.out with ⟨hb1, rfl, rfl⟩ | ⟨r, r9, rc9, n9, hb1, hb2, rfl, rfl, hb4⟩
        · have HB1 := Lib.hid hb1
          clear hb1
          go_wp2_with (fail)
          refine ⟨rfl, .tuple #[.slice none 0 0, .int .i64 11], by simp [results, Tryz.results57, go_sem], ?_⟩
          exact ⟨_, _, rfl, .inr (.inl ⟨HG.out, rfl, rfl, (p1, p2, p3), HPM.out, ls, HLS.out, fun r h => by rw [HB1.out] at h; cases h⟩), HEN.out⟩
        have HB1 := Lib.hid hb1
        have HB2 := Lib.hid hb2
        have HB4 := Lib.hid hb4
        clear hb1 hb2 hb4
        by_cases hc : (n9 : Int) = p2
        case neg =>
          have hcd : ((n9 : Int) != p2) = true := by simpa using hc
          go_wp2_with (fail)
          refine ⟨rfl, .tuple #[.slice none 0 0, .int .i64 11], by simp [results, Tryz.results57, go_sem], ?_⟩
          exact ⟨_, _, rfl, .inr (.inl ⟨HG.out, rfl, rfl, (p1, p2, p3), HPM.out, ls, HLS.out, fun r' h => by rw [HB1.out] at h; cases h; rw [← HB2.out]; exact hc⟩), HEN.out⟩
        have hcd : ((n9 : Int) != p2) = false := by simpa using hc
        have hn9 : n9 ≤ 201 := by rw [HB2.out]; exact branchS_len HB1.out
        have HC := Lib.hid hc
        clear hc
        obtain ⟨xs, a2, hx1, hx2, hsrc, _, _, _, _⟩ := OwnT.parts HB4.out.t r.length (Nat.le_refl _)
        have hxl : xs.length = r.length := by rw [← hx1, List.length_map]
        rw [← hxl, List.take_length] at hsrc
        have HXL : Hid (xs.length = n9 ∧ xs.map (·.1) = r) := Lib.hid ⟨by rw [HB2.out]; exact hxl, hx1⟩
        have HSRC := Lib.hid hsrc
        have HLY : Hid (∀ x ∈ xs, Lies (fun b => w2.heap.size ≤ b ∧ rowOf ro ≠ some b) w5 x) := Lib.hid (fun x hx => (hx2 x hx).mono fun b hb _ => ⟨by omega, fun e => by have := OwnT.row HO.out.t b e; omega⟩)
        clear hx1 hx2 hsrc hxl
        go_wp2_with (at_builtin; refine wpList_appT rfl (.tmp 46) (.tmp 47) _ (by rfl) Tryz.underlying22 Tryz.infoSt w2.heap.size w2.heap.size ro rc nn rows.flatten HR.out.1 (by rfl) r9 n9 rc9 (by rfl) xs HXL.out.1 (HO.out.t.keep HE35.out (Nat.le_refl _)) HSRC.out HLY.out (by omega) (by omega) (nn + n9) rfl ?_; intro ro2 rc2 w8 hown8 hex8 _ _)
        have HO8 := Lib.hid hown8
        have HE8 : Hid (Ex w2.heap.size none w2 w8) := Lib.hid ((HER.out.trans HE35.out (by omega) (by simp)).trans hex8 (Nat.le_refl _) (by simp))
        clear hown8 hex8
        go_roundw
        case rel => exact ⟨k + 1, nn + n9, ro2, rc2, rows ++ [r], by omega, by omega, by go_num, rfl, Lib.hid ⟨by rw [List.flatten_append, List.length_append, HR.out.1, HB2.out]; simp, by rw [HTK.out]; exact HR.out.2.snoc HLS.out HB1.out (by rw [← HB2.out]; exact HC.out)⟩, Lib.hid (by
          have h := HO8.out.s (Nat.le_refl _)
          rw [HXL.out.2] at h
          rw [List.flatten_append]
          simpa using h), HE8.out⟩
        case measure => simp [intOf] <;> omega
      · obtain rfl : k = np := by omega
        go_wp2
        refine ⟨rfl, .tuple #[.slice ro nn rc, .int .i64 0], by simp [results, Tryz.results57, go_sem], ?_⟩
        exact ⟨_, _, rfl, .inr (.inr ⟨HG.out, rfl, rows, ro, rc, nn, by
          have h := HR.out.2
          rw [List.take_of_length_le (by rw [HNP.out]; exact Nat.le_refl _)] at h
          exact h, rfl, HR.out.1.symm, HO.out.lower (by omega)⟩), HE0.out.trans HE0R.out (by omega) (by simp)⟩
end Go.Proofs.YtdifcnhhcinonaaGreat

namespace Go.Proofs.YtdifcnhhcinonaaGreat
open Go.RowKit Go.Sort

theorem ltA_congr {x y : St} (h : cmpA y x = 0) (z : St) : ltA z y = ltA z x := by
  obtain ⟨h1, h2, h3⟩ := cmpA_zero.1 h
  unfold ltA ltNDs
  rw [h1, h2, h3]
theorem ltA_congrL {x y : St} (h : cmpA y x = 0) (z : St) : ltA y z = ltA x z := by
  obtain ⟨h1, h2, h3⟩ := cmpA_zero.1 h
  unfold ltA ltNDs
  rw [h1, h2, h3]
theorem ltA_ne {x y : St} (h : ltA x y = true) : cmpA x y ≠ 0 := fun e => by
  rw [ltA_congrL e, ltA_irrefl] at h; cases h
theorem cmpA_symm0 {x y : St} (h : cmpA x y = 0) : cmpA y x = 0 := by
  obtain ⟨h1, h2, h3⟩ := cmpA_zero.1 h
  exact cmpA_zero.2 ⟨h1.symm, h2.symm, h3.symm⟩
/-- One that is there already. -/
theorem addV_old {l : List St} {x : St} {l' : List St} {u : Value} {c : Int} (hv : validB l = true) (hc : checkI x = 0) (hs : sealedB x = true) (hx : ∃ y ∈ l, cmpA y x = 0) (h : AddV l x l' u c) : l' = l ∧ u = .bool false ∧ c = 0 := by
  obtain ⟨b, rfl, h⟩ := h
  rcases h with ⟨h, _⟩ | ⟨_, h, _⟩ | ⟨_, _, h, _⟩ | ⟨_, _, _, k, there, ⟨hk, hlo, hhi, ht⟩, h⟩
  · rw [hv] at h; cases h
  · exact absurd hc h
  · rw [hs] at h; cases h
  · have hth : there = true := by
      obtain ⟨y, hy, hyx⟩ := hx
      obtain ⟨j, hj⟩ := List.mem_iff_getElem?.1 hy
      refine ht.2 ⟨y, ?_, hyx⟩
      have hjk : k ≤ j := by
        refine Nat.le_of_not_lt fun hlt => ?_
        have h1 := hlo j y hlt hj
        exact ltA_ne h1 hyx
      by_cases e : j = k
      · rw [← e]; exact hj
      · obtain ⟨z, hz⟩ : ∃ z, l[k]? = some z := by
          have := (List.getElem?_eq_some_iff.1 hj).1
          exact ⟨_, List.getElem?_eq_getElem (by omega)⟩
        have h1 := validB_rising hv k j z y (by omega) hz hj
        rw [ltA_congr hyx] at h1
        rw [hhi k z (Nat.le_refl _) hz] at h1
        cases h1
    subst hth
    have hp : putA l x k true = l := rfl
    rw [hp] at h
    have := validB_len hv
    rcases h with ⟨h1, _⟩ | ⟨_, rfl, rfl, rfl⟩
    · omega
    · exact ⟨rfl, rfl, rfl⟩
/-- One that is new. -/
theorem addV_new {l : List St} {x : St} {l' : List St} {u : Value} {c : Int} (hv : validB l = true) (hc : checkI x = 0) (hs : sealedB x = true) (hx : ∀ y ∈ l, cmpA y x ≠ 0) (h : AddV l x l' u c) :
    (l.length = 1000 ∧ l' = l ∧ u = .bool false ∧ c = 3) ∨ (l.length < 1000 ∧ ∃ k, l' = l.take k ++ [x] ++ l.drop k ∧ u = .bool true ∧ c = 0) := by
  obtain ⟨b, rfl, h⟩ := h
  have hl := validB_len hv
  rcases h with ⟨h, _⟩ | ⟨_, h, _⟩ | ⟨_, _, h, _⟩ | ⟨_, _, _, k, there, ⟨hk, hlo, hhi, ht⟩, h⟩
  · rw [hv] at h; cases h
  · exact absurd hc h
  · rw [hs] at h; cases h
  · have hth : there = false := by
      cases there with
      | false => rfl
      | true =>
        obtain ⟨y, hy, hyx⟩ := ht.1 rfl
        exact absurd hyx (hx y (List.mem_of_getElem? hy))
    subst hth
    have hp : putA l x k false = l.take k ++ [x] ++ l.drop k := rfl
    have hpl : (putA l x k false).length = l.length + 1 := by rw [hp]; simp; omega
    rcases h with ⟨h1, rfl, rfl, rfl⟩ | ⟨h1, rfl, rfl, rfl⟩
    · exact .inl ⟨by omega, rfl, rfl, rfl⟩
    · exact .inr ⟨by omega, k, rfl, rfl, rfl⟩
/-- Of a row no two of which are alike nothing is dropped. -/
theorem mergeR_len {l1 l2 m : List St} (h : MergeR l1 l2 m) (hd : (l1 ++ l2).Pairwise fun x y => cmpA x y ≠ 0) : m.length = l1.length + l2.length := by
  obtain ⟨d, hp, _, rfl⟩ := h
  have hd' : d.Pairwise fun x y => cmpA x y ≠ 0 := (hp.pairwise_iff (fun h e => h (cmpA_symm0 e))).2 hd
  have hall : ∀ j, j < d.length → stays sameAS d.toArray j = true := fun j hj => by
    by_cases h0 : j = 0
    · subst h0; rfl
    · have hj' : j - 1 < d.length := by omega
      refine stays_of (by omega) false ?_
      rw [getElem!_pos d.toArray j (by simpa using hj), getElem!_pos d.toArray (j - 1) (by simpa using hj')]
      have h1 := List.pairwise_iff_getElem.1 hd' (j - 1) j hj' hj (by omega)
      simp only [List.getElem_toArray, sameAS]
      exact beq_eq_false_iff_ne.2 fun e => h1 (cmpA_symm0 e)
  rw [cpt_all hall (by simp)]
  have := hp.length_eq
  simp only [List.length_append] at this
  simp [this]
theorem validB_of {l : List St} (h1 : l.length ≤ 1000) (hm : ∀ s ∈ l, checkI s = 0 ∧ sealedB s = true) (hp : l.Pairwise fun x y => ltA x y = true) : validB l = true :=
  validB_yes h1 (goods_of hm fun j s t e1 e2 => by
    obtain ⟨k1, rfl⟩ := List.getElem?_eq_some_iff.1 e1
    obtain ⟨k2, rfl⟩ := List.getElem?_eq_some_iff.1 e2
    exact List.pairwise_iff_getElem.1 hp j (j + 1) k1 k2 (by omega))
theorem mergeV_ok {l1 l2 l' : List St} {c : Int} (h1 : validB l1 = true) (h2 : validB l2 = true) (hd : (l1 ++ l2).Pairwise fun x y => cmpA x y ≠ 0) (hl : l1.length + l2.length ≤ 1000) (h : MergeV l1 l2 l' c) : l'.length = l1.length + l2.length ∧ c = 0 := by
  rcases h with ⟨h, _⟩ | ⟨_, m, hm, ⟨h, _⟩ | ⟨_, rfl, rfl⟩⟩
  · rw [h1, h2] at h; cases h
  · have := mergeR_len hm hd; omega
  · exact ⟨mergeR_len hm hd, rfl⟩
theorem mergeV_full {l1 l2 l' : List St} {c : Int} (h1 : validB l1 = true) (h2 : validB l2 = true) (hd : (l1 ++ l2).Pairwise fun x y => cmpA x y ≠ 0) (hl : 1000 < l1.length + l2.length) (h : MergeV l1 l2 l' c) : c = 3 := by
  rcases h with ⟨h, _⟩ | ⟨_, m, hm, ⟨_, _, rfl⟩ | ⟨h, _⟩⟩
  · rw [h1, h2] at h; cases h
  · rfl
  · have := mergeR_len hm hd; omega

/-- The statements of the law: author a, number i, the digest ahead. -/
def baseL (a i : Nat) (p : ByteArray) : St := ⟨a, i, p, 0, 10, 0, 0, 0, [], [], ⟨#[]⟩, 0, ⟨#[]⟩⟩
def prevL (a : Nat) : Nat → ByteArray
  | 0 => ⟨#[]⟩
  | i + 1 => sha (stB (baseL a i (prevL a i)))
def fullS (a i : Nat) : St := sealS (baseL a i (prevL a i))
def fullAt (j : Nat) : St := fullS (j / 200) (j % 200)
def fullL (n : Nat) : List St := (List.range n).map fullAt
theorem prevL_size (a : Nat) : ∀ i, 0 < i → (prevL a i).size = 32
  | 0, h => absurd h (by decide)
  | i + 1, _ => sha_size _
theorem baseL_check {a i : Nat} {p : ByteArray} (ha : a < 64) (hi : i < 200) (h0 : i = 0 → p = ⟨#[]⟩) (h1 : 0 < i → p.size = 32) : checkI (sealS (baseL a i p)) = 0 := by
  have e1 : keyB (a : Int) = true := keyB_iff.2 (by omega)
  have e2 : inB (i : Int) 199 = true := inB_iff.2 (by omega)
  have e3 : ¬ (((i : Int) = 0 ∧ p ≠ ⟨#[]⟩) ∨ ((0 : Int) < (i : Int) ∧ p.size ≠ 32) ∨ pinsB [] = false) := by
    rintro (⟨h, h'⟩ | ⟨h, h'⟩ | h)
    · exact h' (h0 (by omega))
    · exact h' (h1 (by omega))
    · cases h
  unfold checkI
  rw [if_neg (by show ¬ keyB (a : Int) = false; rw [e1]; simp), if_neg (by show ¬ ((10 : Int) < 1 ∨ (3 < (10 : Int) ∧ (10 : Int) < 10) ∨ 31 < (10 : Int)); omega), if_neg (by show ¬ inB 0 2147483648 = false; decide),
    if_neg (by show ¬ (inB (i : Int) 199 && inB 0 M40 && inB 0 M40 && inB 0 M40 && ([] : List Int).all (fun x => inB x M40) && kindB (sealS (baseL a i p))) = false; rw [e2]; show ¬ (true && inB 0 M40 && inB 0 M40 && inB 0 M40 && ([] : List Int).all (fun x => inB x M40) && true) = false; decide),
    if_neg (by show ¬ (64 < ([] : List Int).length ∨ 64 < ([] : List PinD).length ∨ 4096 < (⟨#[]⟩ : ByteArray).size); decide), if_neg (by exact e3), if_neg (by show ¬ ((10 : Int) ≤ 3 ∧ _); omega)]
theorem fullS_check {a i : Nat} (ha : a < 64) (hi : i < 200) : checkI (fullS a i) = 0 := baseL_check ha hi (fun h => by subst h; rfl) (prevL_size a i)
theorem fullS_sealed (a i : Nat) : sealedB (fullS a i) = true := sealS_sealed _
theorem fullL_len (n : Nat) : (fullL n).length = n := by simp [fullL]
theorem fullL_succ (n : Nat) : fullL (n + 1) = fullL n ++ [fullAt n] := by simp [fullL, List.range_succ]
theorem fullAt_lt {i j : Nat} (h : i < j) : ltA (fullAt i) (fullAt j) = true := by
  unfold ltA ltNDs
  show (decide (((i / 200 : Nat) : Int) < ((j / 200 : Nat) : Int)) || (decide (((i / 200 : Nat) : Int) = ((j / 200 : Nat) : Int)) && (decide (((i % 200 : Nat) : Int) < ((j % 200 : Nat) : Int)) || _))) = true
  by_cases h1 : i / 200 < j / 200
  · rw [decide_eq_true (by omega), Bool.true_or]
  · rw [decide_eq_true (show ((i / 200 : Nat) : Int) = ((j / 200 : Nat) : Int) by omega), decide_eq_true (show ((i % 200 : Nat) : Int) < ((j % 200 : Nat) : Int) by omega)]
    simp
theorem fullL_rising (n : Nat) : (fullL n).Pairwise fun x y => ltA x y = true := by
  unfold fullL
  rw [List.pairwise_map]
  exact List.pairwise_lt_range.imp fun h => fullAt_lt h
theorem fullL_mem {n : Nat} (hn : n ≤ 1000) : ∀ s ∈ fullL n, checkI s = 0 ∧ sealedB s = true := fun s hs => by
  obtain ⟨j, hj, rfl⟩ := List.mem_map.1 hs
  have := List.mem_range.1 hj
  exact ⟨fullS_check (by omega) (by omega), fullS_sealed _ _⟩
theorem fullL_valid {n : Nat} (hn : n ≤ 1000) : validB (fullL n) = true := validB_of (by rw [fullL_len]; exact hn) (fullL_mem hn) (fullL_rising n)
theorem fullL_other {n a i : Nat} (hn : n ≤ 1000) (ha : 5 ≤ a) : ∀ y ∈ fullL n, cmpA y (fullS a i) ≠ 0 := fun y hy e => by
  obtain ⟨j, hj, rfl⟩ := List.mem_map.1 hy
  have h1 := List.mem_range.1 hj
  have h2 := (cmpA_zero.1 e).1
  have h3 : ((j / 200 : Nat) : Int) = (a : Int) := h2
  omega
theorem gapOf_perm {α : Type} (l : List α) (k : Nat) (x : α) (h : l[k]? = some x) : (l.take k ++ l.drop (k + 1) ++ [x]).Perm l := by
  obtain ⟨hk, rfl⟩ := List.getElem?_eq_some_iff.1 h
  have h1 := (List.take_append_drop k l).symm
  rw [List.drop_eq_getElem_cons hk] at h1
  have h2 : (l.take k ++ l.drop (k + 1) ++ [l[k]]).Perm (l.take k ++ l[k] :: l.drop (k + 1)) := by
    rw [List.append_assoc]
    exact List.Perm.append_left _ (List.perm_append_singleton _ _)
  rw [← h1] at h2; exact h2
theorem gapOf_sub {α : Type} (l : List α) (k : Nat) : (l.take k ++ l.drop (k + 1)).Sublist l := by
  have h := List.take_append_drop k l
  have h2 : (l.drop (k + 1)).Sublist (l.drop k) := List.drop_sublist_drop_left _ (by omega)
  have h3 := List.Sublist.append_left h2 (l.take k)
  rw [h] at h3; exact h3
theorem fullL_get {n j : Nat} (h : j < n) : (fullL n)[j]? = some (fullAt j) := by
  unfold fullL
  rw [List.getElem?_map, List.getElem?_range h]; rfl
/-- The row without one of it. -/
def gapL : List St := (fullL 1000).take 777 ++ (fullL 1000).drop (777 + 1)
theorem gap_perm : (gapL ++ [fullAt 777]).Perm (fullL 1000) := gapOf_perm _ _ _ (fullL_get (by decide))
theorem gap_len : gapL.length = 999 := by
  have h := gap_perm.length_eq
  rw [List.length_append, fullL_len] at h
  simpa using h
theorem gap_sub : gapL.Sublist (fullL 1000) := gapOf_sub _ _
theorem gap_valid : validB gapL = true := validB_of (by rw [gap_len]; decide) (fun s hs => fullL_mem (Nat.le_refl _) s (gap_sub.subset hs)) ((fullL_rising 1000).sublist gap_sub)
theorem one_valid {s : St} (h1 : checkI s = 0) (h2 : sealedB s = true) : validB [s] = true := validB_of (by simp) (fun t ht => by rw [List.mem_singleton.1 ht]; exact ⟨h1, h2⟩) (List.pairwise_singleton _ _)
theorem fullL_apart (n : Nat) : (fullL n).Pairwise fun x y => cmpA x y ≠ 0 := (fullL_rising n).imp fun h => ltA_ne h
theorem gap_apart : (gapL ++ [fullAt 777]).Pairwise fun x y => cmpA x y ≠ 0 := (gap_perm.pairwise_iff (fun h e => h (cmpA_symm0 e))).2 (fullL_apart 1000)
theorem more_apart {a i : Nat} (ha : 5 ≤ a) : (fullL 1000 ++ [fullS a i]).Pairwise fun x y => cmpA x y ≠ 0 := List.pairwise_append.2 ⟨fullL_apart 1000, List.pairwise_singleton _ _, fun x hx y hy => by
  rw [List.mem_singleton.1 hy]; exact fullL_other (Nat.le_refl _) ha x hx⟩
end Go.Proofs.YtdifcnhhcinonaaGreat

namespace Go.Proofs.YtdifcnhhcinonaaGreat
open Go.RowKit Go.Sort

/-- The one statement of the awake. -/
def oneS : St := fullS 1 0
theorem oneS_ok : okB 1 oneS = true := okB_iff.2 ⟨rfl, fullS_check (by decide) (by decide), fullS_sealed _ _⟩
theorem oneS_dig : oneS.dig.size = 32 := sha_size _
theorem oneS_sha : sha (stB oneS) = oneS.dig := by
  have h := fullS_sealed 1 0
  unfold sealedB at h
  rw [Bool.and_eq_true, decide_eq_true_eq, decide_eq_true_eq] at h
  exact h.2.symm
theorem oneL_valid : validB [oneS] = true := one_valid (okB_iff.1 oneS_ok).2.1 (okB_iff.1 oneS_ok).2.2
theorem linksR_one {ls : List St} (h : LinksR 1 ([oneS].filter fun s => s.author == 1) ls) : ls = [oneS] := by
  obtain ⟨d, hp, _, rfl⟩ := h
  have e1 : ([oneS].filter fun s => s.author == 1) = [oneS] := by
    rw [List.filter_cons_of_pos (by rfl)]; rfl
  rw [e1, List.filter_cons_of_pos oneS_ok] at hp
  have e2 : d = [oneS] := List.perm_singleton.1 hp
  rw [e2]
  rfl
theorem countN_one : countN [oneS] = 1 := by
  refine countN_end (fun j hj => ?_)
  obtain rfl : j = 0 := by simp at hj; omega
  rfl
theorem keysOne (n : Nat) : (List.range n).filter (fun i : Nat => [oneS].any fun s => s.author == (i : Int)) = (List.range n).filter fun i => decide (i = 1) := by
  congr 1
  funext i
  simp only [List.any_cons, List.any_nil, Bool.or_false]
  show ((1 : Int) == (i : Int)) = decide (i = 1)
  by_cases h : i = 1
  · subst h; rfl
  · rw [decide_eq_false h]; simp; omega
theorem keysL_one : keysL [oneS] = [1] := by
  unfold keysL
  rw [keysOne]
  kernel_rfl
theorem pinsR_one {ps : List PinD} (h : PinsR [oneS] (keysL [oneS]) ps) : ps = [(1, 1, oneS.dig)] := by
  rw [keysL_one] at h
  obtain ⟨lss, h1, h2, rfl⟩ := h
  obtain ⟨ls, rfl⟩ := List.length_eq_one_iff.1 h1
  have h3 := linksR_one (h2 0 1 ls rfl rfl)
  subst h3
  simp only [List.zip_cons_cons, List.zip_nil_left, List.map_cons, List.map_nil, pinOf, countN_one, List.take_succ_cons, List.take_zero, List.getLast?_singleton, Option.map_some, oneS_sha, List.filterMap_cons, List.filterMap_nil, id]
  simp
theorem lookS_one : lookS [oneS] oneS.dig = some oneS := by
  unfold lookS
  simp
theorem beforeS_one : beforeS [oneS] oneS = none := by
  unfold beforeS lookS
  have e : ¬ oneS.dig = oneS.prev := fun e => by
    have h := oneS_dig
    rw [e] at h
    cases h
  simp [e]
theorem branchS_one : branchS [oneS] oneS.dig = some [oneS] := by
  unfold branchS
  rw [lookS_one, Option.bind_some]
  have e : backS [oneS] 201 oneS = [oneS] := by
    unfold backS
    rw [beforeS_one]
  rw [e, if_pos (by rfl)]
  rfl
theorem pinS_one : checkI (pinS [(1, 1, oneS.dig)]) = 0 := by
  have e3 : pinsB [((1 : Int), (1 : Int), oneS.dig)] = true := by
    unfold pinsB pinsTo
    simp only [List.length_singleton, List.range_one, List.all_cons, List.all_nil, Bool.and_true]
    unfold pinAt
    simp only [List.getElem?_cons_zero, oneS_dig]
    decide
  unfold checkI
  rw [if_neg (by show ¬ keyB 0 = false; decide), if_neg (by show ¬ ((10 : Int) < 1 ∨ (3 < (10 : Int) ∧ (10 : Int) < 10) ∨ 31 < (10 : Int)); omega), if_neg (by show ¬ inB 0 2147483648 = false; decide), if_neg (by show ¬ (true && inB 0 M40 && inB 0 M40 && inB 0 M40 && true && true) = false; decide),
    if_neg (by show ¬ (64 < ([] : List Int).length ∨ 64 < 1 ∨ 4096 < (⟨#[]⟩ : ByteArray).size); decide), if_neg (by show ¬ (((0 : Int) = 0 ∧ (⟨#[]⟩ : ByteArray) ≠ ⟨#[]⟩) ∨ ((0 : Int) < 0 ∧ _) ∨ pinsB [((1 : Int), (1 : Int), oneS.dig)] = false); rw [e3]; simp), if_neg (by show ¬ ((10 : Int) ≤ 3 ∧ _); omega)]
theorem pinned_one {w' : World} {base : Nat} {u : Value} {c : Int} (h : PinnedV w' base [oneS] [(1, 1, oneS.dig)] u c) : c = 0 ∧ ∃ ro rc, u = .slice ro 1 rc := by
  have hg : (validB [oneS] && (checkI (pinS [(1, 1, oneS.dig)]) == 0)) = true := by rw [oneL_valid, pinS_one]; rfl
  rcases h with ⟨h, _⟩ | ⟨_, _, _, p, hp, ls, hl, hr⟩ | ⟨_, hc, rows, ro, rc, n, hR, hu, hn, _⟩
  · rw [hg] at h; cases h
  · rw [List.mem_singleton.1 hp] at hl hr
    have h3 := linksR_one hl
    subst h3
    exact absurd rfl (hr _ branchS_one)
  · obtain ⟨r, rfl⟩ := List.length_eq_one_iff.1 hR.1
    obtain ⟨ls, hl, hb, hlen⟩ := hR.2 0 _ r rfl rfl
    have h3 : r.length = 1 := by have : (r.length : Int) = 1 := hlen; omega
    refine ⟨hc, ro, rc, ?_⟩
    rw [hu, hn]
    simp [h3]
end Go.Proofs.YtdifcnhhcinonaaGreat
