/- A range over chain.back's iterator, whatever its body: a law. No statement of the seat. | slices.Reverse at statements, over whatever program that bears it: a contract, after the guide's walk at numbers. No statement of the seat. | chain.back; the links of a chain laid into a map: parts of chain.Branch. No statement of the seat. | chain.Branch: a contract, no statement of the seat. | Statements as closed values: statement.Seal; a result that is a statement's cell; a statement without lists lies anywhere. No statement of the seat. | slices.SortFunc and slices.CompactFunc at statements: contracts, no statement of the seat. | slices.Grow of nothing, slices.Concat of two, at statements. No statement of the seat. | store.Merge: a contract, no statement of the seat. | store.Height; slices.IndexFunc and slices.ContainsFunc at statements; the tests of store.Pins; store.pinned. No statement of the seat. | store.Pins: a contract, no statement of the seat. | store.Pinned: a contract, no statement of the seat. -/
import Derived.Test.YtaakacahblndcaaGreatMg11
import Derived.Test.YtaakacahblndcaaGreatMg03
import Derived.Test.YtaakacahblndcaaGreatRows
import Derived.Test.YtaakacahblndcaaGreatMg01
import Derived.Test.YtaakacahblndcaaGreatMg00
import Derived.Test.YtaakacahblndcaaGreatMg10
import Derived.Lib.SlicesMore
import Derived.Deep.LoopGhost
import Derived.Laws.ResultCell
import Derived.Test.YtaakacahblndcaaGreatMg09
import Derived.Test.YtaakacahblndcaaGreatMg02
import Derived.Test.YtaakacahblndcaaGreatMg07
import Derived.Lib.AppendZerosOnto
import Derived.Lib.Walk
import Derived.Lib.SliceRun
import Derived.IntWalk
import Derived.Test.YtaakacahblndcaaGreatMg04
import Derived.Test.YtaakacahblndcaaGreatMg05
import Derived.Test.YtaakacahblndcaaGreatCheckPG
import Derived.Deep.RegionHeld3
namespace Go.Proofs.YtaakacahblndcaaGreat
open Go.RowKit Go.Sort Go.Maps

/-- All that lay there lies as it lay, but for three blocks. -/
def Beside (gx N : Nat) (A B : World) : Prop := A.heap.size ≤ B.heap.size ∧ B.os = A.os ∧ B.tape = A.tape ∧ B.output = A.output ∧ ∀ b, b < A.heap.size → b ≠ gx → b ≠ N → b ≠ N + 1 → B.heap[b]? = A.heap[b]?
theorem beside_putObj {gx N : Nat} {A : World} (l : Nat) (o : Obj) (hl : l = N ∨ l = N + 1) : Beside gx N A (A.putObj l o) :=
  ⟨by simp, rfl, rfl, rfl, fun b _ _ h1 h2 => World.putObj_heap_other (by rcases hl with h | h <;> omega)⟩
theorem beside_alloc {gx N : Nat} {A : World} (o : Obj) : Beside gx N A (A.alloc o) :=
  ⟨by simp, rfl, rfl, rfl, fun b hb _ _ _ => (Ex.new A o).block b hb (by simp)⟩
theorem beside_ex {gx N : Nat} {A B : World} (h : Ex A.heap.size (some gx) A B) : Beside gx N A B :=
  ⟨h.size, h.os, h.tape, h.output, fun b hb h1 _ _ => h.block b hb (fun e => h1 (Option.some.inj e))⟩
theorem OwnS.keepB {w w' : World} {base : Nat} {ao : Option Addr} {cap : Nat} {l : List St} (h : OwnS w base ao cap l) (hb : ∀ b, base ≤ b → b < w.heap.size → w'.heap[b]? = w.heap[b]?) : OwnS w' base ao cap l := by
  obtain ⟨xs, e, h1, h2⟩ := h
  refine ⟨xs, e, ⟨h1.1, ?_⟩, fun x hx => (h2 x hx).keep fun b h hlt => hb b h.1 hlt⟩
  rcases h1.2 with h | ⟨g, c, cur, e1, e2, e3, e4⟩
  · exact .inl h
  · exact .inr ⟨g, c, cur, e1, e2, (hb g e2 (Array.getElem?_eq_some_iff.1 e3).1).trans e3, e4⟩
/-- What a round's body owes. -/
def backPost (N go : Nat) (I Ix : List (St × Sv × Sv) → World → Prop) (xs : List (St × Sv × Sv)) (W : World) : Exit → Act → World → Prop
  | .normal, _, W' => Ex (N + 2) (some go) W W' ∧ I xs W'
  | .ret, _, W' => (W'.heap[N]? = W.heap[N]? ∧ W'.heap[N + 1]? = W.heap[N + 1]?) ∧ Ix xs W'
  | _, _, _ => False

set_option maxHeartbeats 2000000 in
theorem wpIn_rangeBack {n : Nat} {g : Operand} {p : Tmp} {assign body : Code} {Q : Exit → Act → World → Prop} {a : Act} {w : World}
    (N gx gm mb cnt go : Nat) (X : List (St × Sv × Sv)) (x0 : St × Sv × Sv) (hN : w.heap.size = N)
    (hX : ∀ x ∈ X, (0 ≤ x.1.number ∧ x.1.number ≤ 200) ∧ x.1.prev.size ≤ maxLen) (hx0 : x0 ∈ X) (hgo : go < N) (hgx : gx < N ∧ gx ≠ go) (hgm : gm < N ∧ gm ≠ go ∧ gm ≠ gx) (hmb : mb < N ∧ mb ≠ go ∧ mb ≠ gx)
    (hW1 : w.heap[gx]? = some (.cells (linkV x0).cells 169 (0, 0))) (hW2 : w.cell? ⟨gm, 0, none⟩ = some (.map (some mb))) (hW3 : w.ownsMap Tryz.prog 9 valElem mb cnt (mapV (X.map storeL)))
    (hg : a.eval g = .func (.func 182) #[] #[.pointer (some ⟨gx, 0, none⟩), .pointer (some ⟨gm, 0, none⟩)])
    (I Ix : List (St × Sv × Sv) → World → Prop) (hI : ∀ pre A B, I pre A → Beside gx N A B → I pre B) (hIx : ∀ pre A B, Ix pre A → Beside gx N A B → Ix pre B) (h0 : I [] w) (a₁ : St × Sv × Sv → Nat → Act)
    (hassign : ∀ (l : Nat) (x : St × Sv × Sv) (W : World) (K : Act → World → Prop) (gb : Nat), gb = W.heap.size → K (a₁ x gb) (W.alloc (.cells (linkV x).cells 169)) →
      assign.wpIn (Fence.wide.inRound l) 0 Tryz.prog (Exit.then K (fun _ _ _ => False)) { tmps := (#[p].zip #[linkV x]).foldl (fun t (q, v) => t.setIfInBounds q v) a.tmps, defers := [] } W)
    (hbody : ∀ (pre : List (St × Sv × Sv)) (x : St × Sv × Sv) (W : World) (gb : Nat), I pre W → x ∈ X → pre.length ≤ 200 → W.heap[gb]? = some (.cells (linkV x).cells 169 (0, 0)) → N + 2 ≤ gb → gb < W.heap.size →
      body.wpIn (Fence.wide.inRound (N + 1)) 0 Tryz.prog (backPost N go I Ix (pre ++ [x]) W) (a₁ x gb) W)
    (hdone : ∀ (W : World), I (backX X 201 x0) W → W.heap[N]? = some (.deferred (some [])) → Q .normal { a with defers := { target := .collected N, args := #[] } :: a.defers } W)
    (hstop : ∀ (pre rest : List (St × Sv × Sv)) (W : World), pre ++ rest = backX X 201 x0 → Ix pre W → W.heap[N]? = some (.deferred (some [])) → Q .ret { a with defers := { target := .collected N, args := #[] } :: a.defers } W) :
    (Code.rangeFunc g #[p] assign body).wpIn Fence.wide n Tryz.prog Q a w := by
  subst hN
  refine wpIn_rangeFunc ?_
  intro fn hfn
  obtain ⟨rec, hrec⟩ : ∃ rec : LoopState → Option Code → Loop, rec = fun st pe => { state := st, pending := pe, fn, tmps := a.tmps, params := #[p], assign, body, defers := w.heap.size } := ⟨_, rfl⟩
  obtain ⟨W1, hW1'⟩ : ∃ W1, (w.alloc (.deferred (some []))).alloc (.loop (rec .ready none)) = W1 := ⟨_, rfl⟩
  have hL1 : W1.heap[w.heap.size + 1]? = some (.loop (rec .ready none)) := by
    rw [← hW1']; have := World.alloc_heap_new (w.alloc (.deferred (some []))) (.loop (rec .ready none)); rwa [World.size_alloc] at this
  have hK1 : W1.heap[w.heap.size]? = some (.deferred (some [])) := by
    rw [← hW1']; exact (Below.heap_alloc _ _ _ (by simp)).trans (World.alloc_heap_new w _)
  have hS1 : W1.heap.size = w.heap.size + 2 := by rw [← hW1']; simp
  have hE1 : Ex w.heap.size none w W1 := by rw [← hW1']; exact (Ex.new w _).alloc (by simp) _
  have hI1 : I [] W1 := by rw [← hW1']; exact hI _ _ _ (hI _ _ _ h0 (beside_alloc _)) (beside_alloc _)
  refine ⟨w.heap.size + 1, [{ target := .collected w.heap.size, args := #[] }], W1, { target := .fn (.func 182) #[.pointer (some ⟨gx, 0, none⟩), .pointer (some ⟨gm, 0, none⟩)], args := #[.func (.yield (w.heap.size + 1)) #[] #[]] }, W1, 182,
    #[.func (.yield (w.heap.size + 1)) #[] #[]] ++ #[.pointer (some ⟨gx, 0, none⟩), .pointer (some ⟨gm, 0, none⟩)], W1, ?_, ?_, ?_, ?_, fun h => (by cases h), ?_⟩
  · rw [← hW1', hrec]; exact run_enterLoop_outer _ _ _ _ _
  · simp only [resolve, hg]
    simp [go_sem]
  · intro f' hf'; trivial
  · simp [invoke, go_sem]
  · refine ((callsIn_wide (n := n - 1)).2 ((callsIn_wide (n := 1)).1 (back1_in (w.heap.size + 1) gx gm mb cnt w.heap.size go X x0
      (fun pre W => I pre W ∧ W.heap[w.heap.size + 1]? = some (.loop (rec .ready none)) ∧ W.heap[w.heap.size]? = some (.deferred (some [])) ∧ w.heap.size + 2 ≤ W.heap.size)
      (fun pre W => Ix pre W ∧ W.heap[w.heap.size + 1]? = some (.loop (rec .done (some .ret))) ∧ W.heap[w.heap.size]? = some (.deferred (some [])))
      W1 hX hx0 hgx hgm hmb (by omega) ?_ ?_ ((hE1.block gx hgx.1 (by simp)).trans hW1) ((World.cell?_of_block (w := w) (a := ⟨gm, 0, none⟩) (hE1.block gm hgm.1 (by simp))).trans hW2) (ownsMap_same hW3 (hE1.block mb hmb.1 (by simp))) ⟨hI1, hL1, hK1, by omega⟩))).mono ?_
    · rintro pre A B ⟨hi, hl, hk, hs⟩ hex
      exact ⟨hI _ _ _ hi (beside_ex hex), (hex.block _ (by omega) (fun e => by have := Option.some.inj e; omega)).trans hl, (hex.block _ (by omega) (fun e => by have := Option.some.inj e; omega)).trans hk, Nat.le_trans hs hex.size⟩
    · rintro pre x W ⟨hi, hl, hk, hs⟩ hxm hpl
      have hy := run_yield (P := Tryz.prog) (args := #[linkV x]) hl (by rw [hrec]; rfl)
      rw [hrec] at hy
      refine ⟨fn, _, assign, body, hy, roundIn_of_wpIn hfn (hassign _ x W _ _ rfl ?_)⟩
      have hlA : (W.alloc (.cells (linkV x).cells 169)).heap[w.heap.size + 1]? = some (.loop (rec .ready none)) := ((Ex.new W _).block _ (by omega) (by simp)).trans hl
      have hkA : (W.alloc (.cells (linkV x).cells 169)).heap[w.heap.size]? = some (.deferred (some [])) := ((Ex.new W _).block _ (by omega) (by simp)).trans hk
      have hsA : (W.alloc (.cells (linkV x).cells 169)).heap.size = W.heap.size + 1 := by simp
      have hbA : (W.alloc (.cells (linkV x).cells 169)).heap[W.heap.size]? = some (.cells (linkV x).cells 169 (0, 0)) := heap_alloc_new W _
      have hiA := hI _ _ _ hi (beside_alloc (gx := gx) (N := w.heap.size) (.cells (linkV x).cells 169))
      have hEA : Ex (w.heap.size + 2) none W (W.alloc (.cells (linkV x).cells 169)) := (Ex.new W _).mono hs
      generalize W.alloc (.cells (linkV x).cells 169) = WA at hlA hkA hsA hbA hiA hEA ⊢
      refine ⟨_, run_beginRound hlA (by rw [hrec]), ?_⟩
      obtain ⟨WB, hWB⟩ : ∃ WB, WB = WA.putObj (w.heap.size + 1) (.loop { rec .ready none with state := .busy }) := ⟨_, rfl⟩
      have hlB : WB.heap[w.heap.size + 1]? = some (.loop { rec .ready none with state := .busy }) := by rw [hWB]; exact World.putObj_heap_same (by omega)
      have hkB : WB.heap[w.heap.size]? = some (.deferred (some [])) := by rw [hWB]; exact (World.putObj_heap_other (by omega)).trans hkA
      have hsB : WB.heap.size = W.heap.size + 1 := by rw [hWB]; simp; omega
      have hbB : WB.heap[W.heap.size]? = some (.cells (linkV x).cells 169 (0, 0)) := by rw [hWB]; exact (World.putObj_heap_other (by omega)).trans hbA
      have hiB := hI _ _ _ hiA (beside_putObj (gx := gx) (N := w.heap.size) (w.heap.size + 1) (.loop { rec .ready none with state := .busy }) (.inr rfl))
      rw [← hWB] at hiB ⊢
      have hEB : Ex w.heap.size none W WB := by
        rw [hWB]
        exact ⟨hEA.os, hEA.tape, hEA.output, by simp; omega, fun b hb _ => (World.putObj_heap_other (by omega)).trans (hEA.block b (by omega) (by simp))⟩
      clear hWB
      refine wpIn_mono (hbody pre x WB W.heap.size hiB hxm hpl hbB hs (by omega)) ?_
      rintro e a3 W3 hp
      cases e with
      | normal =>
        obtain ⟨hk3, hi3⟩ := hp
        have hl3 : W3.heap[w.heap.size + 1]? = some (.loop { rec .ready none with state := .busy }) := (hk3.block _ (by omega) (fun e => by have := Option.some.inj e; omega)).trans hlB
        have hd3 : W3.heap[w.heap.size]? = some (.deferred (some [])) := (hk3.block _ (by omega) (fun e => by have := Option.some.inj e; omega)).trans hkB
        have hr := run_endRound (P := Tryz.prog) none hl3
        refine ⟨_, _, hr, .inl ⟨rfl, ⟨hI _ _ _ hi3 (beside_putObj _ _ (.inr rfl)), ?_, (World.putObj_heap_other (by omega)).trans hd3, by have := hk3.size; simp; omega⟩, ?_⟩⟩
        · rw [World.putObj_heap_same (Array.getElem?_eq_some_iff.1 hl3).1, hrec]; rfl
        · have hE3 := hEB.trans (hk3.mono (show w.heap.size ≤ w.heap.size + 2 by omega)) (Nat.le_refl _) (p' := some go)
          exact ⟨hk3.os.trans hEB.os, hk3.tape.trans hEB.tape, hk3.output.trans hEB.output, by have := hk3.size; have := hEB.size; simp; omega, fun b hb hne => (World.putObj_heap_other (by omega)).trans ((hk3.block b (by omega) hne).trans (hEB.block b hb (by simp)))⟩
      | ret =>
        obtain ⟨⟨hd, hl⟩, hi3⟩ := hp
        have hl3 := hl.trans hlB
        have hd3 := hd.trans hkB
        have hr := run_endRound (P := Tryz.prog) (some .ret) hl3
        refine ⟨_, _, hr, .inr ⟨rfl, hIx _ _ _ hi3 (beside_putObj _ _ (.inr rfl)), ?_, (World.putObj_heap_other (by omega)).trans hd3⟩⟩
        rw [World.putObj_heap_same (Array.getElem?_eq_some_iff.1 hl3).1, hrec]; rfl
      | exit id => exact hp.elim
      | goto t => exact hp.elim
      | panic ch => exact hp.elim
      | outgrown => exact hp.elim
    · rintro e W2 ⟨⟨v, rfl⟩, (⟨hi, hl, hk, hs⟩ | ⟨pre, rest, hpr, hi, hl, hk⟩)⟩
      · have hr := run_endLoop (P := Tryz.prog) hl (by rw [hrec]; simp)
        refine ⟨none, _, by have h9 := hr; rw [hrec] at h9; exact h9, ?_⟩
        exact hdone _ (hI _ _ _ hi (beside_putObj _ _ (.inr rfl))) ((World.putObj_heap_other (by omega)).trans hk)
      · have hr := run_endLoop (P := Tryz.prog) hl (by rw [hrec]; simp)
        refine ⟨some .ret, _, by have h9 := hr; rw [hrec] at h9; exact h9, ?_⟩
        exact wpIn_ret (hstop pre rest _ hpr (hIx _ _ _ hi (beside_putObj _ _ (.inr rfl))) ((World.putObj_heap_other (by omega)).trans hk))
end Go.Proofs.YtaakacahblndcaaGreat

namespace Go.Proofs.YtaakacahblndcaaGreat
open Go.RowKit Go.Sort Go.Lib

/-- What slices.Reverse leans on of a program. -/
structure LayRev (P : Program) (k : Nat) : Prop where
  mixed : P.follows .mixedOrders = true
  fR : P.funcs[141]? = some Tryz.f141
  t0 : P.underlying 0 = some (TypeDesc.tuple #[])
  a0 : ∀ w, (isAgg 0).run P w = .ok false w
  z0 : ∀ w, (Go.sizeOf 0).run P w = .ok 1 w
  v0 : ∀ w, (zeroValue 0).run P w = .ok (Value.tuple #[]) w
  t1 : P.underlying 3 = some (TypeDesc.int IntKind.i64)
  a1 : ∀ w, (isAgg 3).run P w = .ok false w
  z1 : ∀ w, (Go.sizeOf 3).run P w = .ok 1 w
  v1 : ∀ w, (zeroValue 3).run P w = .ok (Value.int IntKind.i64 0) w
  t2 : P.underlying 4 = some (TypeDesc.bool)
  a2 : ∀ w, (isAgg 4).run P w = .ok false w
  z2 : ∀ w, (Go.sizeOf 4).run P w = .ok 1 w
  v2 : ∀ w, (zeroValue 4).run P w = .ok (Value.bool false) w
  t4 : P.underlying 27 = some (TypeDesc.slice 37)
  a4 : ∀ w, (isAgg 27).run P w = .ok false w
  z4 : ∀ w, (Go.sizeOf 27).run P w = .ok 1 w
  v4 : ∀ w, (zeroValue 27).run P w = .ok (Value.slice none 0 0) w
  aE : ∀ w, (isAgg 37).run P w = .ok true w
  zE : ∀ w, (Go.sizeOf 37).run P w = .ok k w
theorem layRev : LayRev Tryz.prog 13 := {
  mixed := by kernel_rfl
  fR := Tryz.func141
  t0 := Tryz.underlying0
  a0 := Tryz.isAgg0
  z0 := Tryz.sizeOf0
  v0 := Tryz.zeroValue0
  t1 := Tryz.underlying3
  a1 := Tryz.isAgg3
  z1 := Tryz.sizeOf3
  v1 := Tryz.zeroValue3
  t2 := Tryz.underlying4
  a2 := Tryz.isAgg4
  z2 := Tryz.sizeOf4
  v2 := Tryz.zeroValue4
  t4 := Tryz.underlying27
  a4 := Tryz.isAgg27
  z4 := Tryz.sizeOf27
  v4 := Tryz.zeroValue27
  aE := Tryz.isAgg37
  zE := Tryz.sizeOf37 }

variable {P : Program} {α : Type} [Inhabited α]
set_option maxHeartbeats 8000000 in
set_option maxRecDepth 1000000 in
theorem reverseK_any {k : Nat} (L : LayRev P k) (enc : α → List Value) (hk : ∀ x, (enc x).length = k) (h1 : ∀ x, ∀ v ∈ enc x, v.oneCell' = true) (g off cap n : Nat) (d : Array α) (w : World) (hH : HoldsK enc k w g off d) (hg : g < w.heap.size) (hn : d.size = n) (hsz : n ≤ 1000000) (cur : Array Value) (ty : TypeId) (fr : Nat × Nat) (hB : w.heap[g]? = some (.cells cur ty fr)) :
    Calls P 141 #[.slice (some ⟨g, off, none⟩) n cap] w fun e w' => e = .returned (.tuple #[]) ∧ HoldsK enc k w' g off d.reverse ∧ Ex w.heap.size (some g) w w' ∧ ∃ cur', w'.heap[g]? = some (.cells cur' ty fr) ∧ cur'.size = cur.size := by
  have mixed := L.mixed; have t0 := L.t0; have a0 := L.a0; have z0 := L.z0; have v0 := L.v0; have t1 := L.t1; have a1 := L.a1; have z1 := L.z1; have v1 := L.v1; have t2 := L.t2; have a2 := L.a2; have z2 := L.z2; have v2 := L.v2; have t4 := L.t4; have a4 := L.a4; have z4 := L.z4; have v4 := L.v4; have aE := L.aE; have zE := L.zE
  have u4 := run_underlying L.t4
  have HK : Hid (∀ x, (enc x).length = k) := hk
  have H1 : Hid (∀ x, ∀ v ∈ enc x, v.oneCell' = true) := h1
  clear hk h1
  go_enter L.fR, Tryz.ntmps141
  go_wp2
  go_loopg [2, 3] n (fun kk s2 s3 wr => ∃ (i jn : Nat) (jz : Int) (dk : Array α), s2 = .int .i64 i ∧ s3 = .int .i64 jz ∧ ((i : Int) < jz → jz = jn ∧ jn < n) ∧ (¬ (i : Int) < jz → ¬ i < jn) ∧ jn - i ≤ kk ∧
    dk.size = n ∧ HoldsK enc k wr g off dk ∧ Ex w.heap.size (some g) w wr ∧ reverseLoop i jn dk = reverseLoop 0 (n - 1) d ∧ Hid (∃ cur', wr.heap[g]? = some (.cells cur' ty fr) ∧ cur'.size = cur.size))
  case atStart => exact ⟨0, n - 1, (n : Int) - 1, d, rfl, rfl, fun h => ⟨by omega, by omega⟩, fun h => by omega, by omega, hn, hH, Ex.refl _ _ _, rfl, Lib.hid ⟨cur, hB, rfl⟩⟩
  case round =>
    obtain ⟨i, jn, jz, dk, rfl, rfl, c1, c2, hkk, hdk, hHk, hex, heq, HCB⟩ := hrel
    have hsz' := hex.size
    by_cases hlt : (i : Int) < jz
    · obtain ⟨rfl, hjn⟩ := c1 hlt
      have hij : i < jn := by omega
      have hHd : HoldsK enc k wr.drew g off dk := hHk
      obtain ⟨vx, hvx⟩ : ∃ v, dk[i]! = v := ⟨_, rfl⟩
      obtain ⟨vy, hvy⟩ : ∃ v, dk[jn]! = v := ⟨_, rfl⟩
      have bnd : ∀ x, x < dk.size → x * k + k ≤ dk.size * k := fun x hx => by
        have := Nat.mul_le_mul_right k (show x + 1 ≤ dk.size from hx); rwa [Nat.add_mul, Nat.one_mul] at this
      have lx : Sem.run P (loadCellsFrom ⟨g, off + i * k, none⟩ 0 k #[]) wr.drew = .ok (enc vx).toArray wr.drew := by rw [← hvx]; exact run_loadCellsFrom_list P _ _ _ k (HK.out _) (HoldsK.cells hHd HK.out (by omega))
      have ly : Sem.run P (loadCellsFrom ⟨g, off + jn * k, none⟩ 0 k #[]) wr.drew = .ok (enc vy).toArray wr.drew := by rw [← hvy]; exact run_loadCellsFrom_list P _ _ _ k (HK.out _) (HoldsK.cells hHd HK.out (by omega))
      have s1 : Sem.run P (storeCells ⟨g, off + i * k, none⟩ (enc vy) 0) wr.drew = .ok () (wr.drew.setCells g (off + i * k) (enc vy)) := stores_of_holds P hHd (i * k) _ (by rw [HK.out, size_flatK]; exact bnd i (by omega)) (H1.out _)
      have s2 : Sem.run P (storeCells ⟨g, off + jn * k, none⟩ (enc vx) 0) (wr.drew.setCells g (off + i * k) (enc vy)) = .ok () ((wr.drew.setCells g (off + i * k) (enc vy)).setCells g (off + jn * k) (enc vx)) :=
        stores_of_holds P (holds_setCells_c hHd (i * k) _ (by rw [HK.out, size_flatK]; exact bnd i (by omega))) (jn * k) _ (by rw [HK.out, size_setMany, size_flatK]; exact bnd jn (by omega)) (H1.out _)
      have hsX : (enc vx).length = k := HK.out _
      have hsY : (enc vy).length = k := HK.out _
      clear bnd
      have HHk := Lib.hid hHk
      clear hHd hHk
      obtain ⟨cX, hcX⟩ : ∃ c, c = enc vx := ⟨_, rfl⟩
      obtain ⟨cY, hcY⟩ : ∃ c, c = enc vy := ⟨_, rfl⟩
      rw [← hcX] at lx hsX
      rw [← hcY] at ly hsY
      rw [← hcY] at s1
      rw [← hcX, ← hcY] at s2
      have CC : Hid (cX = enc vx ∧ cY = enc vy ∧ dk[i]! = vx ∧ dk[jn]! = vy) := ⟨hcX, hcY, hvx, hvy⟩
      clear hcX hcY hvx hvy
      have HD := Lib.hid hdk
      have HEQ := Lib.hid heq
      have HEX := Lib.hid hex
      clear hdk heq hex c1 c2 hH hn
      go_wp2_with fail
      go_big_region_o
      all_goals go_wp2
      go_roundg (jn - 1 - (i + 1))
      case measure => omega
      case rel =>
        have hdk := HD.out
        obtain ⟨k1, k2⟩ := swapWorldK enc k HK.out wr g off dk i jn HHk.out (by omega) (by omega) (by omega)
        have heq := HEQ.out
        rw [reverseLoop, if_pos hij] at heq
        refine ⟨i + 1, jn - 1, (jn : Int) - 1, swp dk i jn, by go_num, rfl, fun h => ⟨by omega, by omega⟩, fun h => by omega, Nat.le_refl _, by rw [size_swp]; exact hdk, ?_, ?_, heq, Lib.hid ?_⟩
        · rw [CC.out.1, CC.out.2.1, ← CC.out.2.2.1, ← CC.out.2.2.2]; exact k1
        · rw [CC.out.1, CC.out.2.1, ← CC.out.2.2.1, ← CC.out.2.2.2]; exact HEX.out.trans k2 hsz' (fun q e _ => by cases e; rfl)
        · obtain ⟨cu, hcu, hcs⟩ := HCB.out
          obtain ⟨cv, hcv, hcs2⟩ := setCells_there (w := wr.drew) cY (off + i * k) hcu
          obtain ⟨cz, hcz, hcs3⟩ := setCells_there cX (off + jn * k) hcv
          exact ⟨cz, hcz, by omega⟩
    · have hnot := c2 hlt
      go_wp2
      go_end0
      rw [reverseLoop, if_neg hnot] at heq
      refine ⟨rfl, ?_, hex, HCB.out⟩
      have e := reverseLoop_reverse d
      rw [hn] at e
      rw [← e, ← heq]; exact hHk

theorem reverseSt_none (p : Option Addr) (cap : Nat) (w : World) : Calls Tryz.prog 141 #[.slice p 0 cap] w fun e w' => e = .returned (.tuple #[]) ∧ w' = w := by
  go_enter Tryz.func141, Tryz.ntmps141
  go_wp2
  go_loopw [2, 3] (fun a b wr => a = .int .i64 0 ∧ b = .int .i64 (-1) ∧ wr = w) (fun _ _ _ => 0)
  case atStart => exact ⟨rfl, rfl, rfl⟩
  case round =>
    obtain ⟨rfl, rfl, rfl⟩ := hrel
    go_wp2
    go_end0
    exact ⟨rfl, rfl⟩
/-- slices.Reverse at an owned row of statements. -/
theorem reverse_own (base n rc : Nat) (ro : Option Addr) (l : List St) (w : World) (hO : OwnS w base ro rc l) (hn : l.length = n) (hm : n ≤ 1000000) (hb : base ≤ w.heap.size) :
    Calls Tryz.prog 141 #[.slice ro n rc] w fun e w' => e = .returned (.tuple #[]) ∧ OwnS w' base ro rc l.reverse ∧ Ex base none w w' ∧ Ex w.heap.size (rowOf ro) w w' := by
  obtain ⟨xs, hxs, hown, hlies⟩ := hO
  have hxl : xs.length = n := by rw [← hn, ← hxs]; simp
  have hres : xs.reverse.map (·.1) = l.reverse := by rw [List.map_reverse, hxs]
  rcases hown.2 with ⟨e, e2⟩ | ⟨g, cap, cur, e, hg, hh, hnc, hcm, hcs, htk⟩
  · have hl0 : xs = [] := List.eq_nil_of_length_eq_zero e2
    obtain rfl : n = 0 := by rw [← hxl, hl0]; rfl
    have hl1 : l = [] := by rw [← hxs, hl0]; rfl
    subst hl1
    exact (reverseSt_none ro rc w).mono fun e w' ⟨h1, h2⟩ => by subst h2; exact ⟨h1, ⟨xs, by rw [hxs]; rfl, hown, hlies⟩, Ex.refl _ _ _, Ex.refl _ _ _⟩
  · simp only [Value.slice.injEq] at e
    obtain ⟨rfl, _, rfl⟩ := e
    have hgw : g < w.heap.size := (Array.getElem?_eq_some_iff.1 hh).1
    refine (reverseK_any layRev stE stE_len one_stE g 0 rc n xs.toArray w (hown.holds stE_len) hgw (by simpa using hxl) hm cur _ _ hh).mono ?_
    rintro e w' ⟨rfl, hH, hex, cur', hc1, hc2⟩
    have hE : Ex base none w w' := ⟨hex.os, hex.tape, hex.output, hex.size, fun b hb' _ => hex.block b (by omega) (fun e => by have := Option.some.inj e; omega)⟩
    refine ⟨rfl, ⟨xs.reverse, hres, ?_, fun x hx => ?_⟩, hE, hex⟩
    · refine own_of_cells (n := xs.length) stE_len hg hc1 (by rw [List.length_reverse]) hnc hcm (by rw [hc2]; exact hcs) fun j v hj => ?_
      have hl := flatL_len stE_len xs.reverse
      have hjl := (List.getElem?_eq_some_iff.1 hj).1
      rw [hl] at hjl
      have hm1 : j / 13 * 13 + j % 13 = j := Nat.div_add_mod' j 13
      have hq : j / 13 < xs.reverse.length := by omega
      have hc : j % 13 < 13 := Nat.mod_lt _ (by decide)
      have e1 := flatL_get stE_len xs.reverse (j / 13) (j % 13) hq hc
      rw [hm1, hj] at e1
      have hr := holdsK_range stE_len hH (j / 13) (by simpa using hq)
      have e3 : (xs.toArray.reverse)[j / 13]! = xs.reverse[j / 13] := by
        rw [getElem!_pos (xs.toArray.reverse) (j / 13) (by simpa using hq)]
        simp
      rw [e3] at hr
      have := hr (j % 13) v e1.symm
      rw [show 0 + j / 13 * 13 + j % 13 = j by omega] at this
      exact this
    · exact (hlies x (List.mem_reverse.1 hx)).keep fun b hb' hlt => hex.block b hlt (fun e => hb'.2 e.symm)
end Go.Proofs.YtaakacahblndcaaGreat

namespace Go.Proofs.YtaakacahblndcaaGreat
open Go.RowKit Go.Sort Go.Maps
attribute [local go_sem ↓] rowLoad_stv rowStore_stv rowBuild_stv rowLoad_lkv rowStore_lkv

/-- A row of links, all told. -/
theorem links_all {P : Nat → Prop} {w : World} {ao : Option Addr} {ls : List St} (h : SlAt linkRep P w ao ls) :
    ∃ X : List (St × Sv × Sv), X.map (·.1) = ls ∧ (∀ x ∈ X, Lies P w x) ∧ ∀ (i : Nat) (x : St × Sv × Sv), X[i]? = some x → ∃ b off, ao = some ⟨b, off, none⟩ ∧ P b ∧ b < w.heap.size ∧ w.rangeAt b (off + i * 14) (linkE x) := by
  have hc : ∀ i : Fin ls.length, ∃ lp : Sv × Sv, Lies P w (ls[i.1], lp.1, lp.2) ∧ ∃ b off, ao = some ⟨b, off, none⟩ ∧ P b ∧ b < w.heap.size ∧ w.rangeAt b (off + i.1 * 14) (linkE (ls[i.1], lp.1, lp.2)) := fun i => by
    obtain ⟨b, off, x, e, hp, hb, hx, hl, hr⟩ := lkv_get h i.1 i.2
    obtain ⟨s, l, p⟩ := x
    have hs : ls[i.1] = s := by have := hx.out; rw [List.getElem?_eq_getElem i.2] at this; exact Option.some.inj this
    rw [hs]
    exact ⟨(l, p), hl, b, off, e, hp, hb, hr.out⟩
  let f := fun i => Classical.choose (hc i)
  have hf := fun i => Classical.choose_spec (hc i)
  refine ⟨List.ofFn fun i : Fin ls.length => (ls[i.1], (f i).1, (f i).2), ?_, ?_, ?_⟩
  · apply List.ext_getElem
    · simp
    · intro i h1 h2; simp
  · intro x hx
    obtain ⟨i, rfl⟩ := List.mem_ofFn.1 hx
    exact (hf i).1
  · intro i x hx
    obtain ⟨hi, rfl⟩ := List.getElem?_eq_some_iff.1 hx
    have hi' : i < ls.length := by simpa using hi
    rw [List.getElem_ofFn]
    exact (hf ⟨i, hi'⟩).2
theorem Ex.grownP {B : Nat} {p row : Option Nat} {a w w' : World} (h : Ex B p a w) (hg : w.grownBy w' row) (hB : B ≤ w.heap.size) (hr : ∀ k, row = some k → p = some k ∨ B ≤ k) : Ex B p a w' :=
  ⟨hg.os.trans h.os, hg.tape.trans h.tape, hg.output.trans h.output, Nat.le_trans h.size hg.size, fun k hk hne => (hg.block k (by omega) (fun e => by
    rcases hr k e.symm with h1 | h1
    · exact hne h1.symm
    · omega)).trans (h.block k hk hne)⟩
theorem heap_setCell' {w : World} {b o : Nat} {cs : Array Value} {e : TypeId} {fr : Nat × Nat} (h : w.heap[b]? = some (.cells cs e fr)) (v : Value) : (w.setCell ⟨b, o, none⟩ v).heap[b]? = some (.cells (cs.setIfInBounds o v) e fr) := by
  simp [World.setCell, Array.getElem?_modify, h]

theorem heap_setCell_ne {w : World} {b q o : Nat} (v : Value) (h : b ≠ q) : (w.setCell ⟨q, o, none⟩ v).heap[b]? = w.heap[b]? := ((Ex.refl (b + 1) (some q) w).setCell o none v (.inl rfl)).block b (by omega) (fun e => h (Option.some.inj e))
theorem row_frz' {w : World} {g : Nat} {cs : Array Value} {t : TypeId} (h : w.heap[g]? = some (.cells cs t (0, 0))) (o : Nat) : w.frozen? ⟨g, o, none⟩ = false := by
  simp [World.frozen?, h]
theorem heap_putObj_ne {w : World} {b N : Nat} (o : Obj) (h : b ≠ N) : (w.putObj N o).heap[b]? = w.heap[b]? := World.putObj_heap_other (by omega)
theorem Ex.putObj {B : Nat} {p : Option Nat} {a w : World} (h : Ex B p a w) (N : Nat) (o : Obj) (hN : B ≤ N) : Ex B p a (w.putObj N o) :=
  ⟨h.os, h.tape, h.output, by simpa using h.size, fun b hb hne => (World.putObj_heap_other (by omega)).trans (h.block b hb hne)⟩
/-- The two results, and what is taken off the list of the deferred. -/
theorem two_results {W : World} {g N : Nat} {u0 ub0 : Value} (u ub : Value) {t t' : TypeId} {o : Obj} (h6 : W.heap[g]? = some (.cells #[u0] t (0, 0))) (h7 : W.heap[g + 1]? = some (.cells #[ub0] t' (0, 0))) (hN : g + 1 < N) :
    (((W.setCell ⟨g, 0, none⟩ u).setCell ⟨g + 1, 0, none⟩ ub).putObj N o).cell? ⟨g, 0, none⟩ = some u ∧ (((W.setCell ⟨g, 0, none⟩ u).setCell ⟨g + 1, 0, none⟩ ub).putObj N o).cell? ⟨g + 1, 0, none⟩ = some ub := by
  constructor
  · refine box_cell (t := t) ((World.putObj_heap_other (by omega)).trans ((heap_setCell_ne _ (by omega)).trans ?_))
    rw [heap_setCell' h6]; rfl
  · refine box_cell (t := t') ((World.putObj_heap_other (by omega)).trans ?_)
    rw [heap_setCell' ((heap_setCell_ne _ (by omega)).trans h7)]; rfl
theorem sha_size_le (b : List UInt8) : (sha b).size ≤ maxLen := by
  rw [sha_size b]; decide
theorem okB_dig {a : Int} {s : St} (h : okB a s = true) : s.dig.size ≤ maxLen := by
  have h1 := (okB_iff.1 h).2.2
  simp only [sealedB, Bool.and_eq_true, decide_eq_true_eq] at h1
  rw [h1.2]
  exact sha_size_le _
theorem okB_prev {a : Int} {s : St} (h : okB a s = true) : s.prev.size ≤ maxLen := by
  have h1 := (checkI_tame (okB_iff.1 h).2.1).prev
  unfold maxLen; omega
/-- Between two rounds of chain.Branch: what has come lies in the row, none of it has the number 0. -/
def BrI (w5 : World) (go gx : Nat) (pre : List (St × Sv × Sv)) (W : World) : Prop := ∃ ro rc, W.heap[go]? = some (.cells #[.slice ro pre.length rc] 27 (0, 0)) ∧ OwnS W (w5.heap.size + 2) ro rc (pre.map (·.1)) ∧ (∀ y ∈ pre, y.1.number ≠ 0) ∧ w5.heap.size ≤ W.heap.size ∧ (W.os = w5.os ∧ W.tape = w5.tape ∧ W.output = w5.output) ∧ ∀ b, b < w5.heap.size → b ≠ gx → b ≠ go → W.heap[b]? = w5.heap[b]?
/-- Where a round has left: the row is turned and in the results. -/
def BrX (w5 : World) (g6 go gx : Nat) (pre : List (St × Sv × Sv)) (W : World) : Prop := ∃ ro rc n, n = pre.length ∧ W.heap[g6]? = some (.cells #[.slice ro n rc] 27 (0, 0)) ∧ W.heap[g6 + 1]? = some (.cells #[.bool true] 4 (0, 0)) ∧ OwnS W (w5.heap.size + 2) ro rc (pre.map (·.1)).reverse ∧ (∃ p z, pre = p ++ [z] ∧ z.1.number = 0) ∧ w5.heap.size ≤ W.heap.size ∧ (W.os = w5.os ∧ W.tape = w5.tape ∧ W.output = w5.output) ∧ ∀ b, b < w5.heap.size → b ≠ gx → b ≠ go → b ≠ g6 → b ≠ g6 + 1 → W.heap[b]? = w5.heap[b]?
theorem BrI.beside {w5 A B : World} {go gx : Nat} {pre : List (St × Sv × Sv)} (hgo : go < w5.heap.size ∧ go ≠ gx) (hgx : gx < w5.heap.size) (h : BrI w5 go gx pre A) (hb : Beside gx w5.heap.size A B) : BrI w5 go gx pre B := by
  obtain ⟨ro, rc, h1, h2, h3, h4, ⟨h5, h6, h7⟩, h8⟩ := h
  obtain ⟨b1, b2, b3, b4, b5⟩ := hb
  exact ⟨ro, rc, (b5 go (by omega) hgo.2 (by omega) (by omega)).trans h1, h2.keepB fun b hb hlt => b5 b hlt (by omega) (by omega) (by omega), h3, by omega, ⟨b2.trans h5, b3.trans h6, b4.trans h7⟩, fun b hb c1 c2 => (b5 b (by omega) c1 (by omega) (by omega)).trans (h8 b hb c1 c2)⟩
theorem BrX.beside {w5 A B : World} {g6 go gx : Nat} {pre : List (St × Sv × Sv)} (hg6 : g6 + 1 < w5.heap.size ∧ g6 ≠ gx ∧ g6 + 1 ≠ gx) (hgx : gx < w5.heap.size) (h : BrX w5 g6 go gx pre A) (hb : Beside gx w5.heap.size A B) : BrX w5 g6 go gx pre B := by
  obtain ⟨ro, rc, n, hn, h1, h1', h2, h3, h4, ⟨h5, h6, h7⟩, h8⟩ := h
  obtain ⟨b1, b2, b3, b4, b5⟩ := hb
  exact ⟨ro, rc, n, hn, (b5 g6 (by omega) hg6.2.1 (by omega) (by omega)).trans h1, (b5 (g6 + 1) (by omega) hg6.2.2 (by omega) (by omega)).trans h1', h2.keepB fun b hb hlt => b5 b hlt (by omega) (by omega) (by omega), h3, by omega, ⟨b2.trans h5, b3.trans h6, b4.trans h7⟩, fun b hb c1 c2 c3 c4 => (b5 b (by omega) c1 (by omega) (by omega)).trans (h8 b hb c1 c2 c3 c4)⟩
theorem backP_any (mb : Nat) (x : St × Sv × Sv) (w : World) :
    Calls Tryz.prog 139 #[.map (some mb), linkV x] w fun e w' => e = .returned (.func (.func 182) #[] #[.pointer (some ⟨w.heap.size + 1, 0, none⟩), .pointer (some ⟨w.heap.size, 0, none⟩)]) ∧ w' = (w.alloc (.cells #[.map (some mb)] 165)).alloc (.cells (linkV x).cells 169) := by
  go_enter Tryz.func139, Tryz.ntmps139
  go_upto_region 1 with (fail)
  refine wp_world (fun W => W = (w.alloc (.cells #[.map (some mb)] 165)).alloc (.cells (linkV x).cells 169)) rfl (fun W hW => ?_)
  have HW := Lib.hid hW
  clear hW
  go_wp2
  go_ret
  exact ⟨rfl, HW.out⟩
end Go.Proofs.YtaakacahblndcaaGreat

namespace Go.Proofs.YtaakacahblndcaaGreat
open Go.RowKit Go.Sort Go.Maps
attribute [local go_sem] Oper.semAt_some
attribute [local go_sem ↓] rowLoad_stv rowStore_stv rowBuild_stv rowLoad_lkv rowStore_lkv
attribute [local go_sem ↓ high] builtin_appR

/-- The last statement with a digest; the one behind which another stands; from one back. -/
def lookS (ls : List St) (d : ByteArray) : Option St := ls.foldl (fun r x => if x.dig = d then some x else r) none
def beforeS (ls : List St) (x : St) : Option St := (lookS ls x.prev).filter fun y => followsL y x
def backS (ls : List St) : Nat → St → List St
  | 0, _ => []
  | f + 1, x => x :: (match beforeS ls x with
    | none => []
    | some y => backS ls f y)
/-- The row that ends with a digest. -/
def branchS (ls : List St) (d : ByteArray) : Option (List St) := (lookS ls d).bind fun x =>
  if (backS ls 201 x).any (fun y => decide (y.number = 0)) then some (backS ls 201 x).reverse else none
theorem lookX_map (X : List (St × Sv × Sv)) (d : ByteArray) : (lookX X d).map (·.1) = lookS (X.map (·.1)) d := by
  induction X using snoc_ind with
  | nil => rfl
  | snoc X x ih =>
    rw [List.map_append, List.map_singleton, lookX_snoc]
    unfold lookS
    rw [List.foldl_append]
    simp only [List.foldl_cons, List.foldl_nil]
    by_cases h : x.1.dig = d
    · rw [if_pos h, if_pos h]; rfl
    · rw [if_neg h, if_neg h, ih]; rfl
theorem beforeX_map (X : List (St × Sv × Sv)) (x : St × Sv × Sv) : (beforeX X x).map (·.1) = beforeS (X.map (·.1)) x.1 := by
  unfold beforeX beforeS
  rw [← lookX_map]
  cases lookX X x.1.prev with
  | none => rfl
  | some y => cases h : followsL y.1 x.1 <;> simp [Option.filter, h]
theorem backX_map (X : List (St × Sv × Sv)) : ∀ (f : Nat) (x : St × Sv × Sv), (backX X f x).map (·.1) = backS (X.map (·.1)) f x.1
  | 0, _ => rfl
  | f + 1, x => by
    have h := beforeX_map X x
    cases hb : beforeX X x with
    | none =>
      rw [hb] at h
      rw [backX_none hb]
      unfold backS
      rw [← h]; rfl
    | some y =>
      rw [hb] at h
      rw [backX_some hb]
      unfold backS
      rw [← h, List.map_cons, backX_map X f y]; rfl
/-- Behind a statement with the number 0 nothing comes. -/
theorem backX_zero {X : List (St × Sv × Sv)} (hX : ∀ x ∈ X, 0 ≤ x.1.number) : ∀ (f : Nat) (x : St × Sv × Sv) (pre rest : List (St × Sv × Sv)) (z : St × Sv × Sv), backX X f x = pre ++ [z] ++ rest → z.1.number = 0 → rest = []
  | 0, _, pre, rest, z, h, _ => by simp [backX] at h
  | f + 1, x, pre, rest, z, h, hz => by
    cases hb : beforeX X x with
    | none =>
      rw [backX_none hb] at h
      have := congrArg List.length h
      simp at this
      exact List.eq_nil_of_length_eq_zero (by omega)
    | some y =>
      rw [backX_some hb] at h
      cases pre with
      | nil =>
        simp only [List.nil_append, List.cons_append, List.cons.injEq] at h
        obtain ⟨rfl, h⟩ := h
        exfalso
        unfold beforeX at hb
        cases hl : lookX X x.1.prev with
        | none => rw [hl] at hb; cases hb
        | some y' =>
          rw [hl] at hb
          have hm := (lookX_mem hl).1
          simp only [Option.filter] at hb
          split at hb
          · next hf =>
            have := (followsL_iff.1 hf).2.1
            have := hX y' hm
            omega
          · cases hb
      | cons p pre =>
        simp only [List.cons_append, List.cons.injEq] at h
        exact backX_zero hX f y pre rest z h.2 hz
/-- What chain.Branch answers, the bool as a value. -/
def BranchV (w' : World) (base : Nat) (ls : List St) (d : ByteArray) (u ub : Value) : Prop := (branchS ls d = none ∧ u = .slice none 0 0 ∧ ub = .bool false) ∨ (∃ r ro rc n, branchS ls d = some r ∧ n = r.length ∧ u = .slice ro n rc ∧ ub = .bool true ∧ OwnS w' base ro rc r)

set_option maxHeartbeats 16000000 in
set_option maxRecDepth 100000 in
theorem branchP_any {P : Nat → Prop} (a : Int) (v : Value) (l : List St) (d : ByteArray) (w : World) (hv : Sl stRep P w v l) (hm : l.length ≤ 100000) (hL : LightL 9223372036854775807 l) (hd : d.size ≤ maxLen) :
    Calls Tryz.prog 94 #[.int .i64 a, v, .string d] w fun e w' => ∃ ls u ub, LinksR a l ls ∧ e = .returned (.tuple #[u, ub]) ∧ BranchV w' w.heap.size ls d u ub ∧ Ex w.heap.size none w w' := by
  have HV := Lib.hid hv
  have HLL := Lib.hid hL
  have HD := Lib.hid hd
  have hmm := @run_makeMap Tryz.prog
  obtain ⟨w0, hw0⟩ : ∃ w0 : World, w0 = ((w.alloc (.cells #[.slice none 0 0] 27)).alloc (.cells #[.bool false] 4)).alloc (.map #[] 0) := ⟨_, rfl⟩
  have hz0 : w0.heap.size = w.heap.size + 1 + 1 + 1 := by rw [hw0]; simp
  have HE0 : Hid (Ex w.heap.size none w w0) := Lib.hid (by rw [hw0]; exact ((Ex.new w _).alloc (by simp) _).alloc (by simp; omega) _)
  have HB0 : Hid (w0.heap[w.heap.size]? = some (.cells #[.slice none 0 0] 27 (0, 0)) ∧ w0.heap[w.heap.size + 1]? = some (.cells #[.bool false] 4 (0, 0)) ∧ w0.ownsMap Tryz.prog 9 valElem (w.heap.size + 1 + 1) 0 (mapV [])) := Lib.hid (by
    rw [hw0]
    have e1 := heap_alloc_new w (.cells #[.slice none 0 0] 27)
    have e2 := heap_alloc_new (w.alloc (.cells #[.slice none 0 0] 27)) (.cells #[.bool false] 4)
    have f1 := (Ex.new (w.alloc (.cells #[.slice none 0 0] 27)) (.cells #[.bool false] 4)).block w.heap.size (by simp) (by simp)
    have f2 := fun b hb => (Ex.new ((w.alloc (.cells #[.slice none 0 0] 27)).alloc (.cells #[.bool false] 4)) (.map #[] 0)).block b hb (by simp)
    have e3 := World.ownsMap_made ((w.alloc (.cells #[.slice none 0 0] 27)).alloc (.cells #[.bool false] 4)) Tryz.prog 9 valElem
    simp only [World.size_alloc] at e2 f2 e3
    exact ⟨(f2 _ (by omega)).trans (f1.trans e1), (f2 _ (by omega)).trans e2, e3⟩)
  clear hv hL hd
  refine (callsIn_wide (n := 3)).1 (callsIn_of_wp_marks Tryz.func94 rfl trivial (wpIn_wide.2 ?_))
  simp only [Tryz.ntmps94, List.size_toArray, List.length_cons, List.length_nil, Nat.reduceAdd, Nat.reduceSub, Array.replicate_succ, Array.replicate_zero, List.push_toArray, List.append_toArray, List.nil_append, List.cons_append]
  go_upto_region 2 with (fail)
  rw [← hw0]
  clear hmm hw0
  go_wp2_with (first
    | (go_at_call 138
       refine (links_any (P := fun b => b < w.heap.size) v l a w0 ((HV.out.mono (by decide) fun b _ hb => hb).keep (by decide) fun b hb' hb => HE0.out.block b hb' (by simp)) hm HLL.out).mono ?_
       rintro e w1 ⟨u, ls, rfl, hls, hsl, hln, hex⟩
       obtain ⟨ao, cap, rfl, hsl⟩ := hsl
       obtain ⟨X, hX1, hX2, hX3⟩ := links_all hsl
       obtain ⟨m, hm0⟩ : ∃ m, m = ls.length := ⟨_, rfl⟩
       rw [← hm0]
       have HM : Hid (X.length = m) := Lib.hid (by rw [hm0, ← hX1]; simp)
       have HLS := Lib.hid hls
       have HX1 := Lib.hid hX1
       have HX2 := Lib.hid hX2
       have HX3 := Lib.hid hX3
       have HE1 := Lib.hid hex
       have hz1 : w0.heap.size ≤ w1.heap.size := hex.size
       have hm5 : m ≤ 100000 := by omega
       clear hls hsl hex hm0 hln hX1 hX2 hX3)
    | fail)
  have HOKX : Hid (∀ x ∈ X, okB a x.1 = true) := Lib.hid (fun x hx => LinksR.ok HLS.out x.1 (by rw [← HX1.out]; exact List.mem_map.2 ⟨x, hx, rfl⟩))
  go_loopw [20] (fun i wr => ∃ (k : Nat), k ≤ m ∧ i = .int .i64 k ∧ Hid (wr.ownsMap Tryz.prog 9 valElem (w.heap.size + 1 + 1) k (mapV ((X.take k).map storeL))) ∧ Ex w1.heap.size (some (w.heap.size + 1 + 1)) w1 wr) (fun i _ => m - (intOf i).toNat)
  case atStart => exact ⟨0, by omega, rfl, Lib.hid (by rw [List.take_zero]; exact ownsMap_same HB0.out.2.2 (HE1.out.block _ (by omega) (by simp))), Ex.refl _ _ _⟩
  case round =>
    obtain ⟨k, hk, rfl, HMP, hex0⟩ := hrel
    have hsz0 := hex0.size
    have HER := Lib.hid hex0
    clear hex0
    by_cases hlt : k < m
    · have hltI : (k : Int) < (m : Int) := by omega
      obtain ⟨x, hxk⟩ : ∃ x, X[k]? = some x := ⟨_, List.getElem?_eq_getElem (by rw [HM.out]; exact hlt)⟩
      obtain ⟨b, off, hao, hPb, hbl, hr⟩ := HX3.out k x hxk
      have HXK := Lib.hid hxk
      subst hao
      have hbne : b ≠ w.heap.size + 1 + 1 := by omega
      have hld := linkV_load (rangeAt_keep hr (HER.out.block b hbl (fun e => hbne (Option.some.inj e))))
      have hnew := linkV_new wr #[.int .i64 0, .int .i64 0, .string ⟨#[]⟩, .int .i64 0, .int .i64 0, .int .i64 0, .int .i64 0, .int .i64 0, .slice none 0 0, .slice none 0 0, .string ⟨#[]⟩, .int .i64 0, .string ⟨#[]⟩, .string ⟨#[]⟩] x rfl
      clear hr hxk
      go_upto_region 5 with (fail)
      refine wp_world (fun W => W = wr.alloc (.cells (linkV x).cells 169)) rfl (fun ws hws => ?_)
      have HEs : Hid (Ex wr.heap.size none wr ws) := Lib.hid (by rw [hws]; exact Ex.new wr _)
      have hzs : ws.heap.size = wr.heap.size + 1 := by rw [hws]; simp
      have HBs : Hid (ws.heap[wr.heap.size]? = some (.cells (linkV x).cells 169 (0, 0))) := Lib.hid (by rw [hws]; exact heap_alloc_new wr _)
      have HMs : Hid (ws.ownsMap Tryz.prog 9 valElem (w.heap.size + 1 + 1) k (mapV ((X.take k).map storeL))) := Lib.hid (ownsMap_same HMP.out (HEs.out.block _ (by omega) (by simp)))
      have hc := (linkV_cells5 HBs.out).2.2.2.2
      have hlb := linkV_box HBs.out
      have HDG : Hid (x.1.dig.size ≤ maxLen) := Lib.hid (okB_dig (HOKX.out x (List.mem_of_getElem? HXK.out)))
      clear hld hnew hws
      go_wp2_with (at_mapUpdate; refine wpList_mapUpdate_own _ rfl _ _ _ _ rfl 9 169 (string_keyed Tryz.underlying9) Tryz.underlying165 valElem (w.heap.size + 1 + 1) k _ (by rfl) HMs.out (by unfold maxLen; omega) _ _ (keyS x.1.dig) (by rfl) (by rfl) (WideMaps.keyOf_string_mk Tryz.underlying9 HDG.out) (.held (linkV x)) [] rfl ?_; intro w5 hown5 hgrow5)
      have H5 : Hid (w5.ownsMap Tryz.prog 9 valElem (w.heap.size + 1 + 1) (k + 1) (mapV ((X.take (k + 1)).map storeL)) ∧ Ex w1.heap.size (some (w.heap.size + 1 + 1)) w1 w5) := Lib.hid ⟨by
        have e : X.take (k + 1) = X.take k ++ [x] := by rw [List.take_add_one, HXK.out]; rfl
        rw [e, List.map_append, List.map_singleton, mapV_snoc]; exact hown5, (HER.out.trans HEs.out hsz0 (by simp)).grownP hgrow5 (by omega) (fun q e => .inl e)⟩
      clear hown5 hgrow5
      go_roundw
      case rel => exact ⟨k + 1, by omega, by go_num, Lib.hid H5.out.1, H5.out.2⟩
      case measure => simp [intOf] <;> omega
    · obtain rfl : k = m := by omega
      have HMX : Hid (wr.ownsMap Tryz.prog 9 valElem (w.heap.size + 1 + 1) k (mapV (X.map storeL))) := Lib.hid (by have h := HMP.out; rwa [List.take_of_length_le (by rw [HM.out]; exact Nat.le_refl _)] at h)
      have hszr : w0.heap.size ≤ wr.heap.size := by omega
      have HEW : Hid (Ex w.heap.size none w wr) := Lib.hid ((HE0.out.trans HE1.out (by omega) (by simp)).trans HER.out (by omega) (by simp; omega))
      have HC : Hid (∀ w', Ex wr.heap.size none wr w' → w'.heap[w.heap.size]? = some (.cells #[.slice none 0 0] 27 (0, 0)) ∧ w'.heap[w.heap.size + 1]? = some (.cells #[.bool false] 4 (0, 0)) ∧ w'.heap[w.heap.size + 1 + 1]? = wr.heap[w.heap.size + 1 + 1]?) := Lib.hid (fun w' h => ⟨(h.block _ (by omega) (by simp)).trans ((HER.out.block _ (by omega) (fun e => by have := Option.some.inj e; omega)).trans ((HE1.out.block _ (by omega) (by simp)).trans HB0.out.1)), (h.block _ (by omega) (by simp)).trans ((HER.out.block _ (by omega) (fun e => by have := Option.some.inj e; omega)).trans ((HE1.out.block _ (by omega) (by simp)).trans HB0.out.2.1)), h.block _ (by omega) (by simp)⟩)
      have HLX : Hid (∀ w', Ex wr.heap.size none wr w' → ∀ x ∈ X, Lies (fun b => b < w.heap.size ∨ w0.heap.size ≤ b) w' x) := Lib.hid (fun w' h x hx => (HX2.out x hx).keep fun b hP hb => (h.block b (by omega) (by simp)).trans (HER.out.block b hb (fun e => by have := Option.some.inj e; omega)))
      cases hlk : lookX X d with
      | none =>
        have HLK : Hid (lastV (X.map storeL) (keyS d) = none) := Lib.hid (by rw [lastV_look, hlk]; rfl)
        have HBV : Hid (branchS ls d = none) := Lib.hid (by unfold branchS; rw [← HX1.out, ← lookX_map, hlk]; rfl)
        have hnew := linkV_new wr #[.int .i64 0, .int .i64 0, .string ⟨#[]⟩, .int .i64 0, .int .i64 0, .int .i64 0, .int .i64 0, .int .i64 0, .slice none 0 0, .slice none 0 0, .string ⟨#[]⟩, .int .i64 0, .string ⟨#[]⟩, .string ⟨#[]⟩] zeroLk rfl
        clear hlk
        go_upto_region 8 with (at_lookup; refine wpList_lookV _ rfl _ _ _ (by rfl) 9 169 (string_keyed Tryz.underlying9) Tryz.underlying165 (linkV zeroLk) (zeroLk_val _) (w.heap.size + 1 + 1) k (X.map storeL) (by rfl) HMX.out _ (keyS d) (by rfl) (WideMaps.keyOf_string_mk Tryz.underlying9 HD.out) trivial (linkV zeroLk) false (by rw [HLK.out]; rfl) (by rw [HLK.out]; rfl) ?_)
        refine wp_world (fun W => W = wr.alloc (.cells (linkV zeroLk).cells 169)) rfl (fun w3 hw3 => ?_)
        have HE3 : Hid (Ex wr.heap.size none wr w3) := Lib.hid (by rw [hw3]; exact Ex.new wr _)
        obtain ⟨k6, k7, _⟩ := HC.out w3 HE3.out
        have c6 := box_cell k6
        have c7 := box_cell k7
        have z6 := row_frz' k6 0
        have z7 := row_frz' k7 0
        clear hnew hw3 k6 k7
        go_wp2
        refine ⟨.tuple #[.slice none 0 0, .bool false], by simp [results, Tryz.results94, go_sem, c6, c7], ?_⟩
        exact ⟨ls, _, _, HLS.out, rfl, .inl ⟨HBV.out, rfl, rfl⟩, (((HEW.out.trans HE3.out (by omega) (by simp)).setCell _ none _ (.inr (Nat.le_refl _))).setCell _ none _ (.inr (by omega)))⟩
      | some x0 =>
        have HLK : Hid (lastV (X.map storeL) (keyS d) = some (linkV x0)) := Lib.hid (by rw [lastV_look, hlk]; rfl)
        have hx0 := (lookX_mem hlk).1
        have HLK2 := Lib.hid hlk
        have hnew := linkV_new wr #[.int .i64 0, .int .i64 0, .string ⟨#[]⟩, .int .i64 0, .int .i64 0, .int .i64 0, .int .i64 0, .int .i64 0, .slice none 0 0, .slice none 0 0, .string ⟨#[]⟩, .int .i64 0, .string ⟨#[]⟩, .string ⟨#[]⟩] x0 rfl
        clear hlk
        go_upto_region 8 with (at_lookup; refine wpList_lookV _ rfl _ _ _ (by rfl) 9 169 (string_keyed Tryz.underlying9) Tryz.underlying165 (linkV zeroLk) (zeroLk_val _) (w.heap.size + 1 + 1) k (X.map storeL) (by rfl) HMX.out _ (keyS d) (by rfl) (WideMaps.keyOf_string_mk Tryz.underlying9 HD.out) trivial (linkV x0) true (by rw [HLK.out]; rfl) (by rw [HLK.out]; rfl) ?_)
        refine wp_world (fun W => W = wr.alloc (.cells (linkV x0).cells 169)) rfl (fun w3 hw3 => ?_)
        have HE3 : Hid (Ex wr.heap.size none wr w3) := Lib.hid (by rw [hw3]; exact Ex.new wr _)
        have hz3 : w3.heap.size = wr.heap.size + 1 := by rw [hw3]; simp
        have HB3 : Hid (w3.heap[wr.heap.size]? = some (.cells (linkV x0).cells 169 (0, 0))) := Lib.hid (by rw [hw3]; exact heap_alloc_new wr _)
        have r3 := linkV_box HB3.out
        clear hnew hw3
        obtain ⟨w4, hw4⟩ : ∃ w4 : World, w4 = w3.alloc (.cells #[.slice none 0 0] 27) := ⟨_, rfl⟩
        have HE4 : Hid (Ex wr.heap.size none wr w4) := Lib.hid (HE3.out.trans (by rw [hw4]; exact Ex.new w3 _) (by omega) (by simp))
        have hz4 : w4.heap.size = w3.heap.size + 1 := by rw [hw4]; simp
        have HG4 : Hid (w4.heap[w3.heap.size]? = some (.cells #[.slice none 0 0] 27 (0, 0))) := Lib.hid (by rw [hw4]; exact heap_alloc_new w3 _)
        have r4 := linkV_box (show w4.heap[wr.heap.size]? = some (.cells (linkV x0).cells 169 (0, 0)) by rw [hw4]; exact ((Ex.new w3 _).block _ (by omega) (by simp)).trans HB3.out)
        go_upto_region 11 with (fail)
        rw [← hw4]
        clear hw4 r3
        go_wp2_with (first
          | (go_at_call 139
             refine (backP_any _ x0 w4).mono ?_
             rintro e w5 ⟨rfl, hw5⟩
             have HW5 := Lib.hid hw5
             clear hw5)
          | fail)
        have HE5 : Hid (Ex wr.heap.size none wr w5) := Lib.hid (by rw [HW5.out]; exact ((HE4.out.trans (Ex.new w4 _) (by omega) (by simp)).alloc (by simp; omega) _))
        have hz5 : w5.heap.size = wr.heap.size + 1 + 1 + 1 + 1 := by rw [HW5.out]; simp; omega
        have HG5 : Hid (w5.heap[wr.heap.size + 1]? = some (.cells #[.slice none 0 0] 27 (0, 0)) ∧ w5.cell? ⟨wr.heap.size + 1 + 1, 0, none⟩ = some (.map (some (w.heap.size + 1 + 1))) ∧ w5.heap[wr.heap.size + 1 + 1 + 1]? = some (.cells (linkV x0).cells 169 (0, 0))) := Lib.hid (by
          have e1 := heap_alloc_new w4 (.cells #[.map (some (w.heap.size + 1 + 1))] 165)
          have e2 := heap_alloc_new (w4.alloc (.cells #[.map (some (w.heap.size + 1 + 1))] 165)) (.cells (linkV x0).cells 169)
          have f2 := fun b hb => (Ex.new (w4.alloc (.cells #[.map (some (w.heap.size + 1 + 1))] 165)) (.cells (linkV x0).cells 169)).block b hb (by simp)
          have f1 := fun b hb => (Ex.new w4 (.cells #[.map (some (w.heap.size + 1 + 1))] 165)).block b hb (by simp)
          have hg4 := HG4.out
          simp only [World.size_alloc] at e2 f2
          rw [hz4, hz3] at e1 e2 f2 f1
          rw [hz3] at hg4
          rw [HW5.out]
          exact ⟨(f2 _ (by omega)).trans ((f1 _ (by omega)).trans hg4), box_cell ((f2 _ (by omega)).trans e1), e2⟩)
        have HM5 : Hid (w5.ownsMap Tryz.prog 9 valElem (w.heap.size + 1 + 1) k (mapV (X.map storeL))) := Lib.hid (ownsMap_same HMX.out (HE5.out.block _ (by omega) (by simp)))
        have HXN : Hid (∀ x ∈ X, (0 ≤ x.1.number ∧ x.1.number ≤ 200) ∧ x.1.prev.size ≤ maxLen) := Lib.hid (fun x hx => ⟨numB_le (okB_iff.1 (HOKX.out x hx)).2.1, okB_prev (HOKX.out x hx)⟩)
        refine (wpIn_wide (n := 3)).1 (wpIn_rangeBack w5.heap.size (wr.heap.size + 1 + 1 + 1) (wr.heap.size + 1 + 1) (w.heap.size + 1 + 1) k (wr.heap.size + 1) X x0 rfl HXN.out hx0 (by omega) (by omega) (by omega) (by omega) HG5.out.2.2 HG5.out.2.1 HM5.out rfl
          (BrI w5 (wr.heap.size + 1) (wr.heap.size + 1 + 1 + 1)) (BrX w5 w.heap.size (wr.heap.size + 1) (wr.heap.size + 1 + 1 + 1))
          (fun pre A B h hb => h.beside (by omega) (by omega) hb) (fun pre A B h hb => h.beside (by omega) (by omega) hb)
          ⟨none, 0, HG5.out.1, OwnS.nil _ _, (fun y hy => by cases hy), Nat.le_refl _, ⟨rfl, rfl, rfl⟩, fun _ _ _ _ => rfl⟩ ?act ?assign ?body ?done ?stop)
        case assign =>
          intro l x W K gb hgb hK
          have hnew := linkV_new W #[.int .i64 0, .int .i64 0, .string ⟨#[]⟩, .int .i64 0, .int .i64 0, .int .i64 0, .int .i64 0, .int .i64 0, .slice none 0 0, .slice none 0 0, .string ⟨#[]⟩, .int .i64 0, .string ⟨#[]⟩, .string ⟨#[]⟩] x rfl
          obtain ⟨W', hW'⟩ : ∃ W', W' = W.alloc (.cells (linkV x).cells 169) := ⟨_, rfl⟩
          rw [← hW'] at hnew hK
          clear hW'
          gi_wp2
          rw [← hgb]
          exact hK
        case body =>
          rintro pre x W gb ⟨ro, rc, hgoW, hown, hnz, hszW, ⟨hos, hta, hou⟩, hkeep⟩ hxm hpl hgb hNgb hltgb
          obtain ⟨np, hnp⟩ : ∃ np, np = pre.length := ⟨_, rfl⟩
          rw [← hnp] at hgoW hpl
          have HNP := Lib.hid hnp
          have HOW := Lib.hid hown
          have HGO := Lib.hid hgoW
          have HGB := Lib.hid hgb
          have HKP := Lib.hid hkeep
          have HOS : Hid (W.os = w5.os ∧ W.tape = w5.tape ∧ W.output = w5.output) := Lib.hid ⟨hos, hta, hou⟩
          have HNZ := Lib.hid hnz
          have HLW : Hid (Lies (fun b => b < wr.heap.size) W x) := Lib.hid (((HLX.out wr (Ex.refl _ _ _) x hxm).mono (P' := fun b => b < wr.heap.size) fun b _ hb => hb).keep fun b hb _ => (hkeep b (by omega) (by omega) (by omega)).trans (HE5.out.block b hb (by simp)))
          have HTX := Lib.hid (checkI_tame (okB_iff.1 (HOKX.out x hxm)).2.1)
          have HCP : Hid (∀ w', Ex W.heap.size none W w' → Calls Tryz.prog 140 #[stV x] w' fun e w'' => ∃ y, e = .returned (stV y) ∧ y.1 = x.1 ∧ Lies (fun b => w'.heap.size ≤ b) w'' y ∧ Ex w'.heap.size none w' w'') := Lib.hid (fun w' h => copied_v x w' (HLW.out.keep fun b _ hb => h.block b hb (by simp)) (by have h1 := HTX.out.list; have h2 := HTX.out.pins; omega))
          have HQW : Hid (∀ w', Ex W.heap.size none W w' → w'.cell? ⟨wr.heap.size + 1, 0, none⟩ = some (.slice ro np rc) ∧ w'.frozen? ⟨wr.heap.size + 1, 0, none⟩ = false ∧ (rowLoad 37 ⟨gb, 0, none⟩).run Tryz.prog w' = .ok (stV x) w' ∧ w'.cell? ⟨gb, 1, none⟩ = some (.int .i64 x.1.number)) := Lib.hid (fun w' h => by
            have k1 := (h.block (wr.heap.size + 1) (by omega) (by simp)).trans HGO.out
            have k2 := (h.block gb hltgb (by simp)).trans HGB.out
            exact ⟨box_cell k1, row_frz' k1 0, linkV_st k2, (linkV_cells5 k2).2.1⟩)
          obtain ⟨c13, z13, rst, cnm⟩ := HQW.out W (Ex.refl _ _ _)
          clear hnp hown hgoW hgb hkeep hnz hos hta hou r4
          gi_wp2_with (fail)
          have hmx : Tryz.prog.follows .mixedOrders = true := by kernel_rfl
          obtain ⟨d13, dz13, drst, dnm⟩ := HQW.out W.drew (Ex.refl _ _ _).drew
          gi_region_with_o (first
            | (refine ⟨trivial, rfl, ?_⟩
               refine (CallsIn.inRound _ (callsIn_wide.2 (HCP.out _ (by first | exact Ex.refl _ _ _ | exact (Ex.refl _ _ _).drew)))).mono ?_
               rintro e w8 ⟨y, rfl, hyx, hly, hex⟩
               have HE8 : Hid (Ex W.heap.size none W w8) := Lib.hid ((Ex.refl _ _ _).drew.trans hex (by simp) (by simp))
               have hz8 : W.heap.size ≤ w8.heap.size := HE8.out.size
               obtain ⟨e13, ez13, erst, enm⟩ := HQW.out w8 HE8.out
               have hlit := stV_lit w8 y
               obtain ⟨w9, hw9⟩ : ∃ w9 : World, w9 = w8.alloc (.cells (stV y).cells 37) := ⟨_, rfl⟩
               rw [← hw9] at hlit
               have HE9 : Hid (Ex W.heap.size none W w9) := Lib.hid (HE8.out.trans (by rw [hw9]; exact Ex.new w8 _) hz8 (by simp))
               have hz9 : w9.heap.size = w8.heap.size + 1 := by rw [hw9]; simp
               have HB9 : Hid (w9.heap[w8.heap.size]? = some (.cells (stV y).cells 37 (0, 0))) := Lib.hid (by rw [hw9]; exact heap_alloc_new w8 _)
               obtain ⟨i13, iz13, irst, inm⟩ := HQW.out w9 HE9.out
               obtain ⟨ro', rc', w10, happ, hown', hex10, hot10⟩ := run_appSt (w := w9) (w5.heap.size + 2) (w5.heap.size + 2) ro rc np (pre.map (·.1)) (by rw [List.length_map]; exact HNP.out.symm) w8.heap.size y ((HOW.out.keep HE9.out (Nat.le_refl _)).t) HB9.out
                 (((hly.mono fun b hb hlt => (⟨hb, hlt⟩ : W.heap.size ≤ b ∧ b < w8.heap.size)).keep fun b hb _ => by rw [hw9]; exact (Ex.new w8 _).block b hb.2 (by simp)).mono fun b hb _ => ⟨by omega, fun e => by have h := OwnT.row HOW.out.t b e; omega⟩) (by omega) (by omega)
               have HE10 : Hid (Ex (w5.heap.size + 2) none W w10) := Lib.hid ((HE9.out.mono (by omega)).trans hex10 (Nat.le_refl _) (by simp))
               have HO10 := Lib.hid hown'
               have h10a : w10.cell? ⟨wr.heap.size + 1, 0, none⟩ = some (.slice ro np rc) := box_cell ((HE10.out.block (wr.heap.size + 1) (by omega) (by simp)).trans HGO.out)
               have h10b : w10.frozen? ⟨wr.heap.size + 1, 0, none⟩ = false := row_frz' ((HE10.out.block (wr.heap.size + 1) (by omega) (by simp)).trans HGO.out) 0
               have HG10 : Hid (w10.heap[wr.heap.size + 1]? = some (.cells #[.slice ro np rc] 27 (0, 0))) := Lib.hid ((HE10.out.block (wr.heap.size + 1) (by omega) (by simp)).trans HGO.out)
               have hgb9 : w9.heap[gb]? = some (.cells (linkV x).cells 169 (0, 0)) := (HE9.out.block gb hltgb (by simp)).trans HGB.out
               have HGB10 : Hid (w10.heap[gb]? = some (.cells (linkV x).cells 169 (0, 0))) := Lib.hid ((hot10 gb (by omega) (OwnS.other (HOW.out.keep HE9.out (Nat.le_refl _)) hgb9 (by decide))).trans hgb9)
               have HYX := Lib.hid hyx
               clear hyx hly hex hw9 hex10 hown' hot10 hgb9)
            | fail)
          all_goals
            obtain ⟨w11, hw11⟩ : ∃ w11 : World, w11 = w10.setCell ⟨wr.heap.size + 1, 0, none⟩ (.slice ro' (np + 1) rc') := ⟨_, rfl⟩
            rw [← hw11]
            have HE11 : Hid (Ex (w5.heap.size + 2) (some (wr.heap.size + 1)) W w11) := Lib.hid (by rw [hw11]; exact (HE10.out.weaken _).setCell _ _ _ (.inl rfl))
            have HG11 : Hid (w11.heap[wr.heap.size + 1]? = some (.cells #[.slice ro' (np + 1) rc'] 27 (0, 0))) := Lib.hid (by rw [hw11, heap_setCell' HG10.out]; rfl)
            have hoth11 : ∀ b, b ≠ wr.heap.size + 1 → w11.heap[b]? = w10.heap[b]? := fun b hb => by rw [hw11]; exact ((Ex.refl (b + 1) (some (wr.heap.size + 1)) w10).setCell _ none _ (.inl rfl)).block b (by omega) (fun e => hb (Option.some.inj e))
            have HO11 : Hid (OwnS w11 (w5.heap.size + 2) ro' rc' ((pre ++ [x]).map (·.1))) := Lib.hid (by
              have h := (OwnT.s HO10.out (Nat.le_refl _)).keepB (w' := w11) fun b hb _ => hoth11 b (by omega)
              rw [HYX.out] at h
              rw [List.map_append]; exact h)
            have n11 : w11.cell? ⟨gb, 1, none⟩ = some (.int .i64 x.1.number) := (linkV_cells5 ((hoth11 gb (by omega)).trans HGB10.out)).2.1
            have c11 := box_cell HG11.out
            have hz11 : W.heap.size ≤ w11.heap.size := HE11.out.size
            have HOS11 : Hid (w11.os = w5.os ∧ w11.tape = w5.tape ∧ w11.output = w5.output) := Lib.hid ⟨HE11.out.os.trans HOS.out.1, HE11.out.tape.trans HOS.out.2.1, HE11.out.output.trans HOS.out.2.2⟩
            have HKP11 : Hid (∀ b, b < w5.heap.size → b ≠ wr.heap.size + 1 + 1 + 1 → b ≠ wr.heap.size + 1 → w11.heap[b]? = w5.heap[b]?) := Lib.hid fun b h1 h2 h3 => (HE11.out.block b (by omega) (fun e => h3 (Option.some.inj e))).trans (HKP.out b h1 h2 h3)
            clear hw11 hoth11
            by_cases h0 : x.1.number = 0
            · obtain ⟨k6, k7, -⟩ := HC.out w5 HE5.out
              have HK6 : Hid (w11.heap[w.heap.size]? = some (.cells #[.slice none 0 0] 27 (0, 0)) ∧ w11.heap[w.heap.size + 1]? = some (.cells #[.bool false] 4 (0, 0))) := Lib.hid ⟨(HKP11.out _ (by omega) (by omega) (by omega)).trans k6, (HKP11.out _ (by omega) (by omega) (by omega)).trans k7⟩
              clear k6 k7
              gi_wp2_with (first
                | (first | refine ⟨trivial, rfl, ?_⟩ | (refine ⟨trivial, ?_⟩; gi_at_call 141) | gi_at_call 141
                   refine (CallsIn.inRound _ (callsIn_wide.2 (reverse_own (w5.heap.size + 2) (np + 1) rc' ro' _ w11 HO11.out (by rw [List.length_map, List.length_append, ← HNP.out]; rfl) (by omega) (by omega)))).mono ?_
                   rintro e w12 ⟨rfl, hO12, hE12, -⟩
                   have HO12 := Lib.hid hO12
                   have HE12 := Lib.hid hE12
                   have c12 := box_cell ((HE12.out.block (wr.heap.size + 1) (by omega) (by simp)).trans HG11.out)
                   have HB6 : Hid (w12.heap[w.heap.size]? = some (.cells #[.slice none 0 0] 27 (0, 0)) ∧ w12.heap[w.heap.size + 1]? = some (.cells #[.bool false] 4 (0, 0))) := Lib.hid ⟨(HE12.out.block _ (by omega) (by simp)).trans HK6.out.1, (HE12.out.block _ (by omega) (by simp)).trans HK6.out.2⟩
                   have c6 := box_cell HB6.out.1
                   have c7 := box_cell HB6.out.2
                   have z6 := row_frz' HB6.out.1 0
                   have z7 := row_frz' HB6.out.2 0
                   clear hO12 hE12)
                | fail)
              have hoth : ∀ b, b ≠ w.heap.size → b ≠ w.heap.size + 1 → ((w12.setCell ⟨w.heap.size, 0, none⟩ (.slice ro' (np + 1) rc')).setCell ⟨w.heap.size + 1, 0, none⟩ (.bool true)).heap[b]? = w12.heap[b]? := fun b h1 h2 => (heap_setCell_ne _ h2).trans (heap_setCell_ne _ h1)
              have hblk : ∀ b, b < w5.heap.size + 2 → b ≠ w.heap.size → b ≠ w.heap.size + 1 → b ≠ wr.heap.size + 1 → ((w12.setCell ⟨w.heap.size, 0, none⟩ (.slice ro' (np + 1) rc')).setCell ⟨w.heap.size + 1, 0, none⟩ (.bool true)).heap[b]? = W.heap[b]? := fun b h1 h2 h3 h4 => (hoth b h2 h3).trans ((HE12.out.block b (by omega) (by simp)).trans (HE11.out.block b (by omega) (fun e => h4 (Option.some.inj e))))
              refine ⟨⟨hblk _ (by omega) (by omega) (by omega) (by omega), hblk _ (by omega) (by omega) (by omega) (by omega)⟩, ro', rc', np + 1, by rw [List.length_append, ← HNP.out]; rfl, ?_, ?_, ?_, ⟨pre, x, rfl, h0⟩, ?_, ?_, ?_⟩
              · exact (heap_setCell_ne _ (by omega)).trans (by rw [heap_setCell' HB6.out.1]; rfl)
              · rw [heap_setCell' ((heap_setCell_ne _ (by omega)).trans HB6.out.2)]; rfl
              · exact HO12.out.keepB fun b hb _ => hoth b (by omega) (by omega)
              · have := HE12.out.size
                simp only [World.size_setCell]
                omega
              · exact ⟨HE12.out.os.trans HOS11.out.1, HE12.out.tape.trans HOS11.out.2.1, HE12.out.output.trans HOS11.out.2.2⟩
              · exact fun b h1 h2 h3 h4 h5 => (hoth b h4 h5).trans ((HE12.out.block b (by omega) (by simp)).trans (HKP11.out b h1 h2 h3))
            · gi_wp2_with (fail)
              exact ⟨HE11.out, ro', rc', by rw [List.length_append, ← HNP.out]; exact HG11.out, HO11.out, fun y hy => by
                rcases List.mem_append.1 hy with h | h
                · exact HNZ.out y h
                · rw [List.mem_singleton.1 h]; exact h0, by omega, HOS11.out, HKP11.out⟩
        case done =>
          rintro W ⟨ro, rc, hgo, hown, hnz, hsz, ⟨hos, hta, hou⟩, hkeep⟩ hK
          obtain ⟨k6, k7, -⟩ := HC.out w5 HE5.out
          have HB6 : Hid (W.heap[w.heap.size]? = some (.cells #[.slice none 0 0] 27 (0, 0)) ∧ W.heap[w.heap.size + 1]? = some (.cells #[.bool false] 4 (0, 0))) := Lib.hid ⟨(hkeep _ (by omega) (by omega) (by omega)).trans k6, (hkeep _ (by omega) (by omega) (by omega)).trans k7⟩
          have HBV : Hid (branchS ls d = none) := Lib.hid (by
            have e1 : lookS ls d = some x0.1 := by rw [← HX1.out, ← lookX_map, HLK2.out]; rfl
            unfold branchS
            rw [e1, Option.bind_some, if_neg]
            rw [← HX1.out, ← backX_map]
            simp only [List.any_eq_true, decide_eq_true_eq, not_exists, not_and]
            intro y hy
            obtain ⟨z, hz, rfl⟩ := List.mem_map.1 hy
            exact hnz z hz)
          have HEF : Hid (Ex w.heap.size none w W) := Lib.hid ⟨hos.trans ((HEW.out.trans HE5.out (by omega) (by simp)).os), hta.trans ((HEW.out.trans HE5.out (by omega) (by simp)).tape), hou.trans ((HEW.out.trans HE5.out (by omega) (by simp)).output), by have := HEW.out.size; omega, fun b hb _ => (hkeep b (by have := HEW.out.size; omega) (by have := HEW.out.size; omega) (by have := HEW.out.size; omega)).trans ((HEW.out.trans HE5.out (by omega) (by simp)).block b hb (by simp))⟩
          have c6 := box_cell HB6.out.1
          have c7 := box_cell HB6.out.2
          have z6 := row_frz' HB6.out.1 0
          have z7 := row_frz' HB6.out.2 0
          have HK := Lib.hid hK
          clear hgo hown hnz hos hta hou hkeep hK k6 k7
          gi_wp2
          go_wp2
          have hKF : ((W.setCell ⟨w.heap.size, 0, none⟩ (.slice none 0 0)).setCell ⟨w.heap.size + 1, 0, none⟩ (.bool false)).heap[w5.heap.size]? = some (.deferred (some [])) := (heap_setCell_ne _ (by omega)).trans ((heap_setCell_ne _ (by omega)).trans HK.out)
          obtain ⟨r6, r7⟩ := two_results (N := w5.heap.size) (o := .deferred none) (.slice none 0 0) (.bool false) HB6.out.1 HB6.out.2 (by omega)
          refine ⟨by simp, .inl ⟨_, _, rfl, run_takeDeferred hKF, ?_⟩⟩
          refine ⟨.tuple #[.slice none 0 0, .bool false], by simp [results, Tryz.results94, go_sem, r6, r7], ?_⟩
          exact ⟨ls, _, _, HLS.out, rfl, .inl ⟨HBV.out, rfl, rfl⟩, ((HEF.out.setCell 0 none _ (.inr (Nat.le_refl _))).setCell 0 none _ (.inr (by omega))).putObj _ _ (by omega)⟩
        case stop =>
          rintro pre rest W hpr ⟨ro, rc, n, hn, h6, h7, hown, ⟨p9, z9, hp9, hz9⟩, hsz, ⟨hos, hta, hou⟩, hkeep⟩ hK
          have HX6 : Hid (W.heap[w.heap.size]? = some (.cells #[.slice ro n rc] 27 (0, 0)) ∧ W.heap[w.heap.size + 1]? = some (.cells #[.bool true] 4 (0, 0))) := Lib.hid ⟨h6, h7⟩
          have HBV : Hid (branchS ls d = some (pre.map (·.1)).reverse) := Lib.hid (by
            have e1 : lookS ls d = some x0.1 := by rw [← HX1.out, ← lookX_map, HLK2.out]; rfl
            have e2 : rest = [] := backX_zero (fun x hx => (HXN.out x hx).1.1) 201 x0 p9 rest z9 (by rw [← hpr, hp9]) hz9
            subst e2
            rw [List.append_nil] at hpr
            unfold branchS
            rw [e1, Option.bind_some, ← HX1.out, ← backX_map, ← hpr, if_pos]
            simp only [List.any_eq_true, decide_eq_true_eq]
            exact ⟨z9.1, List.mem_map.2 ⟨z9, by rw [hp9]; simp, rfl⟩, hz9⟩)
          have HEF : Hid (Ex w.heap.size none w W) := Lib.hid ⟨hos.trans ((HEW.out.trans HE5.out (by omega) (by simp)).os), hta.trans ((HEW.out.trans HE5.out (by omega) (by simp)).tape), hou.trans ((HEW.out.trans HE5.out (by omega) (by simp)).output), by have := HEW.out.size; omega, fun b hb _ => (hkeep b (by have := HEW.out.size; omega) (by have := HEW.out.size; omega) (by have := HEW.out.size; omega) (by omega) (by omega)).trans ((HEW.out.trans HE5.out (by omega) (by simp)).block b hb (by simp))⟩
          have HOW := Lib.hid hown
          have HN : Hid (n = ((pre.map (·.1)).reverse).length) := Lib.hid (by rw [hn]; simp)
          have HK := Lib.hid hK
          have hlt : w.heap.size + 1 < w5.heap.size := by omega
          clear h6 h7 hos hta hou hkeep hK hown hn hp9 hz9 hpr
          have r6 := box_cell (t := 27) (g := w.heap.size) ((heap_putObj_ne (w := W) (N := w5.heap.size) (.deferred none) (by omega)).trans HX6.out.1)
          have r7 := box_cell (t := 4) (g := w.heap.size + 1) ((heap_putObj_ne (w := W) (N := w5.heap.size) (.deferred none) (by omega)).trans HX6.out.2)
          gi_wp2
          go_wp2
          refine ⟨by simp, .inl ⟨_, _, rfl, run_takeDeferred HK.out, ?_⟩⟩
          refine ⟨.tuple #[.slice ro n rc, .bool true], by simp [results, Tryz.results94, go_sem, r6, r7], ?_⟩
          exact ⟨ls, _, _, HLS.out, rfl, .inr ⟨_, ro, rc, n, HBV.out, HN.out, rfl, rfl, (HOW.out.keepB fun b hb _ => heap_putObj_ne _ (by omega)).lower (by have := HEW.out.size; omega)⟩, HEF.out.putObj _ _ (by have := HEW.out.size; omega)⟩
end Go.Proofs.YtaakacahblndcaaGreat

namespace Go.Proofs.YtaakacahblndcaaGreat
open Go.RowKit Go.Sort
attribute [local go_sem ↓] rowLoad_stv rowStore_stv

theorem sealP_v {P : Nat → Prop} (x : St × Sv × Sv) (w : World) (h : Lies P w x) (ht : Tame x.1) :
    Calls Tryz.prog 40 #[stV x] w fun e w' => ∃ y : St × Sv × Sv, e = .returned (stV y) ∧ y.1 = sealS x.1 ∧ Lies (fun b => w.heap.size ≤ b) w' y ∧ Ex w.heap.size none w w' := by
  obtain ⟨s, ⟨lo, ln, lc⟩, ⟨po, pn, pc⟩⟩ := x
  refine (sealP_any s lo po ln lc pn pc w h ht).mono ?_
  rintro e w' ⟨la, na, ca, pa, np, cp, rfl, hl, hex⟩
  exact ⟨(sealS s, ⟨la, na, ca⟩, ⟨pa, np, cp⟩), rfl, rfl, hl, hex⟩
theorem lies_empty {s : St} (h1 : s.list = []) (h2 : s.pins = []) (la pa : Option Addr) (ca cp : Nat) (P : Nat → Prop) (W : World) : Lies P W (s, ⟨la, 0, ca⟩, ⟨pa, 0, cp⟩) :=
  ⟨⟨la, ca, by show _ = Value.slice la s.list.length ca; rw [h1]; rfl, by show SlAt intRep P W la s.list; rw [h1]; exact SlAt.nil _ _ _⟩, ⟨pa, cp, by show _ = Value.slice pa s.pins.length cp; rw [h2]; rfl, by show SlAt pinRep P W pa s.pins; rw [h2]; exact SlAt.nil _ _ _⟩⟩
set_option maxRecDepth 100000 in
theorem results_stv {fn : Func} {p u : Tmp} (h : fn.results = #[.cell p 37, .tmp u]) (tmps : Array Value) (w : World) {a : Addr} {v u' : Value} (ha : tmps.getD p undef = .pointer (some a)) (hu : tmps.getD u undef = u') (hr : (rowLoad 37 a).run Tryz.prog w = .ok v w) : (results fn tmps).run Tryz.prog w = .ok (.tuple #[v, u']) w := by
  rw [results_cell_tmp h, ha, hu]
  have e : (asAddr (.pointer (some a))).run Tryz.prog w = .ok a w := rfl
  rw [e]
  show ((rowLoad 37 a).run Tryz.prog w).andThen _ = _
  rw [hr]
  simp only [Result.andThen]
theorem Ex.thenW {a b c : World} (h : Ex a.heap.size none a b) (k : Ex b.heap.size none b c) : Ex a.heap.size none a c := h.trans k h.size (by simp)
end Go.Proofs.YtaakacahblndcaaGreat

namespace Go.Proofs.YtaakacahblndcaaGreat
open Go.RowKit Go.Sort
attribute [local go_sem ↓] rowLoad_stv rowStore_stv

/-- Alike: neither ahead of the other. -/
def sameA (x y : St × Sv × Sv) : Bool := cmpAND x y == 0
end Go.Proofs.YtaakacahblndcaaGreat

namespace Go.Proofs.YtaakacahblndcaaGreat
open Go.RowKit Go.Sort

end Go.Proofs.YtaakacahblndcaaGreat

namespace Go.Proofs.YtaakacahblndcaaGreat
open Go.RowKit Go.Sort

def sameAS (s t : St) : Bool := cmpA s t == 0
/-- m: what two shelves hold, sorted, of neighbours alike the first alone. -/
def MergeR (l1 l2 m : List St) : Prop := ∃ d : List St, d.Perm (l1 ++ l2) ∧ (∀ (i j : Nat) (x y : St), i < j → d[i]? = some x → d[j]? = some y → ltA y x = false) ∧ m = cpt sameAS d.toArray d.length
/-- A row where it lies. -/
def RowH (w : World) (base : Nat) (ro : Option Addr) (zs : List (St × Sv × Sv)) : Prop := zs = [] ∨ ∃ g, ro = some ⟨g, 0, none⟩ ∧ base ≤ g ∧ g < w.heap.size ∧ HoldsK stE 13 w g 0 zs.toArray
/-- What store.Merge answers. -/
def MergeV (l1 l2 l' : List St) (c : Int) : Prop :=
  ((validB l1 && validB l2) = false ∧ l' = [] ∧ c = 1) ∨ ((validB l1 && validB l2) = true ∧ ∃ m, MergeR l1 l2 m ∧ ((1000 < m.length ∧ l' = [] ∧ c = 3) ∨ (m.length ≤ 1000 ∧ l' = m ∧ c = 0)))

end Go.Proofs.YtaakacahblndcaaGreat

namespace Go.Proofs.YtaakacahblndcaaGreat
open Go.RowKit Go.Sort
attribute [local go_sem ↓] rowLoad_stv rowStore_stv rowBuild_stv

/-- What is asked of a test of statements that is handed in. -/
def TestV (f : Nat) (cb : Array Value) (w0 : World) (p : St → Bool) : Prop := ∀ (w : World) (x : St × Sv × Sv), Ex w0.heap.size none w0 w → Calls Tryz.prog f (#[stV x] ++ cb) w fun e w' => e = .returned (.bool (p x.1)) ∧ Ex w.heap.size none w w'
/-- The statement that holds nothing but pins. -/
def pinS (l : List PinD) : St := ⟨0, 0, ⟨#[]⟩, 0, 10, 0, 0, 0, [], l, ⟨#[]⟩, 0, ⟨#[]⟩⟩
end Go.Proofs.YtaakacahblndcaaGreat

namespace Go.Proofs.YtaakacahblndcaaGreat
open Go.RowKit Go.Sort
attribute [local go_sem ↓] rowLoad_stv rowStore_stv rowBuild_stv

/-- The pin of a row that counts. -/
def pinOf (i : Int) (ls : List St) : Option PinD := ((ls.take (countN ls)).getLast?).map fun x => (i, (countN ls : Int), sha (stB x))
/-- What store.Pins may answer for a row of keys. -/
def PinsR (l : List St) (ks : List Int) (ps : List PinD) : Prop := ∃ lss : List (List St), lss.length = ks.length ∧ (∀ (j : Nat) (i : Int) (ls : List St), ks[j]? = some i → lss[j]? = some ls → LinksR i (l.filter fun s => s.author == i) ls) ∧ ps = ((ks.zip lss).map fun q => pinOf q.1 q.2).filterMap id
/-- The keys that store.Pins walks over. -/
def keysL (l : List St) : List Int := ((List.range 64).filter fun i : Nat => l.any fun s => s.author == (i : Int)).map (fun i : Nat => (i : Int))
end Go.Proofs.YtaakacahblndcaaGreat

namespace Go.Proofs.YtaakacahblndcaaGreat
open Go.RowKit Go.Sort
attribute [local go_sem ↓] rowLoad_stv rowStore_stv rowBuild_stv

/-- Each pin names a row of its key. -/
def RowsR (l : List St) (ps : List PinD) (rows : List (List St)) : Prop := rows.length = ps.length ∧ ∀ (j : Nat) (p : PinD) (r : List St), ps[j]? = some p → rows[j]? = some r → ∃ ls, LinksR p.1 (l.filter fun s => s.author == p.1) ls ∧ branchS ls p.2.2 = some r ∧ (r.length : Int) = p.2.1
/-- What store.Pinned answers. -/
def PinnedV (w' : World) (base : Nat) (l : List St) (ps : List PinD) (u : Value) (c : Int) : Prop :=
  ((validB l && (checkI (pinS ps) == 0)) = false ∧ u = .slice none 0 0 ∧ c = 1) ∨
  ((validB l && (checkI (pinS ps) == 0)) = true ∧ u = .slice none 0 0 ∧ c = 11 ∧ ∃ p ∈ ps, ∃ ls, LinksR p.1 (l.filter fun s => s.author == p.1) ls ∧ ∀ r, branchS ls p.2.2 = some r → (r.length : Int) ≠ p.2.1) ∨
  ((validB l && (checkI (pinS ps) == 0)) = true ∧ c = 0 ∧ ∃ rows ro rc n, RowsR l ps rows ∧ u = .slice ro n rc ∧ n = rows.flatten.length ∧ OwnS w' base ro rc rows.flatten)

end Go.Proofs.YtaakacahblndcaaGreat
