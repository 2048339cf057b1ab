/- The merge of the library's stable sort, in place, by rotations: plain laws on rows. No program in sight. | What the library's CompactFunc leaves of a row: plain laws. No program in sight. | Lemmas on CompactFunc at structs, for whatever program. No statement of the seat. | What the library's CompactFunc at trustflow/chain.link leans on of a program: so that its walks may be made over whatever program and number of cells. No statement of the seat. | slices.CompactFunc at trustflow/chain.link, over whatever program that bears it: a contract, no statement of the seat. | Rows of cells stored, loaded, and laid as the one element of a slice, as one step of a region. No statement of the seat. | Worlds that have been drawn from and have grown, and no more. No statement of the seat. | The library's slices.SortFunc at trustflow/api.Vote: its laying by the shelf, in plain words. No statement of the seat. | What the library's CompactFunc at trustflow/api.Vote leans on of a program: so that its walks may be made over whatever program and number of cells. No statement of the seat. | slices.CompactFunc at trustflow/api.Vote, over whatever program that bears it: a contract, no statement of the seat. | The library's slices.SortFunc at trustflow/chain.link: its laying by the shelf, in plain words. No statement of the seat. | What CompactFunc leaves, under a map. Plain, no program in sight. | The library's slices.SortFunc at trustflow/api.Statement: its laying by the shelf, in plain words. No statement of the seat. | What the library's CompactFunc at trustflow/api.Statement leans on of a program: so that its walks may be made over whatever program and number of cells. No statement of the seat. | slices.CompactFunc at trustflow/api.Statement, over whatever program that bears it: a contract, no statement of the seat. | The library's slices.SortFunc at trustflow/api.Case: its laying by the shelf, in plain words. No statement of the seat. | What the library's CompactFunc at trustflow/api.Case leans on of a program: so that its walks may be made over whatever program and number of cells. No statement of the seat. -/
import Derived.Test.YtaihmldiglgipaaGreatMg00
import Derived.Test.YtaihmldiglgipaaGreatRows
import Derived.Great.BuildSlice
import Derived.Laws.Rows
import Derived.Sort.Grow
import Derived.Shelf.SlSortCmp.WholeK
import Derived.Shelf.SlSortCmp.NoneTotal
import Derived.Sort.LotA
namespace Go.Proofs.YtaihmldiglgipaaGreat
open Go.Sort

variable {α : Type} [Inhabited α]

/-- Where that comes from what stands at t behind a rotation of [a, b) about m. -/
def rotIx (a m b t : Nat) : Nat := if a ≤ t ∧ t < a + (b - m) then t + (m - a) else if a + (b - m) ≤ t ∧ t < b then t - (b - m) else t
/-- Where that comes from what stands at t when n places from x on have been exchanged with those from y on. -/
def swIx (x y n t : Nat) : Nat := if x ≤ t ∧ t < x + n then t - x + y else if y ≤ t ∧ t < y + n then t - y + x else t
/-- d' is d, read at other places. -/
def By (f : Nat → Nat) (d d' : Array α) : Prop := d'.size = d.size ∧ ∀ t, t < d.size → d'[t]! = d[f t]!

/-- d' is d with the places of [a, b) exchanged among themselves, the order of equals kept. -/
structure SM (lt : α → α → Bool) (a b : Nat) (d d' : Array α) : Prop where
  size : d'.size = d.size
  out : ∀ i, i < a ∨ b ≤ i → d'[i]! = d[i]!
  inn : ∀ i, a ≤ i → i < b → ∃ j, a ≤ j ∧ j < b ∧ d'[i]! = d[j]!
  perm : d'.toList.Perm d.toList
  kind : ∀ p, Kind lt p → d'.toList.filter p = d.toList.filter p

/-- What the search for the place of the cut knows: below s 'not less', from r on 'less' (p - c stands against c). -/
def CutLo (lt : α → α → Bool) (d : Array α) (p s0 s : Nat) : Prop := ∀ c, s0 ≤ c → c < s → lt d[p - c]! d[c]! = false
def CutHi (lt : α → α → Bool) (d : Array α) (p r r0 : Nat) : Prop := ∀ c, r ≤ c → c < r0 → lt d[p - c]! d[c]! = true

/-- Where the search begins and ends. -/
structure CutAt (a m b p s0 r0 : Nat) : Prop where
  lo : a ≤ s0
  hi : r0 ≤ m
  ord : s0 ≤ r0
  top : p < s0 + b
  bot : m + r0 ≤ p + 1

/-- One element ahead of a run: what the search for its place knows, and what becomes of the row. -/
def OneLo (lt : α → α → Bool) (d : Array α) (a i : Nat) : Prop := ∀ h, a < h → h < i → lt d[h]! d[a]! = true
def OneHi (lt : α → α → Bool) (d : Array α) (a j b : Nat) : Prop := ∀ h, j ≤ h → h < b → lt d[h]! d[a]! = false
/-- One element behind a run. -/
def EndLo (lt : α → α → Bool) (d : Array α) (m a i : Nat) : Prop := ∀ h, a ≤ h → h < i → lt d[m]! d[h]! = false
def EndHi (lt : α → α → Bool) (d : Array α) (m j : Nat) : Prop := ∀ h, j ≤ h → h < m → lt d[m]! d[h]! = true
end Go.Proofs.YtaihmldiglgipaaGreat

namespace Go.Proofs.YtaihmldiglgipaaGreat
open Go.Sort
variable {α : Type} [Inhabited α]

/-- Element j stays: the first one, and each one that is not eq to the one before. -/
def stays (eq : α → α → Bool) (d : Array α) (j : Nat) : Bool := decide (j = 0) || !eq d[j]! d[j - 1]!
/-- What stays of the first n elements. -/
def cpt (eq : α → α → Bool) (d : Array α) : Nat → List α
  | 0 => []
  | n + 1 => if stays eq d n = true then cpt eq d n ++ [d[n]!] else cpt eq d n
theorem cpt_le (eq : α → α → Bool) (d : Array α) (n : Nat) : (cpt eq d n).length ≤ n := by
  induction n with
  | zero => simp [cpt]
  | succ n ih => rw [cpt]; split
                 · simp; omega
                 · omega
theorem cpt_yes {eq : α → α → Bool} {d : Array α} {n : Nat} (h : stays eq d n = true) : cpt eq d (n + 1) = cpt eq d n ++ [d[n]!] := by rw [cpt, if_pos h]
theorem cpt_no {eq : α → α → Bool} {d : Array α} {n : Nat} (h : stays eq d n = false) : cpt eq d (n + 1) = cpt eq d n := by rw [cpt, if_neg (by simp [h])]
theorem stays_of {eq : α → α → Bool} {d : Array α} {n : Nat} (h0 : 0 < n) (b : Bool) (h : eq d[n]! d[n - 1]! = b) : stays eq d n = !b := by
  unfold stays
  rw [h, decide_eq_false (by omega)]; rfl
theorem cpt_all {eq : α → α → Bool} {d : Array α} {n : Nat} (h : ∀ j, j < n → stays eq d j = true) (hn : n ≤ d.size) : cpt eq d n = d.toList.take n := by
  induction n with
  | zero => simp [cpt]
  | succ n ih =>
    rw [cpt_yes (h n (by omega)), ih (fun j hj => h j (by omega)) (by omega), List.take_add_one]
    congr 1
    rw [getElem!_pos d n (by omega)]
    simp [show n < d.size by omega]
/-- The inner loop: m elements are done, the row begins with what stays of them, and from m - 1 on it is as it was. -/
structure CInv (eq : α → α → Bool) (d : Array α) (m kk : Nat) (dk : Array α) : Prop where
  len : (cpt eq d m).length = kk
  lt : kk < m
  size : dk.size = d.size
  done : ∀ t, t < kk → dk[t]! = (cpt eq d m)[t]!
  rest : ∀ t, m - 1 ≤ t → dk[t]! = d[t]!
theorem CInv.start {eq : α → α → Bool} {d : Array α} {k : Nat} (h : ∀ j, j < k → stays eq d j = true) (hk : stays eq d k = false) (hs : k < d.size) : CInv eq d (k + 1) k d := by
  have e : cpt eq d (k + 1) = d.toList.take k := by rw [cpt_no hk, cpt_all h (by omega)]
  refine ⟨by rw [e]; simp; omega, by omega, rfl, fun t ht => ?_, fun _ _ => rfl⟩
  rw [e, getElem!_pos d t (by omega), getElem!_pos (d.toList.take k) t (by simp; omega)]
  simp
theorem CInv.skip {eq : α → α → Bool} {d dk : Array α} {m kk : Nat} (h : CInv eq d m kk dk) (hs : stays eq d m = false) : CInv eq d (m + 1) kk dk := by
  refine ⟨by rw [cpt_no hs]; exact h.len, by have := h.lt; omega, h.size, fun t ht => by rw [cpt_no hs]; exact h.done t ht, fun t ht => h.rest t (by omega)⟩
theorem CInv.keep {eq : α → α → Bool} {d dk : Array α} {m kk : Nat} (h : CInv eq d m kk dk) (hs : stays eq d m = true) (hm : m < d.size) : CInv eq d (m + 1) (kk + 1) (dk.setIfInBounds kk d[m]!) := by
  have hlt := h.lt
  have hsz := h.size
  have hl := h.len
  refine ⟨by rw [cpt_yes hs, List.length_append, hl]; rfl, by omega, by simp [hsz], fun t ht => ?_, fun t ht => ?_⟩
  · rw [cpt_yes hs, getElem!_pos (dk.setIfInBounds kk d[m]!) t (by simp; omega), Array.getElem_setIfInBounds, getElem!_pos (cpt eq d m ++ [d[m]!]) t (by simp; omega)]
    · split
      · rename_i e
        subst e
        rw [List.getElem_append_right (by omega)]
        simp [hl]
      · rw [List.getElem_append_left (by omega), ← getElem!_pos dk t (by omega), ← getElem!_pos (cpt eq d m) t (by omega)]
        exact h.done t (by omega)
    · omega
  · by_cases c : t < d.size
    · have e : (dk.setIfInBounds kk d[m]!)[t]! = dk[t]! := by
        rw [getElem!_pos (dk.setIfInBounds kk d[m]!) t (by simp; omega), Array.getElem_setIfInBounds, if_neg (by omega), ← getElem!_pos dk t (by omega)]
        omega
      rw [e]; exact h.rest t (by omega)
    · rw [getElem!_neg (dk.setIfInBounds kk d[m]!) t (by simp; omega), getElem!_neg d t c]
/-- The row's head holds what stays. -/
theorem CInv.head {eq : α → α → Bool} {d dk : Array α} {m kk : Nat} (h : CInv eq d m kk dk) (hm : m ≤ d.size) : (cpt eq d m).toArray.size ≤ dk.size ∧ ∀ t, t < (cpt eq d m).toArray.size → (cpt eq d m).toArray[t]! = dk[t]! := by
  have hl := h.len
  have hlt := h.lt
  have hs := h.size
  refine ⟨by simp [hl]; omega, fun t ht => ?_⟩
  rw [h.done t (by simpa [hl] using ht)]
  simp
end Go.Proofs.YtaihmldiglgipaaGreat

namespace Go.Proofs.YtaihmldiglgipaaGreat
open Go.RowKit Go.Sort

theorem exGrowK {B : Nat} {w : World} (q : Nat) (os : Array Obj) (p : Option Nat) (hB : B ≤ w.heap.size) : Ex B p w (grow (w.drewN q) os) :=
  ⟨rfl, rfl, rfl, by rw [size_grow]; exact Nat.le_add_right _ _, fun k hk _ => heap_grow_old (w.drewN q) os (by exact Nat.lt_of_lt_of_le hk hB)⟩

variable {P : Program}
theorem shiftAtK (off k x y : Nat) : off + x * k + y * k = off + (x + y) * k := by rw [Nat.add_mul]; omega
theorem runClearK (w : World) (t e ty : TypeId) (z : Value) (k : Nat) (ht : P.underlying t = some (.slice e)) (hv : ∀ w, (zeroValue e).run P w = .ok z w) (hz : z.cells.size = k) (h1 : ∀ v ∈ z.cells, v.oneCell' = true) (b o n c : Nat) (hn : 0 < n)
    (hc : ∀ j, j < n * k → (w.cell? ⟨b, o + j, none⟩).isSome = true) (hf : ∀ j, j < n * k → w.frozen? ⟨b, o + j, none⟩ = false) :
    (Builtin.clear_ #[t] ty #[.slice (some ⟨b, o, none⟩) n c]).run P w = .ok (.tuple #[]) (w.setCells b o (Builtin.zeroCells z.cells n).toList) := by
  have hl : (Builtin.zeroCells z.cells n).toList.length = n * k := by simp [Builtin.zeroCells, hz]
  have hst := run_storeCells_cells (P := P) b o (Builtin.zeroCells z.cells n).toList 0 w (by rw [hl]; simpa using hc) (by rw [hl]; simpa using hf) (by
    intro v hv'
    simp only [Builtin.zeroCells, Array.toList_map, List.mem_map, Array.mem_toList_iff] at hv'
    obtain ⟨i, hi, rfl⟩ := hv'
    by_cases hk : z.cells.size = 0
    · simp [hk] at hi
    · rw [getElem!_pos z.cells _ (Nat.mod_lt _ (by omega))]; exact h1 _ (Array.getElem_mem _))
  simp only [Nat.add_zero] at hst
  obtain ⟨m, rfl⟩ : ∃ m, n = m + 1 := ⟨n - 1, by omega⟩
  simp [Builtin.clear_, run_underlying ht, hv, hst]
end Go.Proofs.YtaihmldiglgipaaGreat

namespace Go.Proofs.YtaihmldiglgipaaGreat
open Go.RowKit Go.Sort

end Go.Proofs.YtaihmldiglgipaaGreat

namespace Go.Proofs.YtaihmldiglgipaaGreat
open Go.RowKit Go.Sort
variable {P : Program} {α : Type} [Inhabited α]

/-- What is asked of a function that tells whether two elements are the same. -/
def EqAtLink (P : Program) (f : Nat) (cb : Array Value) (enc : α → List Value) (eq : α → α → Bool) : Prop :=
  ∀ (w : World) (x y : α), Calls P f (#[.agg (enc x).toArray, .agg (enc y).toArray] ++ cb) w fun e w' => e = .returned (.bool (eq x y)) ∧ ∃ q os', w' = grow (w.drewN q) os'
end Go.Proofs.YtaihmldiglgipaaGreat

namespace Go.Proofs.YtaihmldiglgipaaGreat
open Go.RowKit

/-- A store of a whole value, as a word that the walk does not open. -/
def rowStore (t : TypeId) (a : Addr) (v : Value) : Sem Unit := storeVar t a v
theorem run_rowStore {P : Program} (w : World) (g : Nat) (t ty : TypeId) (old cells : Array Value) (hg : w.heap[g]? = some (.cells old t (0, 0))) (hi : (P.info? ty).map (·.size) = some cells.size)
    (ho : old.size = cells.size) (h1 : cells.all (·.oneCell') = true) : (rowStore ty ⟨g, 0, none⟩ (.agg cells)).run P w = .ok () (w.setRow g cells) := run_storeVar_row w g t ty old cells hg hi ho h1
/-- A load of a whole value, as a word that the walk does not open. -/
def rowLoad (t : TypeId) (a : Addr) : Sem Value := loadVar t a
theorem run_rowLoad {P : Program} (w : World) (g : Nat) (t ty : TypeId) (cs : Array Value) (fr : Nat × Nat) (d : TypeDesc) (hg : w.heap[g]? = some (.cells cs t fr))
    (hu : P.underlying ty = some d) (hd : (match d with | .struct _ | .array _ _ => true | _ => false) = true) (hi : (P.info? ty).map (·.size) = some cs.size) :
    (rowLoad ty ⟨g, 0, none⟩).run P w = .ok (.agg cs) w := run_loadVar_row w g t ty cs fr d hg hu hd hi
/-- A slice of given values, as a word that the walk does not open. -/
def rowBuild (t : TypeId) (n : Nat) (ps : Array (Nat × Value)) : Sem Value := Instr.buildSlice t n ps
theorem fill_one (n : Nat) (zs cs : Array Value) (hz : zs.size = n) (hc : cs.size = n) (hp : 0 < n) : Instr.fill (fun i => some (i * n, n)) zs [(0, .agg cs)] = some cs := by
  obtain ⟨r, h1, h2, h3⟩ := Great.fill_dense hp [.agg cs] 0 zs (by intro v hv; simp only [List.mem_singleton] at hv; subst hv; exact hc) (by simp; omega)
  have e : r = cs := by
    apply Array.ext_getElem?
    intro k
    rw [h3 k]
    by_cases hk : k < n
    · rw [if_pos (by simp; exact hk)]
      simp [Nat.div_eq_of_lt hk, Nat.mod_eq_of_lt hk, Value.cells]
    · rw [if_neg (by simp; omega), Array.getElem?_eq_none (by omega), Array.getElem?_eq_none (by omega)]
  rw [e] at h1
  exact h1
theorem run_rowBuild {P : Program} (w : World) (t e : TypeId) (cs : Array Value) (n bytes : Nat) (z : Value) (hu : P.underlying t = some (.slice e)) (hi : (P.info? e).map (fun i => (i.zero, i.size, i.bytes)) = some (some z, n, bytes))
    (hn : 0 < n) (hb : n ≤ 1000) (hc : cs.size = n) : (rowBuild t 1 #[(0, .agg cs)]).run P w = .ok (.slice (some ⟨w.heap.size, 0, none⟩) 1 1) (w.alloc (.cells cs e)) := by
  cases hq : P.info? e with
  | none => rw [hq] at hi; cases hi
  | some ie =>
    rw [hq] at hi
    simp only [Option.map_some, Option.some.injEq, Prod.mk.injEq] at hi
    obtain ⟨h1, h2, _⟩ := hi
    refine run_buildSlice w t e 1 _ cs ie z hu hq h1 (by rw [h2]; omega) (by rw [h2]; omega) ?_
    rw [h2]
    exact fill_one n _ cs (by simp) hc hn
end Go.Proofs.YtaihmldiglgipaaGreat

namespace Go.Proofs.YtaihmldiglgipaaGreat
open Go.RowKit Go.Sort

/-- w' is w with draws and new blocks behind it. -/
def Gr (w w' : World) : Prop := ∃ q os, w' = grow (w.drewN q) os
theorem grow_drewN (w : World) (os : Array Obj) (q : Nat) : (grow w os).drewN q = grow (w.drewN q) os := rfl
theorem Gr.refl (w : World) : Gr w w := ⟨0, #[], by rw [grow_empty]; rfl⟩
theorem Gr.trans {a b c : World} (h : Gr a b) (k : Gr b c) : Gr a c := by
  obtain ⟨q, os, rfl⟩ := h
  obtain ⟨q', os', rfl⟩ := k
  exact ⟨q + q', os ++ os', by rw [grow_drewN, grow_grow, drewN_add]⟩
theorem Gr.alloc {a w : World} (h : Gr a w) (o : Obj) : Gr a (w.alloc o) := h.trans ⟨0, #[o], by rw [alloc_eq_grow]; rfl⟩
theorem Gr.drew {a w : World} (h : Gr a w) : Gr a w.drew := h.trans ⟨1, #[], by rw [grow_empty]; rfl⟩
theorem Gr.ex {w w' : World} (h : Gr w w') : Ex w.heap.size none w w' := by
  obtain ⟨q, os, rfl⟩ := h
  exact ⟨rfl, rfl, rfl, by rw [size_grow]; exact Nat.le_add_right _ _, fun k hk _ => heap_grow_old (w.drewN q) os hk⟩
theorem Ex.at2 {B b : Nat} {w w' : World} {x : Obj} (h : Ex B none w w') (hB : w.heap.size ≤ B) (k : w.heap[b]? = some x) : w'.heap[b]? = some x := (h.block b (Nat.lt_of_lt_of_le (Array.getElem?_eq_some_iff.1 k).1 hB) (by simp)).trans k
end Go.Proofs.YtaihmldiglgipaaGreat

namespace Go.Proofs
open Go.Shelf
def Tryz.pdqVo_ren : Go.Shelf.Ren := ⟨fun | 6 => 87 | 15 => 81 | 14 => 124 | 28 => 121 | 29 => 122 | 20 => 152 | 21 => 153 | 22 => 154 | 23 => 155 | 24 => 156 | 25 => 157 | 26 => 158 | 27 => 159 | 46 => 171 | 47 => 140 | 48 => 141 | 49 => 172 | 50 => 173 | 57 => 175 | n => n, fun | 22 => 96 | 24 => 100 | 25 => 124 | 3 => 3 | 39 => 118 | 0 => 0 | 53 => 154 | 55 => 156 | 4 => 4 | 46 => 147 | 45 => 146 | 50 => 151 | 5 => 5 | 9 => 9 | 66 => 173 | 70 => 177 | 76 => 194 | 77 => 195 | n => n, fun | n => n⟩
theorem Tryz.pdqVo : Go.Proofs.SlLaysF0.n6 Tryz.prog Tryz.pdqVo_ren := {
  mixed := by kernel_rfl
  f6 := ⟨Tryz.f87.name, by decide, Tryz.func87.trans (congrArg some (by kernel_rfl))⟩
  f14 := ⟨Tryz.f124.name, by decide, Tryz.func124.trans (congrArg some (by kernel_rfl))⟩
  f15 := Tryz.func81.trans (congrArg some (by kernel_rfl))
  f20 := ⟨Tryz.f152.name, by decide, Tryz.func152.trans (congrArg some (by kernel_rfl))⟩
  f21 := ⟨Tryz.f153.name, by decide, Tryz.func153.trans (congrArg some (by kernel_rfl))⟩
  f22 := ⟨Tryz.f154.name, by decide, Tryz.func154.trans (congrArg some (by kernel_rfl))⟩
  f23 := ⟨Tryz.f155.name, by decide, Tryz.func155.trans (congrArg some (by kernel_rfl))⟩
  f24 := ⟨Tryz.f156.name, by decide, Tryz.func156.trans (congrArg some (by kernel_rfl))⟩
  f25 := ⟨Tryz.f157.name, by decide, Tryz.func157.trans (congrArg some (by kernel_rfl))⟩
  f26 := ⟨Tryz.f158.name, by decide, Tryz.func158.trans (congrArg some (by kernel_rfl))⟩
  f27 := ⟨Tryz.f159.name, by decide, Tryz.func159.trans (congrArg some (by kernel_rfl))⟩
  f28 := Tryz.func121.trans (congrArg some (by kernel_rfl))
  f29 := Tryz.func122.trans (congrArg some (by kernel_rfl))
  f46 := ⟨Tryz.f171.name, by decide, Tryz.func171.trans (congrArg some (by kernel_rfl))⟩
  f47 := Tryz.func140.trans (congrArg some (by kernel_rfl))
  f48 := Tryz.func141.trans (congrArg some (by kernel_rfl))
  f49 := ⟨Tryz.f172.name, by decide, Tryz.func172.trans (congrArg some (by kernel_rfl))⟩
  f50 := ⟨Tryz.f173.name, by decide, Tryz.func173.trans (congrArg some (by kernel_rfl))⟩
  f57 := ⟨Tryz.f175.name, by decide, Tryz.func175.trans (congrArg some (by kernel_rfl))⟩
  t0 := Tryz.underlying0
  a0 := Tryz.isAgg0
  z0 := Tryz.sizeOf0
  v0 := Tryz.zeroValue0
  t3 := Tryz.underlying3
  a3 := Tryz.isAgg3
  z3 := Tryz.sizeOf3
  v3 := Tryz.zeroValue3
  t4 := Tryz.underlying4
  a4 := Tryz.isAgg4
  z4 := Tryz.sizeOf4
  v4 := Tryz.zeroValue4
  t5 := Tryz.underlying5
  a5 := Tryz.isAgg5
  z5 := Tryz.sizeOf5
  v5 := Tryz.zeroValue5
  t9 := Tryz.underlying9
  a9 := Tryz.isAgg9
  z9 := Tryz.sizeOf9
  v9 := Tryz.zeroValue9
  t22 := Tryz.underlying96
  a22 := Tryz.isAgg96
  z22 := Tryz.sizeOf96
  v22 := Tryz.zeroValue96
  t25 := Tryz.underlying124
  a25 := Tryz.isAgg124
  z25 := Tryz.sizeOf124
  v25 := Tryz.zeroValue124
  t39 := Tryz.underlying118
  a39 := Tryz.isAgg118
  z39 := Tryz.sizeOf118
  v39 := Tryz.zeroValue118
  t45 := Tryz.underlying146
  a45 := Tryz.isAgg146
  z45 := Tryz.sizeOf146
  v45 := Tryz.zeroValue146
  t46 := Tryz.underlying147
  a46 := Tryz.isAgg147
  z46 := Tryz.sizeOf147
  v46 := Tryz.zeroValue147
  t50 := Tryz.underlying151
  a50 := Tryz.isAgg151
  z50 := Tryz.sizeOf151
  v50 := Tryz.zeroValue151
  t53 := Tryz.underlying154
  a53 := Tryz.isAgg154
  z53 := Tryz.sizeOf154
  v53 := Tryz.zeroValue154
  t55 := Tryz.underlying156
  a55 := Tryz.isAgg156
  z55 := Tryz.sizeOf156
  v55 := Tryz.zeroValue156
  t66 := Tryz.underlying173
  a66 := Tryz.isAgg173
  z66 := Tryz.sizeOf173
  v66 := Tryz.zeroValue173
  t70 := Tryz.underlying177
  a70 := Tryz.isAgg177
  z70 := Tryz.sizeOf177
  v70 := Tryz.zeroValue177
  t76 := Tryz.underlying194
  a76 := Tryz.isAgg194
  z76 := Tryz.sizeOf194
  v76 := Tryz.zeroValue194
  t77 := Tryz.underlying195
  a77 := Tryz.isAgg195
  z77 := Tryz.sizeOf195
  v77 := Tryz.zeroValue195 }
end Go.Proofs

namespace Go.Proofs.YtaihmldiglgipaaGreat
open Go.RowKit Go.Sort

structure CLayVo (P : Program) (k : Nat) : Prop where
  mixed : P.follows .mixedOrders = true
  t0 : P.underlying 0 = some (TypeDesc.tuple #[])
  a0 : ∀ w, (isAgg 0).run P w = .ok false w
  z0 : ∀ w, (Go.sizeOf 0).run P w = .ok 1 w
  v0 : ∀ w, (zeroValue 0).run P w = .ok (Value.tuple #[]) w
  t1 : P.underlying 3 = some (TypeDesc.int IntKind.i64)
  a1 : ∀ w, (isAgg 3).run P w = .ok false w
  z1 : ∀ w, (Go.sizeOf 3).run P w = .ok 1 w
  v1 : ∀ w, (zeroValue 3).run P w = .ok (Value.int IntKind.i64 0) w
  t2 : P.underlying 4 = some (TypeDesc.bool)
  a2 : ∀ w, (isAgg 4).run P w = .ok false w
  z2 : ∀ w, (Go.sizeOf 4).run P w = .ok 1 w
  v2 : ∀ w, (zeroValue 4).run P w = .ok (Value.bool false) w
  t3 : P.underlying 118 = some (TypeDesc.int IntKind.u64)
  a3 : ∀ w, (isAgg 118).run P w = .ok false w
  z3 : ∀ w, (Go.sizeOf 118).run P w = .ok 1 w
  v3 : ∀ w, (zeroValue 118).run P w = .ok (Value.int IntKind.u64 0) w
  t4 : P.underlying 96 = some (TypeDesc.slice 100)
  a4 : ∀ w, (isAgg 96).run P w = .ok false w
  z4 : ∀ w, (Go.sizeOf 96).run P w = .ok 1 w
  v4 : ∀ w, (zeroValue 96).run P w = .ok (Value.slice none 0 0) w
  t5 : P.underlying 124 = some (TypeDesc.func #[100, 100] #[3] false)
  a5 : ∀ w, (isAgg 124).run P w = .ok false w
  z5 : ∀ w, (Go.sizeOf 124).run P w = .ok 1 w
  v5 : ∀ w, (zeroValue 124).run P w = .ok (Value.nilFunc) w
  aE : ∀ w, (isAgg 100).run P w = .ok true w
  zE : ∀ w, (Go.sizeOf 100).run P w = .ok k w

theorem clayVo : CLayVo Tryz.prog 7 := {
  mixed := by kernel_rfl
  t0 := Tryz.underlying0
  a0 := Tryz.isAgg0
  z0 := Tryz.sizeOf0
  v0 := Tryz.zeroValue0
  t1 := Tryz.underlying3
  a1 := Tryz.isAgg3
  z1 := Tryz.sizeOf3
  v1 := Tryz.zeroValue3
  t2 := Tryz.underlying4
  a2 := Tryz.isAgg4
  z2 := Tryz.sizeOf4
  v2 := Tryz.zeroValue4
  t3 := Tryz.underlying118
  a3 := Tryz.isAgg118
  z3 := Tryz.sizeOf118
  v3 := Tryz.zeroValue118
  t4 := Tryz.underlying96
  a4 := Tryz.isAgg96
  z4 := Tryz.sizeOf96
  v4 := Tryz.zeroValue96
  t5 := Tryz.underlying124
  a5 := Tryz.isAgg124
  z5 := Tryz.sizeOf124
  v5 := Tryz.zeroValue124
  aE := Tryz.isAgg100
  zE := Tryz.sizeOf100 }
end Go.Proofs.YtaihmldiglgipaaGreat

namespace Go.Proofs.YtaihmldiglgipaaGreat
open Go.RowKit Go.Sort
variable {P : Program} {α : Type} [Inhabited α]

set_option maxHeartbeats 8000000 in
set_option maxRecDepth 1000000 in
theorem compactWVo_any {k : Nat} (L : CLayVo P k) (enc : α → List Value) (hk : ∀ x, (enc x).length = k) (h1 : ∀ x, ∀ v ∈ enc x, v.oneCell' = true) (eq : α → α → Bool) (f : Nat) (cb : Array Value)
    (ef : ∀ args w, (callFunc f args).run P w = .ok (.enter f args) w)
    (fC : P.funcs[88]? = some Tryz.f88)
    (z : Array Value) (hv : ∀ w, (zeroValue 100).run P w = .ok (.agg z) w) (hz : z.size = k) (hz1 : ∀ v ∈ z, v.oneCell' = true)
    (_t6 : P.underlying 127 = some (TypeDesc.func #[100, 100] #[4] false))
    (_a6 : ∀ w, (isAgg 127).run P w = .ok false w) (_z6 : ∀ w, (Go.sizeOf 127).run P w = .ok 1 w)
    (g off cap s : Nat) (d : Array α) (w : World) (hH : HoldsK enc k w g off d) (hg : g < w.heap.size) (hsz : d.size < 1000000000000) (hcap : d.size ≤ cap) (hs : d.size = s)
    (hcmp : ∀ w', Ex w.heap.size (some g) w w' → ∀ x y : α, Calls P f (#[.agg (enc x).toArray, .agg (enc y).toArray] ++ cb) w' fun e w'' => e = .returned (.bool (eq x y)) ∧ ∃ q os', w'' = grow (w'.drewN q) os') :
    Calls P 88 #[.slice (some ⟨g, off, none⟩) s cap, .func (.func f) #[] cb] w fun e w' =>
      e = .returned (.slice (some ⟨g, off, none⟩) (cpt eq d s).length cap) ∧ HoldsK enc k w' g off (cpt eq d s).toArray ∧ Ex w.heap.size (some g) w w' := by
  subst hs
  have mixed := L.mixed; have t0 := L.t0; have a0 := L.a0; have z0 := L.z0; have v0 := L.v0; have t1 := L.t1; have a1 := L.a1; have z1 := L.z1; have v1 := L.v1; have t2 := L.t2; have a2 := L.a2; have z2 := L.z2; have v2 := L.v2; have t3 := L.t3; have a3 := L.a3; have z3 := L.z3; have v3 := L.v3; have t4 := L.t4; have a4 := L.a4; have z4 := L.z4; have v4 := L.v4; have t5 := L.t5; have a5 := L.a5; have z5 := L.z5; have v5 := L.v5; have aE := L.aE; have zE := L.zE
  have u4 := run_underlying L.t4
  have HK := Lib.hid hk
  have H1 := Lib.hid h1
  have HC := Lib.hid hcmp
  have HHw := Lib.hid hH
  have HZ := Lib.hid (And.intro hv (And.intro hz hz1))
  have same : ∀ wr, (∀ j, j < d.size → stays eq d j = true) → HoldsK enc k wr g off d → (cpt eq d d.size).length = d.size ∧ HoldsK enc k wr g off (cpt eq d d.size).toArray := fun wr hall h => by
    have e := cpt_all hall (Nat.le_refl _)
    rw [e, List.take_of_length_le (by simp)]
    exact ⟨by simp, by simpa using h⟩
  have SAME := Lib.hid same
  clear hk h1 hcmp hH hv hz hz1 same
  by_cases h2 : d.size < 2
  · go_enter fC, Tryz.ntmps88
    go_wp2
    go_ret
    obtain ⟨e1, e2⟩ := SAME.out w (fun j hj => by obtain rfl : j = 0 := (by omega); rfl) HHw.out
    exact ⟨by rw [e1]; rfl, e2, Ex.refl _ _ _⟩
  · go_enter fC, Tryz.ntmps88
    go_wp2
    go_loopw [5] (fun s3 wr => ∃ i : Nat, s3 = .int .i64 i ∧ 1 ≤ i ∧ i ≤ d.size ∧ (∀ j, j < i → stays eq d j = true) ∧ HoldsK enc k wr g off d ∧ Ex w.heap.size (some g) w wr) (fun s3 _ => d.size - (intOf s3).toNat)
    case atStart => exact ⟨1, rfl, Nat.le_refl _, by omega, fun j hj => by obtain rfl : j = 0 := (by omega); rfl, HHw.out, Ex.refl _ _ _⟩
    case round =>
      obtain ⟨i, rfl, hi1, hi, hall, hHk, hex⟩ := hrel
      have HHk := Lib.hid hHk
      have HA := Lib.hid hall
      clear hHk hall
      have hsz' := hex.size
      by_cases hlt : i < d.size
      · obtain ⟨ip, hip⟩ : ∃ ip, ip = i - 1 := ⟨_, rfl⟩
        have hwp : IntKind.i64.wrap ((i : Int) - 1) = (ip : Int) := by rw [IntKind.wrap_i64]; omega
        have b1 : (i : Int) < d.size := by omega
        have b2 : (ip : Int) < d.size := by omega
        have HIP := Lib.hid hip
        clear hip
        have hHc : ∀ n' os', HoldsK enc k (grow (wr.drewN n') os') g off d := fun n' os' => holdsK_grow enc k _ os' g off d (by show g < wr.heap.size; omega) (show HoldsK enc k (wr.drewN n') g off d from HHk.out)
        obtain ⟨v1, hv1⟩ : ∃ v, d[i]! = v := ⟨_, rfl⟩
        obtain ⟨v2, hv2⟩ : ∃ v, d[ip]! = v := ⟨_, rfl⟩
        have l1 : ∀ n' os', Sem.run P (loadCellsFrom ⟨g, off + i * k, none⟩ 0 k #[]) (grow (wr.drewN n') os') = .ok (enc v1).toArray (grow (wr.drewN n') os') := fun n' os' => by
          rw [← hv1, show off + i * k = off + (i) * k by rfl]; exact run_loadCellsFrom_list P _ _ _ k (HK.out _) (HoldsK.cells (hHc n' os') HK.out (by omega))
        have l2 : ∀ n' os', Sem.run P (loadCellsFrom ⟨g, off + ip * k, none⟩ 0 k #[]) (grow (wr.drewN n') os') = .ok (enc v2).toArray (grow (wr.drewN n') os') := fun n' os' => by
          rw [← hv2, show off + ip * k = off + (ip) * k by rfl]; exact run_loadCellsFrom_list P _ _ _ k (HK.out _) (HoldsK.cells (hHc n' os') HK.out (by omega))
        have hcg : ∀ n' os', Calls P f (#[.agg (enc v1).toArray, .agg (enc v2).toArray] ++ cb) (grow (wr.drewN n') os') fun e w' => e = .returned (.bool (eq v1 v2)) ∧ ∃ q os'', w' = grow ((grow (wr.drewN n') os').drewN q) os'' := fun n' os' => HC.out _ (hex.trans (exGrowK n' os' none (Nat.le_refl _)) hsz' (by simp)) _ _
        have HV : Hid (d[i]! = v1 ∧ d[ip]! = v2) := ⟨hv1, hv2⟩
        clear hHc hv1 hv2
        by_cases hlv : eq v1 v2 = true
        · simp only [hlv] at hcg
          go_wp2_with fail
          go_quiet_grown (first | (go_at_fn f; refine Calls.grown_of (hcg _ _)))
          have hc0 : i ≤ cap := by omega
          by_cases hce : cap = i
          · omega
          go_wp2
          obtain ⟨wo, hwo⟩ : ∃ wo : World, wo = grow (wr.drewN nq) osq := ⟨_, rfl⟩
          have hHo : HoldsK enc k wo g off d := by rw [hwo]; exact holdsK_grow enc k _ _ g off d (by show g < wr.heap.size; omega) (show HoldsK enc k (wr.drewN nq) g off d from HHk.out)
          have hexo : Ex w.heap.size (some g) w wo := by rw [hwo]; exact hex.trans (exGrowK nq osq none (Nat.le_refl _)) hsz' (by simp)
          rw [← hwo]
          have HHo := Lib.hid hHo
          have HD0 : Hid (stays eq d i = false) := by
            have := stays_of (eq := eq) (d := d) (n := i) (by omega) true (by rw [← HIP.out, HV.out.1, HV.out.2]; exact hlv)
            exact this
          clear hHo hwo l1 l2 hcg hlv
          go_loopw [5, 7] (fun s3 s5 wr => ∃ (kk k2 : Nat) (dk : Array α), s3 = .int .i64 kk ∧ s5 = .int .i64 k2 ∧ 1 ≤ k2 ∧ i + k2 ≤ d.size ∧ CInv eq d (i + k2) kk dk ∧ HoldsK enc k wr g off dk ∧ Ex w.heap.size (some g) w wr) (fun _ s5 _ => d.size - (intOf s5).toNat)
          case atStart => exact ⟨i, 1, d, rfl, rfl, Nat.le_refl _, by omega, CInv.start HA.out HD0.out hlt, HHo.out, hexo⟩
          case round =>
            clear HHk HHo HD0 hex hexo hsz' HV
            obtain ⟨kk, k2, dk, rfl, rfl, h1, hle, hI, hHk, hex⟩ := hrel
            have hkk := hI.lt
            have hds := hI.size
            have HI := Lib.hid hI
            have HHk := Lib.hid hHk
            have HDS := Lib.hid hds
            clear hI hHk hds
            have hsz' := hex.size
            by_cases hlt2 : i + k2 < d.size
            · obtain ⟨mp, hmp⟩ : ∃ mp, mp = k2 - 1 := ⟨_, rfl⟩
              have hwp2 : IntKind.i64.wrap ((k2 : Int) - 1) = (mp : Int) := by rw [IntKind.wrap_i64]; omega
              have hl2 : ((d.size - i : Nat) : Int) = (d.size : Int) - i := by omega
              have b3 : (k2 : Int) < (d.size : Int) - i := by omega
              have b4 : (mp : Int) < (d.size : Int) - i := by omega
              have b5 : k2 < d.size - i := by omega
              have b6 : mp < d.size - i := by omega
              have hdz : dk.size = d.size := HDS.out
              have HMP := Lib.hid hmp
              have HDZ := Lib.hid hdz
              clear hmp hdz
              have hHc : ∀ n' os', HoldsK enc k (grow (wr.drewN n') os') g off dk := fun n' os' => holdsK_grow enc k _ os' g off dk (by show g < wr.heap.size; omega) (show HoldsK enc k (wr.drewN n') g off dk from HHk.out)
              obtain ⟨v1, hv1⟩ : ∃ v, dk[i + k2]! = v := ⟨_, rfl⟩
              obtain ⟨v2, hv2⟩ : ∃ v, dk[i + mp]! = v := ⟨_, rfl⟩
              have l1 : ∀ n' os', Sem.run P (loadCellsFrom ⟨g, off + i * k + k2 * k, none⟩ 0 k #[]) (grow (wr.drewN n') os') = .ok (enc v1).toArray (grow (wr.drewN n') os') := fun n' os' => by
                rw [← hv1, show off + i * k + k2 * k = off + (i + k2) * k by exact shiftAtK _ _ _ _]; exact run_loadCellsFrom_list P _ _ _ k (HK.out _) (HoldsK.cells (hHc n' os') HK.out (by have := HDZ.out; omega))
              have l2 : ∀ n' os', Sem.run P (loadCellsFrom ⟨g, off + i * k + mp * k, none⟩ 0 k #[]) (grow (wr.drewN n') os') = .ok (enc v2).toArray (grow (wr.drewN n') os') := fun n' os' => by
                rw [← hv2, show off + i * k + mp * k = off + (i + mp) * k by exact shiftAtK _ _ _ _]; exact run_loadCellsFrom_list P _ _ _ k (HK.out _) (HoldsK.cells (hHc n' os') HK.out (by have := HDZ.out; omega))
              have hcg : ∀ n' os', Calls P f (#[.agg (enc v1).toArray, .agg (enc v2).toArray] ++ cb) (grow (wr.drewN n') os') fun e w' => e = .returned (.bool (eq v1 v2)) ∧ ∃ q os'', w' = grow ((grow (wr.drewN n') os').drewN q) os'' := fun n' os' => HC.out _ (hex.trans (exGrowK n' os' none (Nat.le_refl _)) hsz' (by simp)) _ _
              have HV : Hid (dk[i + k2]! = v1 ∧ dk[i + mp]! = v2) := ⟨hv1, hv2⟩
              clear hHc hv1 hv2
              by_cases hlv : eq v1 v2 = true
              · simp only [hlv] at hcg
                go_wp2_with fail
                go_quiet_grown (first | (go_at_fn f; refine Calls.grown_of (hcg _ _)))
                go_wp2
                go_roundw
                case rel => exact ⟨kk, k2 + 1, dk, rfl, by go_num, by omega, by omega, HI.out.skip (stays_of (by omega) true (by
                  have e1 := HI.out.rest (i + k2) (by omega)
                  have e2 := HI.out.rest (i + mp) (by have := HMP.out; omega)
                  rw [show i + k2 - 1 = i + mp by have := HMP.out; omega, ← e1, ← e2, HV.out.1, HV.out.2]; exact hlv)), holdsK_grow enc k _ _ g off dk (by show g < wr.heap.size; omega) (show HoldsK enc k (wr.drewN nq) g off dk from HHk.out), hex.trans (exGrowK nq osq none (Nat.le_refl _)) hsz' (by simp)⟩
                case measure => simp [intOf]; omega
              · have hlv' : eq v1 v2 = false := by simpa using hlv
                simp only [hlv'] at hcg
                go_wp2_with fail
                go_quiet_grown (first | (go_at_fn f; refine Calls.grown_of (hcg _ _)))
                obtain ⟨wq, hwq⟩ : ∃ wq : World, wq = grow (wr.drewN nq) osq := ⟨_, rfl⟩
                have hHq : HoldsK enc k wq g off dk := by rw [hwq]; exact holdsK_grow enc k _ _ g off dk (by show g < wr.heap.size; omega) (show HoldsK enc k (wr.drewN nq) g off dk from HHk.out)
                have hexq : Ex w.heap.size (some g) w wq := by rw [hwq]; exact hex.trans (exGrowK nq osq none (Nat.le_refl _)) hsz' (by simp)
                have lq : Sem.run P (loadCellsFrom ⟨g, off + i * k + k2 * k, none⟩ 0 k #[]) wq = .ok (enc v1).toArray wq := by rw [hwq]; exact l1 nq osq
                rw [← hwq]
                have sq : Sem.run P (storeCells ⟨g, off + kk * k, none⟩ (enc v1) 0) wq = .ok () (wq.setCells g (off + kk * k) (enc v1)) := stores_of_holds P hHq (kk * k) _ (by
                  rw [HK.out, size_flatK]
                  have := Nat.mul_le_mul_right k (show kk + 1 ≤ dk.size by have := HDZ.out; omega); rwa [Nat.add_mul, Nat.one_mul] at this) (H1.out _)
                have hsV : (enc v1).length = k := HK.out _
                have HQ := Lib.hid hHq
                have hszq := hexq.size
                clear l1 l2 hcg hwq hHq
                obtain ⟨cV, hcV⟩ : ∃ c, c = enc v1 := ⟨_, rfl⟩
                rw [← hcV] at lq sq hsV
                have CC := Lib.hid hcV
                clear hcV
                have b7 : (kk : Int) < d.size := by omega
                go_wp2
                go_roundw
                case rel =>
                  have e1 := HI.out.rest (i + k2) (by omega)
                  have e2 := HI.out.rest (i + mp) (by have := HMP.out; omega)
                  have hk := HI.out.keep (stays_of (by omega) false (by
                    rw [show i + k2 - 1 = i + mp by have := HMP.out; omega, ← e1, ← e2, HV.out.1, HV.out.2]; exact hlv')) hlt2
                  rw [← e1, HV.out.1] at hk
                  refine ⟨kk + 1, k2 + 1, dk.setIfInBounds kk v1, by go_num, by go_num, by omega, by omega, hk, ?_, hexq.trans (ex_setCells wq g (off + kk * k) cV) hszq (fun q e _ => by cases e; rfl)⟩
                  rw [CC.out]
                  exact holdsK_set HK.out HQ.out kk v1 (by have := HDZ.out; omega)
                case measure => simp [intOf]; omega
            · obtain ⟨n, hn⟩ : ∃ n, n = d.size := ⟨_, rfl⟩
              have hend : i + k2 = d.size := by omega
              have hdz : dk.size = d.size := HDS.out
              have hcl : ∀ ty, (Builtin.clear_ #[96] ty #[.slice (some ⟨g, off + kk * k, none⟩) (d.size - kk) (cap - kk)]).run P wr = .ok (.tuple #[]) (wr.setCells g (off + kk * k) (Builtin.zeroCells z (d.size - kk)).toList) :=
                fun ty => runClearK wr _ _ ty (.agg z) k L.t4 HZ.out.1 HZ.out.2.1 HZ.out.2.2 g (off + kk * k) _ _ (by omega) (fun j hj => by
                  have := (HHk.out (kk * k + j) (by rw [size_flatK, hdz]; have := Nat.add_mul kk (d.size - kk) k; rw [show kk + (d.size - kk) = d.size by omega] at this; omega)).1
                  rw [Nat.add_assoc, this]; rfl) (fun j hj => by
                  have := (HHk.out (kk * k + j) (by rw [size_flatK, hdz]; have := Nat.add_mul kk (d.size - kk) k; rw [show kk + (d.size - kk) = d.size by omega] at this; omega)).2
                  rw [Nat.add_assoc]; exact this)
              have hexc := hex.trans (ex_setCells wr g (off + kk * k) (Builtin.zeroCells z (d.size - kk)).toList) hsz' (fun q e _ => by cases e; rfl)
              have hfin : HoldsK enc k (wr.setCells g (off + kk * k) (Builtin.zeroCells z (d.size - kk)).toList) g off (cpt eq d d.size).toArray := by
                have hI := HI.out
                rw [hend] at hI
                obtain ⟨h1, h2⟩ := hI.head (Nat.le_refl _)
                exact holdsK_behind (holdsK_first HHk.out h1 h2) _ _ (by simp [hI.len])
              have hlen : (cpt eq d d.size).length = kk := by have := HI.out.len; rwa [hend] at this
              have FIN := Lib.hid (And.intro hexc (And.intro hfin hlen))
              have b7 : (kk : Int) ≤ d.size := by omega
              have b8 : ¬ (k2 : Int) < (d.size : Int) - i := by omega
              have b9 : ¬ k2 < d.size - i := by omega
              have b10 : (kk : Int) ≤ cap := by omega
              have b11 : kk ≤ cap := by omega
              have b12 : kk ≤ d.size := by omega
              have b13 : ¬ cap = kk := by omega
              clear hexc hfin hlen hend hdz hn
              go_wp2
              go_ret
              exact ⟨by rw [FIN.out.2.2]; rfl, FIN.out.2.1, FIN.out.1⟩
        · have hlv' : eq v1 v2 = false := by simpa using hlv
          simp only [hlv'] at hcg
          go_wp2_with fail
          go_quiet_grown (first | (go_at_fn f; refine Calls.grown_of (hcg _ _)))
          go_wp2
          go_roundw
          case rel => exact ⟨i + 1, by go_num, by omega, by omega, fun j hj => by
            by_cases e : j = i
            · subst e
              exact stays_of (by omega) false (by rw [← HIP.out, HV.out.1, HV.out.2]; exact hlv')
            · exact HA.out j (by omega), holdsK_grow enc k _ _ g off d (by show g < wr.heap.size; omega) (show HoldsK enc k (wr.drewN nq) g off d from HHk.out), hex.trans (exGrowK nq osq none (Nat.le_refl _)) hsz' (by simp)⟩
          case measure => simp [intOf]; omega
      · obtain rfl : i = d.size := by omega
        go_wp2
        go_ret
        obtain ⟨e1, e2⟩ := SAME.out wr HA.out HHk.out
        exact ⟨by rw [e1]; rfl, e2, hex⟩
end Go.Proofs.YtaihmldiglgipaaGreat

namespace Go.Proofs
open Go.Shelf
end Go.Proofs

namespace Go.Proofs.YtaihmldiglgipaaGreat
open Go.Sort
variable {α β : Type} [Inhabited α] [Inhabited β]

theorem map_get! (f : α → β) (d : Array α) (i : Nat) (h : i < d.size) : (d.map f)[i]! = f d[i]! := by
  rw [getElem!_pos (d.map f) i (by simpa using h), getElem!_pos d i h]; simp
theorem stays_map (f : α → β) {eq : α → α → Bool} {eq' : β → β → Bool} (h : ∀ x y, eq x y = eq' (f x) (f y)) (d : Array α) (j : Nat) (hj : j < d.size) : stays eq d j = stays eq' (d.map f) j := by
  unfold stays
  rw [map_get! f d j hj, map_get! f d (j - 1) (by omega), h]
theorem cpt_map (f : α → β) {eq : α → α → Bool} {eq' : β → β → Bool} (h : ∀ x y, eq x y = eq' (f x) (f y)) (d : Array α) : ∀ n, n ≤ d.size → (cpt eq d n).map f = cpt eq' (d.map f) n := by
  intro n
  induction n with
  | zero => exact fun _ => rfl
  | succ n ih =>
    intro hn
    have e := stays_map f h d n (by omega)
    cases hs : stays eq d n with
    | true => rw [cpt_yes hs, cpt_yes (by rw [← e]; exact hs), List.map_append, ih (by omega), List.map_cons, List.map_nil, map_get! f d n (by omega)]
    | false => rw [cpt_no hs, cpt_no (by rw [← e]; exact hs), ih (by omega)]
theorem cpt_mem {eq : α → α → Bool} {d : Array α} {x : α} : ∀ n, n ≤ d.size → x ∈ cpt eq d n → x ∈ d.toList := by
  intro n
  induction n with
  | zero => exact fun _ h => by cases h
  | succ n ih =>
    intro hn h
    cases hs : stays eq d n with
    | true =>
      rw [cpt_yes hs, List.mem_append, List.mem_singleton] at h
      rcases h with h | h
      · exact ih (by omega) h
      · subst h
        rw [getElem!_pos d n (by omega)]
        simp
    | false => rw [cpt_no hs] at h; exact ih (by omega) h
/-- A permutation of a whole row, as lists. -/
theorem permIn_list {d d' : Array α} (h : PermIn 0 d.size d d') : d'.toList.Perm d.toList := by
  obtain ⟨hs, _, hp⟩ := h
  have e : d'.extract 0 d.size = d' := by rw [← hs]; exact Array.extract_size
  rw [e, Array.extract_size] at hp
  exact hp
end Go.Proofs.YtaihmldiglgipaaGreat

namespace Go.Proofs
open Go.Shelf
def Tryz.pdqSt_ren : Go.Shelf.Ren := ⟨fun | 6 => 52 | 15 => 81 | 14 => 80 | 28 => 121 | 29 => 122 | 20 => 113 | 21 => 114 | 22 => 115 | 23 => 116 | 24 => 117 | 25 => 118 | 26 => 119 | 27 => 120 | 46 => 139 | 47 => 140 | 48 => 141 | 49 => 142 | 50 => 143 | 57 => 167 | n => n, fun | 22 => 29 | 24 => 35 | 25 => 92 | 3 => 3 | 39 => 118 | 0 => 0 | 53 => 154 | 55 => 156 | 4 => 4 | 46 => 147 | 45 => 146 | 50 => 151 | 5 => 5 | 9 => 9 | 66 => 173 | 70 => 177 | 76 => 194 | 77 => 195 | n => n, fun | n => n⟩
theorem Tryz.pdqSt : Go.Proofs.SlLaysF0.n6 Tryz.prog Tryz.pdqSt_ren := {
  mixed := by kernel_rfl
  f6 := ⟨Tryz.f52.name, by decide, Tryz.func52.trans (congrArg some (by kernel_rfl))⟩
  f14 := ⟨Tryz.f80.name, by decide, Tryz.func80.trans (congrArg some (by kernel_rfl))⟩
  f15 := Tryz.func81.trans (congrArg some (by kernel_rfl))
  f20 := ⟨Tryz.f113.name, by decide, Tryz.func113.trans (congrArg some (by kernel_rfl))⟩
  f21 := ⟨Tryz.f114.name, by decide, Tryz.func114.trans (congrArg some (by kernel_rfl))⟩
  f22 := ⟨Tryz.f115.name, by decide, Tryz.func115.trans (congrArg some (by kernel_rfl))⟩
  f23 := ⟨Tryz.f116.name, by decide, Tryz.func116.trans (congrArg some (by kernel_rfl))⟩
  f24 := ⟨Tryz.f117.name, by decide, Tryz.func117.trans (congrArg some (by kernel_rfl))⟩
  f25 := ⟨Tryz.f118.name, by decide, Tryz.func118.trans (congrArg some (by kernel_rfl))⟩
  f26 := ⟨Tryz.f119.name, by decide, Tryz.func119.trans (congrArg some (by kernel_rfl))⟩
  f27 := ⟨Tryz.f120.name, by decide, Tryz.func120.trans (congrArg some (by kernel_rfl))⟩
  f28 := Tryz.func121.trans (congrArg some (by kernel_rfl))
  f29 := Tryz.func122.trans (congrArg some (by kernel_rfl))
  f46 := ⟨Tryz.f139.name, by decide, Tryz.func139.trans (congrArg some (by kernel_rfl))⟩
  f47 := Tryz.func140.trans (congrArg some (by kernel_rfl))
  f48 := Tryz.func141.trans (congrArg some (by kernel_rfl))
  f49 := ⟨Tryz.f142.name, by decide, Tryz.func142.trans (congrArg some (by kernel_rfl))⟩
  f50 := ⟨Tryz.f143.name, by decide, Tryz.func143.trans (congrArg some (by kernel_rfl))⟩
  f57 := ⟨Tryz.f167.name, by decide, Tryz.func167.trans (congrArg some (by kernel_rfl))⟩
  t0 := Tryz.underlying0
  a0 := Tryz.isAgg0
  z0 := Tryz.sizeOf0
  v0 := Tryz.zeroValue0
  t3 := Tryz.underlying3
  a3 := Tryz.isAgg3
  z3 := Tryz.sizeOf3
  v3 := Tryz.zeroValue3
  t4 := Tryz.underlying4
  a4 := Tryz.isAgg4
  z4 := Tryz.sizeOf4
  v4 := Tryz.zeroValue4
  t5 := Tryz.underlying5
  a5 := Tryz.isAgg5
  z5 := Tryz.sizeOf5
  v5 := Tryz.zeroValue5
  t9 := Tryz.underlying9
  a9 := Tryz.isAgg9
  z9 := Tryz.sizeOf9
  v9 := Tryz.zeroValue9
  t22 := Tryz.underlying29
  a22 := Tryz.isAgg29
  z22 := Tryz.sizeOf29
  v22 := Tryz.zeroValue29
  t25 := Tryz.underlying92
  a25 := Tryz.isAgg92
  z25 := Tryz.sizeOf92
  v25 := Tryz.zeroValue92
  t39 := Tryz.underlying118
  a39 := Tryz.isAgg118
  z39 := Tryz.sizeOf118
  v39 := Tryz.zeroValue118
  t45 := Tryz.underlying146
  a45 := Tryz.isAgg146
  z45 := Tryz.sizeOf146
  v45 := Tryz.zeroValue146
  t46 := Tryz.underlying147
  a46 := Tryz.isAgg147
  z46 := Tryz.sizeOf147
  v46 := Tryz.zeroValue147
  t50 := Tryz.underlying151
  a50 := Tryz.isAgg151
  z50 := Tryz.sizeOf151
  v50 := Tryz.zeroValue151
  t53 := Tryz.underlying154
  a53 := Tryz.isAgg154
  z53 := Tryz.sizeOf154
  v53 := Tryz.zeroValue154
  t55 := Tryz.underlying156
  a55 := Tryz.isAgg156
  z55 := Tryz.sizeOf156
  v55 := Tryz.zeroValue156
  t66 := Tryz.underlying173
  a66 := Tryz.isAgg173
  z66 := Tryz.sizeOf173
  v66 := Tryz.zeroValue173
  t70 := Tryz.underlying177
  a70 := Tryz.isAgg177
  z70 := Tryz.sizeOf177
  v70 := Tryz.zeroValue177
  t76 := Tryz.underlying194
  a76 := Tryz.isAgg194
  z76 := Tryz.sizeOf194
  v76 := Tryz.zeroValue194
  t77 := Tryz.underlying195
  a77 := Tryz.isAgg195
  z77 := Tryz.sizeOf195
  v77 := Tryz.zeroValue195 }
end Go.Proofs

namespace Go.Proofs.YtaihmldiglgipaaGreat
open Go.RowKit Go.Sort

structure CLaySt (P : Program) (k : Nat) : Prop where
  mixed : P.follows .mixedOrders = true
  t0 : P.underlying 0 = some (TypeDesc.tuple #[])
  a0 : ∀ w, (isAgg 0).run P w = .ok false w
  z0 : ∀ w, (Go.sizeOf 0).run P w = .ok 1 w
  v0 : ∀ w, (zeroValue 0).run P w = .ok (Value.tuple #[]) w
  t1 : P.underlying 3 = some (TypeDesc.int IntKind.i64)
  a1 : ∀ w, (isAgg 3).run P w = .ok false w
  z1 : ∀ w, (Go.sizeOf 3).run P w = .ok 1 w
  v1 : ∀ w, (zeroValue 3).run P w = .ok (Value.int IntKind.i64 0) w
  t2 : P.underlying 4 = some (TypeDesc.bool)
  a2 : ∀ w, (isAgg 4).run P w = .ok false w
  z2 : ∀ w, (Go.sizeOf 4).run P w = .ok 1 w
  v2 : ∀ w, (zeroValue 4).run P w = .ok (Value.bool false) w
  t3 : P.underlying 118 = some (TypeDesc.int IntKind.u64)
  a3 : ∀ w, (isAgg 118).run P w = .ok false w
  z3 : ∀ w, (Go.sizeOf 118).run P w = .ok 1 w
  v3 : ∀ w, (zeroValue 118).run P w = .ok (Value.int IntKind.u64 0) w
  t4 : P.underlying 29 = some (TypeDesc.slice 35)
  a4 : ∀ w, (isAgg 29).run P w = .ok false w
  z4 : ∀ w, (Go.sizeOf 29).run P w = .ok 1 w
  v4 : ∀ w, (zeroValue 29).run P w = .ok (Value.slice none 0 0) w
  t5 : P.underlying 92 = some (TypeDesc.func #[35, 35] #[3] false)
  a5 : ∀ w, (isAgg 92).run P w = .ok false w
  z5 : ∀ w, (Go.sizeOf 92).run P w = .ok 1 w
  v5 : ∀ w, (zeroValue 92).run P w = .ok (Value.nilFunc) w
  aE : ∀ w, (isAgg 35).run P w = .ok true w
  zE : ∀ w, (Go.sizeOf 35).run P w = .ok k w

theorem claySt : CLaySt Tryz.prog 13 := {
  mixed := by kernel_rfl
  t0 := Tryz.underlying0
  a0 := Tryz.isAgg0
  z0 := Tryz.sizeOf0
  v0 := Tryz.zeroValue0
  t1 := Tryz.underlying3
  a1 := Tryz.isAgg3
  z1 := Tryz.sizeOf3
  v1 := Tryz.zeroValue3
  t2 := Tryz.underlying4
  a2 := Tryz.isAgg4
  z2 := Tryz.sizeOf4
  v2 := Tryz.zeroValue4
  t3 := Tryz.underlying118
  a3 := Tryz.isAgg118
  z3 := Tryz.sizeOf118
  v3 := Tryz.zeroValue118
  t4 := Tryz.underlying29
  a4 := Tryz.isAgg29
  z4 := Tryz.sizeOf29
  v4 := Tryz.zeroValue29
  t5 := Tryz.underlying92
  a5 := Tryz.isAgg92
  z5 := Tryz.sizeOf92
  v5 := Tryz.zeroValue92
  aE := Tryz.isAgg35
  zE := Tryz.sizeOf35 }
end Go.Proofs.YtaihmldiglgipaaGreat

namespace Go.Proofs.YtaihmldiglgipaaGreat
open Go.RowKit Go.Sort
variable {P : Program} {α : Type} [Inhabited α]

set_option maxHeartbeats 8000000 in
set_option maxRecDepth 1000000 in
theorem compactWSt_any {k : Nat} (L : CLaySt P k) (enc : α → List Value) (hk : ∀ x, (enc x).length = k) (h1 : ∀ x, ∀ v ∈ enc x, v.oneCell' = true) (eq : α → α → Bool) (f : Nat) (cb : Array Value)
    (ef : ∀ args w, (callFunc f args).run P w = .ok (.enter f args) w)
    (fC : P.funcs[53]? = some Tryz.f53)
    (z : Array Value) (hv : ∀ w, (zeroValue 35).run P w = .ok (.agg z) w) (hz : z.size = k) (hz1 : ∀ v ∈ z, v.oneCell' = true)
    (_t6 : P.underlying 71 = some (TypeDesc.func #[35, 35] #[4] false))
    (_a6 : ∀ w, (isAgg 71).run P w = .ok false w) (_z6 : ∀ w, (Go.sizeOf 71).run P w = .ok 1 w)
    (g off cap s : Nat) (d : Array α) (w : World) (hH : HoldsK enc k w g off d) (hg : g < w.heap.size) (hsz : d.size < 1000000000000) (hcap : d.size ≤ cap) (hs : d.size = s)
    (hcmp : ∀ w', Ex w.heap.size (some g) w w' → ∀ x y : α, Calls P f (#[.agg (enc x).toArray, .agg (enc y).toArray] ++ cb) w' fun e w'' => e = .returned (.bool (eq x y)) ∧ ∃ q os', w'' = grow (w'.drewN q) os') :
    Calls P 53 #[.slice (some ⟨g, off, none⟩) s cap, .func (.func f) #[] cb] w fun e w' =>
      e = .returned (.slice (some ⟨g, off, none⟩) (cpt eq d s).length cap) ∧ HoldsK enc k w' g off (cpt eq d s).toArray ∧ Ex w.heap.size (some g) w w' := by
  subst hs
  have mixed := L.mixed; have t0 := L.t0; have a0 := L.a0; have z0 := L.z0; have v0 := L.v0; have t1 := L.t1; have a1 := L.a1; have z1 := L.z1; have v1 := L.v1; have t2 := L.t2; have a2 := L.a2; have z2 := L.z2; have v2 := L.v2; have t3 := L.t3; have a3 := L.a3; have z3 := L.z3; have v3 := L.v3; have t4 := L.t4; have a4 := L.a4; have z4 := L.z4; have v4 := L.v4; have t5 := L.t5; have a5 := L.a5; have z5 := L.z5; have v5 := L.v5; have aE := L.aE; have zE := L.zE
  have u4 := run_underlying L.t4
  have HK := Lib.hid hk
  have H1 := Lib.hid h1
  have HC := Lib.hid hcmp
  have HHw := Lib.hid hH
  have HZ := Lib.hid (And.intro hv (And.intro hz hz1))
  have same : ∀ wr, (∀ j, j < d.size → stays eq d j = true) → HoldsK enc k wr g off d → (cpt eq d d.size).length = d.size ∧ HoldsK enc k wr g off (cpt eq d d.size).toArray := fun wr hall h => by
    have e := cpt_all hall (Nat.le_refl _)
    rw [e, List.take_of_length_le (by simp)]
    exact ⟨by simp, by simpa using h⟩
  have SAME := Lib.hid same
  clear hk h1 hcmp hH hv hz hz1 same
  by_cases h2 : d.size < 2
  · go_enter fC, Tryz.ntmps53
    go_wp2
    go_ret
    obtain ⟨e1, e2⟩ := SAME.out w (fun j hj => by obtain rfl : j = 0 := (by omega); rfl) HHw.out
    exact ⟨by rw [e1]; rfl, e2, Ex.refl _ _ _⟩
  · go_enter fC, Tryz.ntmps53
    go_wp2
    go_loopw [5] (fun s3 wr => ∃ i : Nat, s3 = .int .i64 i ∧ 1 ≤ i ∧ i ≤ d.size ∧ (∀ j, j < i → stays eq d j = true) ∧ HoldsK enc k wr g off d ∧ Ex w.heap.size (some g) w wr) (fun s3 _ => d.size - (intOf s3).toNat)
    case atStart => exact ⟨1, rfl, Nat.le_refl _, by omega, fun j hj => by obtain rfl : j = 0 := (by omega); rfl, HHw.out, Ex.refl _ _ _⟩
    case round =>
      obtain ⟨i, rfl, hi1, hi, hall, hHk, hex⟩ := hrel
      have HHk := Lib.hid hHk
      have HA := Lib.hid hall
      clear hHk hall
      have hsz' := hex.size
      by_cases hlt : i < d.size
      · obtain ⟨ip, hip⟩ : ∃ ip, ip = i - 1 := ⟨_, rfl⟩
        have hwp : IntKind.i64.wrap ((i : Int) - 1) = (ip : Int) := by rw [IntKind.wrap_i64]; omega
        have b1 : (i : Int) < d.size := by omega
        have b2 : (ip : Int) < d.size := by omega
        have HIP := Lib.hid hip
        clear hip
        have hHc : ∀ n' os', HoldsK enc k (grow (wr.drewN n') os') g off d := fun n' os' => holdsK_grow enc k _ os' g off d (by show g < wr.heap.size; omega) (show HoldsK enc k (wr.drewN n') g off d from HHk.out)
        obtain ⟨v1, hv1⟩ : ∃ v, d[i]! = v := ⟨_, rfl⟩
        obtain ⟨v2, hv2⟩ : ∃ v, d[ip]! = v := ⟨_, rfl⟩
        have l1 : ∀ n' os', Sem.run P (loadCellsFrom ⟨g, off + i * k, none⟩ 0 k #[]) (grow (wr.drewN n') os') = .ok (enc v1).toArray (grow (wr.drewN n') os') := fun n' os' => by
          rw [← hv1, show off + i * k = off + (i) * k by rfl]; exact run_loadCellsFrom_list P _ _ _ k (HK.out _) (HoldsK.cells (hHc n' os') HK.out (by omega))
        have l2 : ∀ n' os', Sem.run P (loadCellsFrom ⟨g, off + ip * k, none⟩ 0 k #[]) (grow (wr.drewN n') os') = .ok (enc v2).toArray (grow (wr.drewN n') os') := fun n' os' => by
          rw [← hv2, show off + ip * k = off + (ip) * k by rfl]; exact run_loadCellsFrom_list P _ _ _ k (HK.out _) (HoldsK.cells (hHc n' os') HK.out (by omega))
        have hcg : ∀ n' os', Calls P f (#[.agg (enc v1).toArray, .agg (enc v2).toArray] ++ cb) (grow (wr.drewN n') os') fun e w' => e = .returned (.bool (eq v1 v2)) ∧ ∃ q os'', w' = grow ((grow (wr.drewN n') os').drewN q) os'' := fun n' os' => HC.out _ (hex.trans (exGrowK n' os' none (Nat.le_refl _)) hsz' (by simp)) _ _
        have HV : Hid (d[i]! = v1 ∧ d[ip]! = v2) := ⟨hv1, hv2⟩
        clear hHc hv1 hv2
        by_cases hlv : eq v1 v2 = true
        · simp only [hlv] at hcg
          go_wp2_with fail
          go_quiet_grown (first | (go_at_fn f; refine Calls.grown_of (hcg _ _)))
          have hc0 : i ≤ cap := by omega
          by_cases hce : cap = i
          · omega
          go_wp2
          obtain ⟨wo, hwo⟩ : ∃ wo : World, wo = grow (wr.drewN nq) osq := ⟨_, rfl⟩
          have hHo : HoldsK enc k wo g off d := by rw [hwo]; exact holdsK_grow enc k _ _ g off d (by show g < wr.heap.size; omega) (show HoldsK enc k (wr.drewN nq) g off d from HHk.out)
          have hexo : Ex w.heap.size (some g) w wo := by rw [hwo]; exact hex.trans (exGrowK nq osq none (Nat.le_refl _)) hsz' (by simp)
          rw [← hwo]
          have HHo := Lib.hid hHo
          have HD0 : Hid (stays eq d i = false) := by
            have := stays_of (eq := eq) (d := d) (n := i) (by omega) true (by rw [← HIP.out, HV.out.1, HV.out.2]; exact hlv)
            exact this
          clear hHo hwo l1 l2 hcg hlv
          go_loopw [5, 7] (fun s3 s5 wr => ∃ (kk k2 : Nat) (dk : Array α), s3 = .int .i64 kk ∧ s5 = .int .i64 k2 ∧ 1 ≤ k2 ∧ i + k2 ≤ d.size ∧ CInv eq d (i + k2) kk dk ∧ HoldsK enc k wr g off dk ∧ Ex w.heap.size (some g) w wr) (fun _ s5 _ => d.size - (intOf s5).toNat)
          case atStart => exact ⟨i, 1, d, rfl, rfl, Nat.le_refl _, by omega, CInv.start HA.out HD0.out hlt, HHo.out, hexo⟩
          case round =>
            clear HHk HHo HD0 hex hexo hsz' HV
            obtain ⟨kk, k2, dk, rfl, rfl, h1, hle, hI, hHk, hex⟩ := hrel
            have hkk := hI.lt
            have hds := hI.size
            have HI := Lib.hid hI
            have HHk := Lib.hid hHk
            have HDS := Lib.hid hds
            clear hI hHk hds
            have hsz' := hex.size
            by_cases hlt2 : i + k2 < d.size
            · obtain ⟨mp, hmp⟩ : ∃ mp, mp = k2 - 1 := ⟨_, rfl⟩
              have hwp2 : IntKind.i64.wrap ((k2 : Int) - 1) = (mp : Int) := by rw [IntKind.wrap_i64]; omega
              have hl2 : ((d.size - i : Nat) : Int) = (d.size : Int) - i := by omega
              have b3 : (k2 : Int) < (d.size : Int) - i := by omega
              have b4 : (mp : Int) < (d.size : Int) - i := by omega
              have b5 : k2 < d.size - i := by omega
              have b6 : mp < d.size - i := by omega
              have hdz : dk.size = d.size := HDS.out
              have HMP := Lib.hid hmp
              have HDZ := Lib.hid hdz
              clear hmp hdz
              have hHc : ∀ n' os', HoldsK enc k (grow (wr.drewN n') os') g off dk := fun n' os' => holdsK_grow enc k _ os' g off dk (by show g < wr.heap.size; omega) (show HoldsK enc k (wr.drewN n') g off dk from HHk.out)
              obtain ⟨v1, hv1⟩ : ∃ v, dk[i + k2]! = v := ⟨_, rfl⟩
              obtain ⟨v2, hv2⟩ : ∃ v, dk[i + mp]! = v := ⟨_, rfl⟩
              have l1 : ∀ n' os', Sem.run P (loadCellsFrom ⟨g, off + i * k + k2 * k, none⟩ 0 k #[]) (grow (wr.drewN n') os') = .ok (enc v1).toArray (grow (wr.drewN n') os') := fun n' os' => by
                rw [← hv1, show off + i * k + k2 * k = off + (i + k2) * k by exact shiftAtK _ _ _ _]; exact run_loadCellsFrom_list P _ _ _ k (HK.out _) (HoldsK.cells (hHc n' os') HK.out (by have := HDZ.out; omega))
              have l2 : ∀ n' os', Sem.run P (loadCellsFrom ⟨g, off + i * k + mp * k, none⟩ 0 k #[]) (grow (wr.drewN n') os') = .ok (enc v2).toArray (grow (wr.drewN n') os') := fun n' os' => by
                rw [← hv2, show off + i * k + mp * k = off + (i + mp) * k by exact shiftAtK _ _ _ _]; exact run_loadCellsFrom_list P _ _ _ k (HK.out _) (HoldsK.cells (hHc n' os') HK.out (by have := HDZ.out; omega))
              have hcg : ∀ n' os', Calls P f (#[.agg (enc v1).toArray, .agg (enc v2).toArray] ++ cb) (grow (wr.drewN n') os') fun e w' => e = .returned (.bool (eq v1 v2)) ∧ ∃ q os'', w' = grow ((grow (wr.drewN n') os').drewN q) os'' := fun n' os' => HC.out _ (hex.trans (exGrowK n' os' none (Nat.le_refl _)) hsz' (by simp)) _ _
              have HV : Hid (dk[i + k2]! = v1 ∧ dk[i + mp]! = v2) := ⟨hv1, hv2⟩
              clear hHc hv1 hv2
              by_cases hlv : eq v1 v2 = true
              · simp only [hlv] at hcg
                go_wp2_with fail
                go_quiet_grown (first | (go_at_fn f; refine Calls.grown_of (hcg _ _)))
                go_wp2
                go_roundw
                case rel => exact ⟨kk, k2 + 1, dk, rfl, by go_num, by omega, by omega, HI.out.skip (stays_of (by omega) true (by
                  have e1 := HI.out.rest (i + k2) (by omega)
                  have e2 := HI.out.rest (i + mp) (by have := HMP.out; omega)
                  rw [show i + k2 - 1 = i + mp by have := HMP.out; omega, ← e1, ← e2, HV.out.1, HV.out.2]; exact hlv)), holdsK_grow enc k _ _ g off dk (by show g < wr.heap.size; omega) (show HoldsK enc k (wr.drewN nq) g off dk from HHk.out), hex.trans (exGrowK nq osq none (Nat.le_refl _)) hsz' (by simp)⟩
                case measure => simp [intOf]; omega
              · have hlv' : eq v1 v2 = false := by simpa using hlv
                simp only [hlv'] at hcg
                go_wp2_with fail
                go_quiet_grown (first | (go_at_fn f; refine Calls.grown_of (hcg _ _)))
                obtain ⟨wq, hwq⟩ : ∃ wq : World, wq = grow (wr.drewN nq) osq := ⟨_, rfl⟩
                have hHq : HoldsK enc k wq g off dk := by rw [hwq]; exact holdsK_grow enc k _ _ g off dk (by show g < wr.heap.size; omega) (show HoldsK enc k (wr.drewN nq) g off dk from HHk.out)
                have hexq : Ex w.heap.size (some g) w wq := by rw [hwq]; exact hex.trans (exGrowK nq osq none (Nat.le_refl _)) hsz' (by simp)
                have lq : Sem.run P (loadCellsFrom ⟨g, off + i * k + k2 * k, none⟩ 0 k #[]) wq = .ok (enc v1).toArray wq := by rw [hwq]; exact l1 nq osq
                rw [← hwq]
                have sq : Sem.run P (storeCells ⟨g, off + kk * k, none⟩ (enc v1) 0) wq = .ok () (wq.setCells g (off + kk * k) (enc v1)) := stores_of_holds P hHq (kk * k) _ (by
                  rw [HK.out, size_flatK]
                  have := Nat.mul_le_mul_right k (show kk + 1 ≤ dk.size by have := HDZ.out; omega); rwa [Nat.add_mul, Nat.one_mul] at this) (H1.out _)
                have hsV : (enc v1).length = k := HK.out _
                have HQ := Lib.hid hHq
                have hszq := hexq.size
                clear l1 l2 hcg hwq hHq
                obtain ⟨cV, hcV⟩ : ∃ c, c = enc v1 := ⟨_, rfl⟩
                rw [← hcV] at lq sq hsV
                have CC := Lib.hid hcV
                clear hcV
                have b7 : (kk : Int) < d.size := by omega
                go_wp2
                go_roundw
                case rel =>
                  have e1 := HI.out.rest (i + k2) (by omega)
                  have e2 := HI.out.rest (i + mp) (by have := HMP.out; omega)
                  have hk := HI.out.keep (stays_of (by omega) false (by
                    rw [show i + k2 - 1 = i + mp by have := HMP.out; omega, ← e1, ← e2, HV.out.1, HV.out.2]; exact hlv')) hlt2
                  rw [← e1, HV.out.1] at hk
                  refine ⟨kk + 1, k2 + 1, dk.setIfInBounds kk v1, by go_num, by go_num, by omega, by omega, hk, ?_, hexq.trans (ex_setCells wq g (off + kk * k) cV) hszq (fun q e _ => by cases e; rfl)⟩
                  rw [CC.out]
                  exact holdsK_set HK.out HQ.out kk v1 (by have := HDZ.out; omega)
                case measure => simp [intOf]; omega
            · obtain ⟨n, hn⟩ : ∃ n, n = d.size := ⟨_, rfl⟩
              have hend : i + k2 = d.size := by omega
              have hdz : dk.size = d.size := HDS.out
              have hcl : ∀ ty, (Builtin.clear_ #[29] ty #[.slice (some ⟨g, off + kk * k, none⟩) (d.size - kk) (cap - kk)]).run P wr = .ok (.tuple #[]) (wr.setCells g (off + kk * k) (Builtin.zeroCells z (d.size - kk)).toList) :=
                fun ty => runClearK wr _ _ ty (.agg z) k L.t4 HZ.out.1 HZ.out.2.1 HZ.out.2.2 g (off + kk * k) _ _ (by omega) (fun j hj => by
                  have := (HHk.out (kk * k + j) (by rw [size_flatK, hdz]; have := Nat.add_mul kk (d.size - kk) k; rw [show kk + (d.size - kk) = d.size by omega] at this; omega)).1
                  rw [Nat.add_assoc, this]; rfl) (fun j hj => by
                  have := (HHk.out (kk * k + j) (by rw [size_flatK, hdz]; have := Nat.add_mul kk (d.size - kk) k; rw [show kk + (d.size - kk) = d.size by omega] at this; omega)).2
                  rw [Nat.add_assoc]; exact this)
              have hexc := hex.trans (ex_setCells wr g (off + kk * k) (Builtin.zeroCells z (d.size - kk)).toList) hsz' (fun q e _ => by cases e; rfl)
              have hfin : HoldsK enc k (wr.setCells g (off + kk * k) (Builtin.zeroCells z (d.size - kk)).toList) g off (cpt eq d d.size).toArray := by
                have hI := HI.out
                rw [hend] at hI
                obtain ⟨h1, h2⟩ := hI.head (Nat.le_refl _)
                exact holdsK_behind (holdsK_first HHk.out h1 h2) _ _ (by simp [hI.len])
              have hlen : (cpt eq d d.size).length = kk := by have := HI.out.len; rwa [hend] at this
              have FIN := Lib.hid (And.intro hexc (And.intro hfin hlen))
              have b7 : (kk : Int) ≤ d.size := by omega
              have b8 : ¬ (k2 : Int) < (d.size : Int) - i := by omega
              have b9 : ¬ k2 < d.size - i := by omega
              have b10 : (kk : Int) ≤ cap := by omega
              have b11 : kk ≤ cap := by omega
              have b12 : kk ≤ d.size := by omega
              have b13 : ¬ cap = kk := by omega
              clear hexc hfin hlen hend hdz hn
              go_wp2
              go_ret
              exact ⟨by rw [FIN.out.2.2]; rfl, FIN.out.2.1, FIN.out.1⟩
        · have hlv' : eq v1 v2 = false := by simpa using hlv
          simp only [hlv'] at hcg
          go_wp2_with fail
          go_quiet_grown (first | (go_at_fn f; refine Calls.grown_of (hcg _ _)))
          go_wp2
          go_roundw
          case rel => exact ⟨i + 1, by go_num, by omega, by omega, fun j hj => by
            by_cases e : j = i
            · subst e
              exact stays_of (by omega) false (by rw [← HIP.out, HV.out.1, HV.out.2]; exact hlv')
            · exact HA.out j (by omega), holdsK_grow enc k _ _ g off d (by show g < wr.heap.size; omega) (show HoldsK enc k (wr.drewN nq) g off d from HHk.out), hex.trans (exGrowK nq osq none (Nat.le_refl _)) hsz' (by simp)⟩
          case measure => simp [intOf]; omega
      · obtain rfl : i = d.size := by omega
        go_wp2
        go_ret
        obtain ⟨e1, e2⟩ := SAME.out wr HA.out HHk.out
        exact ⟨by rw [e1]; rfl, e2, hex⟩
end Go.Proofs.YtaihmldiglgipaaGreat

namespace Go.Proofs
open Go.Shelf
def Tryz.pdqCs_ren : Go.Shelf.Ren := ⟨fun | 6 => 83 | 15 => 81 | 14 => 123 | 28 => 121 | 29 => 122 | 20 => 144 | 21 => 145 | 22 => 146 | 23 => 147 | 24 => 148 | 25 => 149 | 26 => 150 | 27 => 151 | 46 => 168 | 47 => 140 | 48 => 141 | 49 => 169 | 50 => 170 | 57 => 174 | n => n, fun | 22 => 45 | 24 => 50 | 25 => 122 | 3 => 3 | 39 => 118 | 0 => 0 | 53 => 154 | 55 => 156 | 4 => 4 | 46 => 147 | 45 => 146 | 50 => 151 | 5 => 5 | 9 => 9 | 66 => 173 | 70 => 177 | 76 => 194 | 77 => 195 | n => n, fun | n => n⟩
theorem Tryz.pdqCs : Go.Proofs.SlLaysF0.n6 Tryz.prog Tryz.pdqCs_ren := {
  mixed := by kernel_rfl
  f6 := ⟨Tryz.f83.name, by decide, Tryz.func83.trans (congrArg some (by kernel_rfl))⟩
  f14 := ⟨Tryz.f123.name, by decide, Tryz.func123.trans (congrArg some (by kernel_rfl))⟩
  f15 := Tryz.func81.trans (congrArg some (by kernel_rfl))
  f20 := ⟨Tryz.f144.name, by decide, Tryz.func144.trans (congrArg some (by kernel_rfl))⟩
  f21 := ⟨Tryz.f145.name, by decide, Tryz.func145.trans (congrArg some (by kernel_rfl))⟩
  f22 := ⟨Tryz.f146.name, by decide, Tryz.func146.trans (congrArg some (by kernel_rfl))⟩
  f23 := ⟨Tryz.f147.name, by decide, Tryz.func147.trans (congrArg some (by kernel_rfl))⟩
  f24 := ⟨Tryz.f148.name, by decide, Tryz.func148.trans (congrArg some (by kernel_rfl))⟩
  f25 := ⟨Tryz.f149.name, by decide, Tryz.func149.trans (congrArg some (by kernel_rfl))⟩
  f26 := ⟨Tryz.f150.name, by decide, Tryz.func150.trans (congrArg some (by kernel_rfl))⟩
  f27 := ⟨Tryz.f151.name, by decide, Tryz.func151.trans (congrArg some (by kernel_rfl))⟩
  f28 := Tryz.func121.trans (congrArg some (by kernel_rfl))
  f29 := Tryz.func122.trans (congrArg some (by kernel_rfl))
  f46 := ⟨Tryz.f168.name, by decide, Tryz.func168.trans (congrArg some (by kernel_rfl))⟩
  f47 := Tryz.func140.trans (congrArg some (by kernel_rfl))
  f48 := Tryz.func141.trans (congrArg some (by kernel_rfl))
  f49 := ⟨Tryz.f169.name, by decide, Tryz.func169.trans (congrArg some (by kernel_rfl))⟩
  f50 := ⟨Tryz.f170.name, by decide, Tryz.func170.trans (congrArg some (by kernel_rfl))⟩
  f57 := ⟨Tryz.f174.name, by decide, Tryz.func174.trans (congrArg some (by kernel_rfl))⟩
  t0 := Tryz.underlying0
  a0 := Tryz.isAgg0
  z0 := Tryz.sizeOf0
  v0 := Tryz.zeroValue0
  t3 := Tryz.underlying3
  a3 := Tryz.isAgg3
  z3 := Tryz.sizeOf3
  v3 := Tryz.zeroValue3
  t4 := Tryz.underlying4
  a4 := Tryz.isAgg4
  z4 := Tryz.sizeOf4
  v4 := Tryz.zeroValue4
  t5 := Tryz.underlying5
  a5 := Tryz.isAgg5
  z5 := Tryz.sizeOf5
  v5 := Tryz.zeroValue5
  t9 := Tryz.underlying9
  a9 := Tryz.isAgg9
  z9 := Tryz.sizeOf9
  v9 := Tryz.zeroValue9
  t22 := Tryz.underlying45
  a22 := Tryz.isAgg45
  z22 := Tryz.sizeOf45
  v22 := Tryz.zeroValue45
  t25 := Tryz.underlying122
  a25 := Tryz.isAgg122
  z25 := Tryz.sizeOf122
  v25 := Tryz.zeroValue122
  t39 := Tryz.underlying118
  a39 := Tryz.isAgg118
  z39 := Tryz.sizeOf118
  v39 := Tryz.zeroValue118
  t45 := Tryz.underlying146
  a45 := Tryz.isAgg146
  z45 := Tryz.sizeOf146
  v45 := Tryz.zeroValue146
  t46 := Tryz.underlying147
  a46 := Tryz.isAgg147
  z46 := Tryz.sizeOf147
  v46 := Tryz.zeroValue147
  t50 := Tryz.underlying151
  a50 := Tryz.isAgg151
  z50 := Tryz.sizeOf151
  v50 := Tryz.zeroValue151
  t53 := Tryz.underlying154
  a53 := Tryz.isAgg154
  z53 := Tryz.sizeOf154
  v53 := Tryz.zeroValue154
  t55 := Tryz.underlying156
  a55 := Tryz.isAgg156
  z55 := Tryz.sizeOf156
  v55 := Tryz.zeroValue156
  t66 := Tryz.underlying173
  a66 := Tryz.isAgg173
  z66 := Tryz.sizeOf173
  v66 := Tryz.zeroValue173
  t70 := Tryz.underlying177
  a70 := Tryz.isAgg177
  z70 := Tryz.sizeOf177
  v70 := Tryz.zeroValue177
  t76 := Tryz.underlying194
  a76 := Tryz.isAgg194
  z76 := Tryz.sizeOf194
  v76 := Tryz.zeroValue194
  t77 := Tryz.underlying195
  a77 := Tryz.isAgg195
  z77 := Tryz.sizeOf195
  v77 := Tryz.zeroValue195 }
end Go.Proofs

namespace Go.Proofs.YtaihmldiglgipaaGreat
open Go.RowKit Go.Sort

structure CLayCs (P : Program) (k : Nat) : Prop where
  mixed : P.follows .mixedOrders = true
  t0 : P.underlying 0 = some (TypeDesc.tuple #[])
  a0 : ∀ w, (isAgg 0).run P w = .ok false w
  z0 : ∀ w, (Go.sizeOf 0).run P w = .ok 1 w
  v0 : ∀ w, (zeroValue 0).run P w = .ok (Value.tuple #[]) w
  t1 : P.underlying 3 = some (TypeDesc.int IntKind.i64)
  a1 : ∀ w, (isAgg 3).run P w = .ok false w
  z1 : ∀ w, (Go.sizeOf 3).run P w = .ok 1 w
  v1 : ∀ w, (zeroValue 3).run P w = .ok (Value.int IntKind.i64 0) w
  t2 : P.underlying 4 = some (TypeDesc.bool)
  a2 : ∀ w, (isAgg 4).run P w = .ok false w
  z2 : ∀ w, (Go.sizeOf 4).run P w = .ok 1 w
  v2 : ∀ w, (zeroValue 4).run P w = .ok (Value.bool false) w
  t3 : P.underlying 118 = some (TypeDesc.int IntKind.u64)
  a3 : ∀ w, (isAgg 118).run P w = .ok false w
  z3 : ∀ w, (Go.sizeOf 118).run P w = .ok 1 w
  v3 : ∀ w, (zeroValue 118).run P w = .ok (Value.int IntKind.u64 0) w
  t4 : P.underlying 45 = some (TypeDesc.slice 50)
  a4 : ∀ w, (isAgg 45).run P w = .ok false w
  z4 : ∀ w, (Go.sizeOf 45).run P w = .ok 1 w
  v4 : ∀ w, (zeroValue 45).run P w = .ok (Value.slice none 0 0) w
  t5 : P.underlying 122 = some (TypeDesc.func #[50, 50] #[3] false)
  a5 : ∀ w, (isAgg 122).run P w = .ok false w
  z5 : ∀ w, (Go.sizeOf 122).run P w = .ok 1 w
  v5 : ∀ w, (zeroValue 122).run P w = .ok (Value.nilFunc) w
  aE : ∀ w, (isAgg 50).run P w = .ok true w
  zE : ∀ w, (Go.sizeOf 50).run P w = .ok k w

theorem clayCs : CLayCs Tryz.prog 4 := {
  mixed := by kernel_rfl
  t0 := Tryz.underlying0
  a0 := Tryz.isAgg0
  z0 := Tryz.sizeOf0
  v0 := Tryz.zeroValue0
  t1 := Tryz.underlying3
  a1 := Tryz.isAgg3
  z1 := Tryz.sizeOf3
  v1 := Tryz.zeroValue3
  t2 := Tryz.underlying4
  a2 := Tryz.isAgg4
  z2 := Tryz.sizeOf4
  v2 := Tryz.zeroValue4
  t3 := Tryz.underlying118
  a3 := Tryz.isAgg118
  z3 := Tryz.sizeOf118
  v3 := Tryz.zeroValue118
  t4 := Tryz.underlying45
  a4 := Tryz.isAgg45
  z4 := Tryz.sizeOf45
  v4 := Tryz.zeroValue45
  t5 := Tryz.underlying122
  a5 := Tryz.isAgg122
  z5 := Tryz.sizeOf122
  v5 := Tryz.zeroValue122
  aE := Tryz.isAgg50
  zE := Tryz.sizeOf50 }
end Go.Proofs.YtaihmldiglgipaaGreat
