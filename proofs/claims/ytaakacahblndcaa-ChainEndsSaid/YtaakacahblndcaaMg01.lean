/- The merge of the library's stable sort, in place, by rotations: plain laws on rows. No program in sight. | What the library's CompactFunc leaves of a row: plain laws. No program in sight. | Lemmas on CompactFunc at structs, for whatever program. No statement of the seat. | What the library's CompactFunc at trustflow/chain.link leans on of a program: so that its walks may be made over whatever program and number of cells. No statement of the seat. | slices.CompactFunc at trustflow/chain.link, over whatever program that bears it: a contract, no statement of the seat. | The library's slices.SortFunc at trustflow/chain.link: its laying by the shelf, in plain words. No statement of the seat. | What CompactFunc leaves, under a map. Plain, no program in sight. | The keys of the map of losses: a struct of two numbers. No statement of the seat. | What the map of losses holds: of each author the last one named. Plain. No statement of the seat. | A map that holds whatever values, by the kit's own datum 'held': plain facts. No statement of the seat. | A run of stores into one block, as one step. For whatever program; no statement of the seat. | A whole row of cells: not frozen; set cell by cell. No statement of the seat. | made.Mod: contracts, no statement of the seat. | Dice: Roll, Next, Some, Keys: contracts, no statement of the seat. | Dice.One: a contract, no statement of the seat. | made.Light: a contract, no statement of the seat. -/
import Derived.Test.YtaakacahblndcaaMg00
import Derived.Test.YtaakacahblndcaaRows
import Derived.Shelf.SlSortCmp.WholeK
import Derived.Shelf.SlSortCmp.NoneTotal
import Derived.Sort.LotA
import Derived.DeepKeys4
import Derived.WideKeyPair
import Derived.Maps.OwnSet
namespace Go.Proofs.Ytaakacahblndcaa
open Go.Sort

variable {α : Type} [Inhabited α]

/-- Where that comes from what stands at t behind a rotation of [a, b) about m. -/
def rotIx (a m b t : Nat) : Nat := if a ≤ t ∧ t < a + (b - m) then t + (m - a) else if a + (b - m) ≤ t ∧ t < b then t - (b - m) else t
/-- Where that comes from what stands at t when n places from x on have been exchanged with those from y on. -/
def swIx (x y n t : Nat) : Nat := if x ≤ t ∧ t < x + n then t - x + y else if y ≤ t ∧ t < y + n then t - y + x else t
/-- d' is d, read at other places. -/
def By (f : Nat → Nat) (d d' : Array α) : Prop := d'.size = d.size ∧ ∀ t, t < d.size → d'[t]! = d[f t]!

/-- d' is d with the places of [a, b) exchanged among themselves, the order of equals kept. -/
structure SM (lt : α → α → Bool) (a b : Nat) (d d' : Array α) : Prop where
  size : d'.size = d.size
  out : ∀ i, i < a ∨ b ≤ i → d'[i]! = d[i]!
  inn : ∀ i, a ≤ i → i < b → ∃ j, a ≤ j ∧ j < b ∧ d'[i]! = d[j]!
  perm : d'.toList.Perm d.toList
  kind : ∀ p, Kind lt p → d'.toList.filter p = d.toList.filter p

/-- What the search for the place of the cut knows: below s 'not less', from r on 'less' (p - c stands against c). -/
def CutLo (lt : α → α → Bool) (d : Array α) (p s0 s : Nat) : Prop := ∀ c, s0 ≤ c → c < s → lt d[p - c]! d[c]! = false
def CutHi (lt : α → α → Bool) (d : Array α) (p r r0 : Nat) : Prop := ∀ c, r ≤ c → c < r0 → lt d[p - c]! d[c]! = true

/-- Where the search begins and ends. -/
structure CutAt (a m b p s0 r0 : Nat) : Prop where
  lo : a ≤ s0
  hi : r0 ≤ m
  ord : s0 ≤ r0
  top : p < s0 + b
  bot : m + r0 ≤ p + 1

/-- One element ahead of a run: what the search for its place knows, and what becomes of the row. -/
def OneLo (lt : α → α → Bool) (d : Array α) (a i : Nat) : Prop := ∀ h, a < h → h < i → lt d[h]! d[a]! = true
def OneHi (lt : α → α → Bool) (d : Array α) (a j b : Nat) : Prop := ∀ h, j ≤ h → h < b → lt d[h]! d[a]! = false
/-- One element behind a run. -/
def EndLo (lt : α → α → Bool) (d : Array α) (m a i : Nat) : Prop := ∀ h, a ≤ h → h < i → lt d[m]! d[h]! = false
def EndHi (lt : α → α → Bool) (d : Array α) (m j : Nat) : Prop := ∀ h, j ≤ h → h < m → lt d[m]! d[h]! = true
end Go.Proofs.Ytaakacahblndcaa

namespace Go.Proofs.Ytaakacahblndcaa
open Go.Sort
variable {α : Type} [Inhabited α]

/-- Element j stays: the first one, and each one that is not eq to the one before. -/
def stays (eq : α → α → Bool) (d : Array α) (j : Nat) : Bool := decide (j = 0) || !eq d[j]! d[j - 1]!
/-- What stays of the first n elements. -/
def cpt (eq : α → α → Bool) (d : Array α) : Nat → List α
  | 0 => []
  | n + 1 => if stays eq d n = true then cpt eq d n ++ [d[n]!] else cpt eq d n
theorem cpt_le (eq : α → α → Bool) (d : Array α) (n : Nat) : (cpt eq d n).length ≤ n := by
  induction n with
  | zero => simp [cpt]
  | succ n ih => rw [cpt]; split
                 · simp; omega
                 · omega
theorem cpt_yes {eq : α → α → Bool} {d : Array α} {n : Nat} (h : stays eq d n = true) : cpt eq d (n + 1) = cpt eq d n ++ [d[n]!] := by rw [cpt, if_pos h]
theorem cpt_no {eq : α → α → Bool} {d : Array α} {n : Nat} (h : stays eq d n = false) : cpt eq d (n + 1) = cpt eq d n := by rw [cpt, if_neg (by simp [h])]
theorem stays_of {eq : α → α → Bool} {d : Array α} {n : Nat} (h0 : 0 < n) (b : Bool) (h : eq d[n]! d[n - 1]! = b) : stays eq d n = !b := by
  unfold stays
  rw [h, decide_eq_false (by omega)]; rfl
theorem cpt_all {eq : α → α → Bool} {d : Array α} {n : Nat} (h : ∀ j, j < n → stays eq d j = true) (hn : n ≤ d.size) : cpt eq d n = d.toList.take n := by
  induction n with
  | zero => simp [cpt]
  | succ n ih =>
    rw [cpt_yes (h n (by omega)), ih (fun j hj => h j (by omega)) (by omega), List.take_add_one]
    congr 1
    rw [getElem!_pos d n (by omega)]
    simp [show n < d.size by omega]
/-- The inner loop: m elements are done, the row begins with what stays of them, and from m - 1 on it is as it was. -/
structure CInv (eq : α → α → Bool) (d : Array α) (m kk : Nat) (dk : Array α) : Prop where
  len : (cpt eq d m).length = kk
  lt : kk < m
  size : dk.size = d.size
  done : ∀ t, t < kk → dk[t]! = (cpt eq d m)[t]!
  rest : ∀ t, m - 1 ≤ t → dk[t]! = d[t]!
theorem CInv.start {eq : α → α → Bool} {d : Array α} {k : Nat} (h : ∀ j, j < k → stays eq d j = true) (hk : stays eq d k = false) (hs : k < d.size) : CInv eq d (k + 1) k d := by
  have e : cpt eq d (k + 1) = d.toList.take k := by rw [cpt_no hk, cpt_all h (by omega)]
  refine ⟨by rw [e]; simp; omega, by omega, rfl, fun t ht => ?_, fun _ _ => rfl⟩
  rw [e, getElem!_pos d t (by omega), getElem!_pos (d.toList.take k) t (by simp; omega)]
  simp
theorem CInv.skip {eq : α → α → Bool} {d dk : Array α} {m kk : Nat} (h : CInv eq d m kk dk) (hs : stays eq d m = false) : CInv eq d (m + 1) kk dk := by
  refine ⟨by rw [cpt_no hs]; exact h.len, by have := h.lt; omega, h.size, fun t ht => by rw [cpt_no hs]; exact h.done t ht, fun t ht => h.rest t (by omega)⟩
theorem CInv.keep {eq : α → α → Bool} {d dk : Array α} {m kk : Nat} (h : CInv eq d m kk dk) (hs : stays eq d m = true) (hm : m < d.size) : CInv eq d (m + 1) (kk + 1) (dk.setIfInBounds kk d[m]!) := by
  have hlt := h.lt
  have hsz := h.size
  have hl := h.len
  refine ⟨by rw [cpt_yes hs, List.length_append, hl]; rfl, by omega, by simp [hsz], fun t ht => ?_, fun t ht => ?_⟩
  · rw [cpt_yes hs, getElem!_pos (dk.setIfInBounds kk d[m]!) t (by simp; omega), Array.getElem_setIfInBounds, getElem!_pos (cpt eq d m ++ [d[m]!]) t (by simp; omega)]
    · split
      · rename_i e
        subst e
        rw [List.getElem_append_right (by omega)]
        simp [hl]
      · rw [List.getElem_append_left (by omega), ← getElem!_pos dk t (by omega), ← getElem!_pos (cpt eq d m) t (by omega)]
        exact h.done t (by omega)
    · omega
  · by_cases c : t < d.size
    · have e : (dk.setIfInBounds kk d[m]!)[t]! = dk[t]! := by
        rw [getElem!_pos (dk.setIfInBounds kk d[m]!) t (by simp; omega), Array.getElem_setIfInBounds, if_neg (by omega), ← getElem!_pos dk t (by omega)]
        omega
      rw [e]; exact h.rest t (by omega)
    · rw [getElem!_neg (dk.setIfInBounds kk d[m]!) t (by simp; omega), getElem!_neg d t c]
/-- The row's head holds what stays. -/
theorem CInv.head {eq : α → α → Bool} {d dk : Array α} {m kk : Nat} (h : CInv eq d m kk dk) (hm : m ≤ d.size) : (cpt eq d m).toArray.size ≤ dk.size ∧ ∀ t, t < (cpt eq d m).toArray.size → (cpt eq d m).toArray[t]! = dk[t]! := by
  have hl := h.len
  have hlt := h.lt
  have hs := h.size
  refine ⟨by simp [hl]; omega, fun t ht => ?_⟩
  rw [h.done t (by simpa [hl] using ht)]
  simp
end Go.Proofs.Ytaakacahblndcaa

namespace Go.Proofs.Ytaakacahblndcaa
open Go.RowKit Go.Sort

theorem exGrowK {B : Nat} {w : World} (q : Nat) (os : Array Obj) (p : Option Nat) (hB : B ≤ w.heap.size) : Ex B p w (grow (w.drewN q) os) :=
  ⟨rfl, rfl, rfl, by rw [size_grow]; exact Nat.le_add_right _ _, fun k hk _ => heap_grow_old (w.drewN q) os (by exact Nat.lt_of_lt_of_le hk hB)⟩

variable {P : Program}
theorem shiftAtK (off k x y : Nat) : off + x * k + y * k = off + (x + y) * k := by rw [Nat.add_mul]; omega
theorem runClearK (w : World) (t e ty : TypeId) (z : Value) (k : Nat) (ht : P.underlying t = some (.slice e)) (hv : ∀ w, (zeroValue e).run P w = .ok z w) (hz : z.cells.size = k) (h1 : ∀ v ∈ z.cells, v.oneCell' = true) (b o n c : Nat) (hn : 0 < n)
    (hc : ∀ j, j < n * k → (w.cell? ⟨b, o + j, none⟩).isSome = true) (hf : ∀ j, j < n * k → w.frozen? ⟨b, o + j, none⟩ = false) :
    (Builtin.clear_ #[t] ty #[.slice (some ⟨b, o, none⟩) n c]).run P w = .ok (.tuple #[]) (w.setCells b o (Builtin.zeroCells z.cells n).toList) := by
  have hl : (Builtin.zeroCells z.cells n).toList.length = n * k := by simp [Builtin.zeroCells, hz]
  have hst := run_storeCells_cells (P := P) b o (Builtin.zeroCells z.cells n).toList 0 w (by rw [hl]; simpa using hc) (by rw [hl]; simpa using hf) (by
    intro v hv'
    simp only [Builtin.zeroCells, Array.toList_map, List.mem_map, Array.mem_toList_iff] at hv'
    obtain ⟨i, hi, rfl⟩ := hv'
    by_cases hk : z.cells.size = 0
    · simp [hk] at hi
    · rw [getElem!_pos z.cells _ (Nat.mod_lt _ (by omega))]; exact h1 _ (Array.getElem_mem _))
  simp only [Nat.add_zero] at hst
  obtain ⟨m, rfl⟩ : ∃ m, n = m + 1 := ⟨n - 1, by omega⟩
  simp [Builtin.clear_, run_underlying ht, hv, hst]
end Go.Proofs.Ytaakacahblndcaa

namespace Go.Proofs.Ytaakacahblndcaa
open Go.RowKit Go.Sort

structure CLayLink (P : Program) (k : Nat) : Prop where
  mixed : P.follows .mixedOrders = true
  t0 : P.underlying 0 = some (TypeDesc.tuple #[])
  a0 : ∀ w, (isAgg 0).run P w = .ok false w
  z0 : ∀ w, (Go.sizeOf 0).run P w = .ok 1 w
  v0 : ∀ w, (zeroValue 0).run P w = .ok (Value.tuple #[]) w
  t1 : P.underlying 3 = some (TypeDesc.int IntKind.i64)
  a1 : ∀ w, (isAgg 3).run P w = .ok false w
  z1 : ∀ w, (Go.sizeOf 3).run P w = .ok 1 w
  v1 : ∀ w, (zeroValue 3).run P w = .ok (Value.int IntKind.i64 0) w
  t2 : P.underlying 4 = some (TypeDesc.bool)
  a2 : ∀ w, (isAgg 4).run P w = .ok false w
  z2 : ∀ w, (Go.sizeOf 4).run P w = .ok 1 w
  v2 : ∀ w, (zeroValue 4).run P w = .ok (Value.bool false) w
  t3 : P.underlying 85 = some (TypeDesc.int IntKind.u64)
  a3 : ∀ w, (isAgg 85).run P w = .ok false w
  z3 : ∀ w, (Go.sizeOf 85).run P w = .ok 1 w
  v3 : ∀ w, (zeroValue 85).run P w = .ok (Value.int IntKind.u64 0) w
  t4 : P.underlying 53 = some (TypeDesc.slice 56)
  a4 : ∀ w, (isAgg 53).run P w = .ok false w
  z4 : ∀ w, (Go.sizeOf 53).run P w = .ok 1 w
  v4 : ∀ w, (zeroValue 53).run P w = .ok (Value.slice none 0 0) w
  t5 : P.underlying 81 = some (TypeDesc.func #[56, 56] #[3] false)
  a5 : ∀ w, (isAgg 81).run P w = .ok false w
  z5 : ∀ w, (Go.sizeOf 81).run P w = .ok 1 w
  v5 : ∀ w, (zeroValue 81).run P w = .ok (Value.nilFunc) w
  aE : ∀ w, (isAgg 56).run P w = .ok true w
  zE : ∀ w, (Go.sizeOf 56).run P w = .ok k w

theorem clayLink : CLayLink Try.prog 14 := {
  mixed := by kernel_rfl
  t0 := Try.underlying0
  a0 := Try.isAgg0
  z0 := Try.sizeOf0
  v0 := Try.zeroValue0
  t1 := Try.underlying3
  a1 := Try.isAgg3
  z1 := Try.sizeOf3
  v1 := Try.zeroValue3
  t2 := Try.underlying4
  a2 := Try.isAgg4
  z2 := Try.sizeOf4
  v2 := Try.zeroValue4
  t3 := Try.underlying85
  a3 := Try.isAgg85
  z3 := Try.sizeOf85
  v3 := Try.zeroValue85
  t4 := Try.underlying53
  a4 := Try.isAgg53
  z4 := Try.sizeOf53
  v4 := Try.zeroValue53
  t5 := Try.underlying81
  a5 := Try.isAgg81
  z5 := Try.sizeOf81
  v5 := Try.zeroValue81
  aE := Try.isAgg56
  zE := Try.sizeOf56 }
end Go.Proofs.Ytaakacahblndcaa

namespace Go.Proofs.Ytaakacahblndcaa
open Go.RowKit Go.Sort
variable {P : Program} {α : Type} [Inhabited α]

/-- What is asked of a function that tells whether two elements are the same. -/
def EqAtLink (P : Program) (f : Nat) (cb : Array Value) (enc : α → List Value) (eq : α → α → Bool) : Prop :=
  ∀ (w : World) (x y : α), Calls P f (#[.agg (enc x).toArray, .agg (enc y).toArray] ++ cb) w fun e w' => e = .returned (.bool (eq x y)) ∧ ∃ q os', w' = grow (w.drewN q) os'
set_option maxHeartbeats 8000000 in
set_option maxRecDepth 1000000 in
theorem compactLink_any {k : Nat} (L : CLayLink P k) (enc : α → List Value) (hk : ∀ x, (enc x).length = k) (h1 : ∀ x, ∀ v ∈ enc x, v.oneCell' = true) (eq : α → α → Bool) (f : Nat) (cb : Array Value)
    (ef : ∀ args w, (callFunc f args).run P w = .ok (.enter f args) w) (hcmp : EqAtLink P f cb enc eq)
    (fC : P.funcs[47]? = some Try.f47)
    (z : Array Value) (hv : ∀ w, (zeroValue 56).run P w = .ok (.agg z) w) (hz : z.size = k) (hz1 : ∀ v ∈ z, v.oneCell' = true)
    (_t6 : P.underlying 57 = some (TypeDesc.func #[56, 56] #[4] false))
    (_a6 : ∀ w, (isAgg 57).run P w = .ok false w) (_z6 : ∀ w, (Go.sizeOf 57).run P w = .ok 1 w)
    (g off cap s : Nat) (d : Array α) (w : World) (hH : HoldsK enc k w g off d) (hg : g < w.heap.size) (hsz : d.size < 1000000000000) (hcap : d.size ≤ cap) (hs : d.size = s) :
    Calls P 47 #[.slice (some ⟨g, off, none⟩) s cap, .func (.func f) #[] cb] w fun e w' =>
      e = .returned (.slice (some ⟨g, off, none⟩) (cpt eq d s).length cap) ∧ HoldsK enc k w' g off (cpt eq d s).toArray ∧ Ex w.heap.size (some g) w w' := by
  subst hs
  have mixed := L.mixed; have t0 := L.t0; have a0 := L.a0; have z0 := L.z0; have v0 := L.v0; have t1 := L.t1; have a1 := L.a1; have z1 := L.z1; have v1 := L.v1; have t2 := L.t2; have a2 := L.a2; have z2 := L.z2; have v2 := L.v2; have t3 := L.t3; have a3 := L.a3; have z3 := L.z3; have v3 := L.v3; have t4 := L.t4; have a4 := L.a4; have z4 := L.z4; have v4 := L.v4; have t5 := L.t5; have a5 := L.a5; have z5 := L.z5; have v5 := L.v5; have aE := L.aE; have zE := L.zE
  have u4 := run_underlying L.t4
  have HK := Lib.hid hk
  have H1 := Lib.hid h1
  have HC := Lib.hid hcmp
  have HHw := Lib.hid hH
  have HZ := Lib.hid (And.intro hv (And.intro hz hz1))
  have same : ∀ wr, (∀ j, j < d.size → stays eq d j = true) → HoldsK enc k wr g off d → (cpt eq d d.size).length = d.size ∧ HoldsK enc k wr g off (cpt eq d d.size).toArray := fun wr hall h => by
    have e := cpt_all hall (Nat.le_refl _)
    rw [e, List.take_of_length_le (by simp)]
    exact ⟨by simp, by simpa using h⟩
  have SAME := Lib.hid same
  clear hk h1 hcmp hH hv hz hz1 same
  by_cases h2 : d.size < 2
  · go_enter fC, Try.ntmps47
    go_wp2
    go_ret
    obtain ⟨e1, e2⟩ := SAME.out w (fun j hj => by obtain rfl : j = 0 := (by omega); rfl) HHw.out
    exact ⟨by rw [e1]; rfl, e2, Ex.refl _ _ _⟩
  · go_enter fC, Try.ntmps47
    go_wp2
    go_loopw [5] (fun s3 wr => ∃ i : Nat, s3 = .int .i64 i ∧ 1 ≤ i ∧ i ≤ d.size ∧ (∀ j, j < i → stays eq d j = true) ∧ HoldsK enc k wr g off d ∧ Ex w.heap.size (some g) w wr) (fun s3 _ => d.size - (intOf s3).toNat)
    case atStart => exact ⟨1, rfl, Nat.le_refl _, by omega, fun j hj => by obtain rfl : j = 0 := (by omega); rfl, HHw.out, Ex.refl _ _ _⟩
    case round =>
      obtain ⟨i, rfl, hi1, hi, hall, hHk, hex⟩ := hrel
      have HHk := Lib.hid hHk
      have HA := Lib.hid hall
      clear hHk hall
      have hsz' := hex.size
      by_cases hlt : i < d.size
      · obtain ⟨ip, hip⟩ : ∃ ip, ip = i - 1 := ⟨_, rfl⟩
        have hwp : IntKind.i64.wrap ((i : Int) - 1) = (ip : Int) := by rw [IntKind.wrap_i64]; omega
        have b1 : (i : Int) < d.size := by omega
        have b2 : (ip : Int) < d.size := by omega
        have HIP := Lib.hid hip
        clear hip
        have hHc : ∀ n' os', HoldsK enc k (grow (wr.drewN n') os') g off d := fun n' os' => holdsK_grow enc k _ os' g off d (by show g < wr.heap.size; omega) (show HoldsK enc k (wr.drewN n') g off d from HHk.out)
        obtain ⟨v1, hv1⟩ : ∃ v, d[i]! = v := ⟨_, rfl⟩
        obtain ⟨v2, hv2⟩ : ∃ v, d[ip]! = v := ⟨_, rfl⟩
        have l1 : ∀ n' os', Sem.run P (loadCellsFrom ⟨g, off + i * k, none⟩ 0 k #[]) (grow (wr.drewN n') os') = .ok (enc v1).toArray (grow (wr.drewN n') os') := fun n' os' => by
          rw [← hv1, show off + i * k = off + (i) * k by rfl]; exact run_loadCellsFrom_list P _ _ _ k (HK.out _) (HoldsK.cells (hHc n' os') HK.out (by omega))
        have l2 : ∀ n' os', Sem.run P (loadCellsFrom ⟨g, off + ip * k, none⟩ 0 k #[]) (grow (wr.drewN n') os') = .ok (enc v2).toArray (grow (wr.drewN n') os') := fun n' os' => by
          rw [← hv2, show off + ip * k = off + (ip) * k by rfl]; exact run_loadCellsFrom_list P _ _ _ k (HK.out _) (HoldsK.cells (hHc n' os') HK.out (by omega))
        have hcg : ∀ n' os', Calls P f (#[.agg (enc v1).toArray, .agg (enc v2).toArray] ++ cb) (grow (wr.drewN n') os') fun e w' => e = .returned (.bool (eq v1 v2)) ∧ ∃ q os'', w' = grow ((grow (wr.drewN n') os').drewN q) os'' := fun n' os' => HC.out _ _ _
        have HV : Hid (d[i]! = v1 ∧ d[ip]! = v2) := ⟨hv1, hv2⟩
        clear hHc hv1 hv2
        by_cases hlv : eq v1 v2 = true
        · simp only [hlv] at hcg
          go_wp2_with fail
          go_quiet_grown (first | (go_at_fn f; refine Calls.grown_of (hcg _ _)))
          have hc0 : i ≤ cap := by omega
          by_cases hce : cap = i
          · omega
          go_wp2
          obtain ⟨wo, hwo⟩ : ∃ wo : World, wo = grow (wr.drewN nq) osq := ⟨_, rfl⟩
          have hHo : HoldsK enc k wo g off d := by rw [hwo]; exact holdsK_grow enc k _ _ g off d (by show g < wr.heap.size; omega) (show HoldsK enc k (wr.drewN nq) g off d from HHk.out)
          have hexo : Ex w.heap.size (some g) w wo := by rw [hwo]; exact hex.trans (exGrowK nq osq none (Nat.le_refl _)) hsz' (by simp)
          rw [← hwo]
          have HHo := Lib.hid hHo
          have HD0 : Hid (stays eq d i = false) := by
            have := stays_of (eq := eq) (d := d) (n := i) (by omega) true (by rw [← HIP.out, HV.out.1, HV.out.2]; exact hlv)
            exact this
          clear hHo hwo l1 l2 hcg hlv
          go_loopw [5, 7] (fun s3 s5 wr => ∃ (kk k2 : Nat) (dk : Array α), s3 = .int .i64 kk ∧ s5 = .int .i64 k2 ∧ 1 ≤ k2 ∧ i + k2 ≤ d.size ∧ CInv eq d (i + k2) kk dk ∧ HoldsK enc k wr g off dk ∧ Ex w.heap.size (some g) w wr) (fun _ s5 _ => d.size - (intOf s5).toNat)
          case atStart => exact ⟨i, 1, d, rfl, rfl, Nat.le_refl _, by omega, CInv.start HA.out HD0.out hlt, HHo.out, hexo⟩
          case round =>
            clear HHk HHo HD0 hex hexo hsz' HV
            obtain ⟨kk, k2, dk, rfl, rfl, h1, hle, hI, hHk, hex⟩ := hrel
            have hkk := hI.lt
            have hds := hI.size
            have HI := Lib.hid hI
            have HHk := Lib.hid hHk
            have HDS := Lib.hid hds
            clear hI hHk hds
            have hsz' := hex.size
            by_cases hlt2 : i + k2 < d.size
            · obtain ⟨mp, hmp⟩ : ∃ mp, mp = k2 - 1 := ⟨_, rfl⟩
              have hwp2 : IntKind.i64.wrap ((k2 : Int) - 1) = (mp : Int) := by rw [IntKind.wrap_i64]; omega
              have hl2 : ((d.size - i : Nat) : Int) = (d.size : Int) - i := by omega
              have b3 : (k2 : Int) < (d.size : Int) - i := by omega
              have b4 : (mp : Int) < (d.size : Int) - i := by omega
              have b5 : k2 < d.size - i := by omega
              have b6 : mp < d.size - i := by omega
              have hdz : dk.size = d.size := HDS.out
              have HMP := Lib.hid hmp
              have HDZ := Lib.hid hdz
              clear hmp hdz
              have hHc : ∀ n' os', HoldsK enc k (grow (wr.drewN n') os') g off dk := fun n' os' => holdsK_grow enc k _ os' g off dk (by show g < wr.heap.size; omega) (show HoldsK enc k (wr.drewN n') g off dk from HHk.out)
              obtain ⟨v1, hv1⟩ : ∃ v, dk[i + k2]! = v := ⟨_, rfl⟩
              obtain ⟨v2, hv2⟩ : ∃ v, dk[i + mp]! = v := ⟨_, rfl⟩
              have l1 : ∀ n' os', Sem.run P (loadCellsFrom ⟨g, off + i * k + k2 * k, none⟩ 0 k #[]) (grow (wr.drewN n') os') = .ok (enc v1).toArray (grow (wr.drewN n') os') := fun n' os' => by
                rw [← hv1, show off + i * k + k2 * k = off + (i + k2) * k by exact shiftAtK _ _ _ _]; exact run_loadCellsFrom_list P _ _ _ k (HK.out _) (HoldsK.cells (hHc n' os') HK.out (by have := HDZ.out; omega))
              have l2 : ∀ n' os', Sem.run P (loadCellsFrom ⟨g, off + i * k + mp * k, none⟩ 0 k #[]) (grow (wr.drewN n') os') = .ok (enc v2).toArray (grow (wr.drewN n') os') := fun n' os' => by
                rw [← hv2, show off + i * k + mp * k = off + (i + mp) * k by exact shiftAtK _ _ _ _]; exact run_loadCellsFrom_list P _ _ _ k (HK.out _) (HoldsK.cells (hHc n' os') HK.out (by have := HDZ.out; omega))
              have hcg : ∀ n' os', Calls P f (#[.agg (enc v1).toArray, .agg (enc v2).toArray] ++ cb) (grow (wr.drewN n') os') fun e w' => e = .returned (.bool (eq v1 v2)) ∧ ∃ q os'', w' = grow ((grow (wr.drewN n') os').drewN q) os'' := fun n' os' => HC.out _ _ _
              have HV : Hid (dk[i + k2]! = v1 ∧ dk[i + mp]! = v2) := ⟨hv1, hv2⟩
              clear hHc hv1 hv2
              by_cases hlv : eq v1 v2 = true
              · simp only [hlv] at hcg
                go_wp2_with fail
                go_quiet_grown (first | (go_at_fn f; refine Calls.grown_of (hcg _ _)))
                go_wp2
                go_roundw
                case rel => exact ⟨kk, k2 + 1, dk, rfl, by go_num, by omega, by omega, HI.out.skip (stays_of (by omega) true (by
                  have e1 := HI.out.rest (i + k2) (by omega)
                  have e2 := HI.out.rest (i + mp) (by have := HMP.out; omega)
                  rw [show i + k2 - 1 = i + mp by have := HMP.out; omega, ← e1, ← e2, HV.out.1, HV.out.2]; exact hlv)), holdsK_grow enc k _ _ g off dk (by show g < wr.heap.size; omega) (show HoldsK enc k (wr.drewN nq) g off dk from HHk.out), hex.trans (exGrowK nq osq none (Nat.le_refl _)) hsz' (by simp)⟩
                case measure => simp [intOf]; omega
              · have hlv' : eq v1 v2 = false := by simpa using hlv
                simp only [hlv'] at hcg
                go_wp2_with fail
                go_quiet_grown (first | (go_at_fn f; refine Calls.grown_of (hcg _ _)))
                obtain ⟨wq, hwq⟩ : ∃ wq : World, wq = grow (wr.drewN nq) osq := ⟨_, rfl⟩
                have hHq : HoldsK enc k wq g off dk := by rw [hwq]; exact holdsK_grow enc k _ _ g off dk (by show g < wr.heap.size; omega) (show HoldsK enc k (wr.drewN nq) g off dk from HHk.out)
                have hexq : Ex w.heap.size (some g) w wq := by rw [hwq]; exact hex.trans (exGrowK nq osq none (Nat.le_refl _)) hsz' (by simp)
                have lq : Sem.run P (loadCellsFrom ⟨g, off + i * k + k2 * k, none⟩ 0 k #[]) wq = .ok (enc v1).toArray wq := by rw [hwq]; exact l1 nq osq
                rw [← hwq]
                have sq : Sem.run P (storeCells ⟨g, off + kk * k, none⟩ (enc v1) 0) wq = .ok () (wq.setCells g (off + kk * k) (enc v1)) := stores_of_holds P hHq (kk * k) _ (by
                  rw [HK.out, size_flatK]
                  have := Nat.mul_le_mul_right k (show kk + 1 ≤ dk.size by have := HDZ.out; omega); rwa [Nat.add_mul, Nat.one_mul] at this) (H1.out _)
                have hsV : (enc v1).length = k := HK.out _
                have HQ := Lib.hid hHq
                have hszq := hexq.size
                clear l1 l2 hcg hwq hHq
                obtain ⟨cV, hcV⟩ : ∃ c, c = enc v1 := ⟨_, rfl⟩
                rw [← hcV] at lq sq hsV
                have CC := Lib.hid hcV
                clear hcV
                have b7 : (kk : Int) < d.size := by omega
                go_wp2
                go_roundw
                case rel =>
                  have e1 := HI.out.rest (i + k2) (by omega)
                  have e2 := HI.out.rest (i + mp) (by have := HMP.out; omega)
                  have hk := HI.out.keep (stays_of (by omega) false (by
                    rw [show i + k2 - 1 = i + mp by have := HMP.out; omega, ← e1, ← e2, HV.out.1, HV.out.2]; exact hlv')) hlt2
                  rw [← e1, HV.out.1] at hk
                  refine ⟨kk + 1, k2 + 1, dk.setIfInBounds kk v1, by go_num, by go_num, by omega, by omega, hk, ?_, hexq.trans (ex_setCells wq g (off + kk * k) cV) hszq (fun q e _ => by cases e; rfl)⟩
                  rw [CC.out]
                  exact holdsK_set HK.out HQ.out kk v1 (by have := HDZ.out; omega)
                case measure => simp [intOf]; omega
            · obtain ⟨n, hn⟩ : ∃ n, n = d.size := ⟨_, rfl⟩
              have hend : i + k2 = d.size := by omega
              have hdz : dk.size = d.size := HDS.out
              have hcl : ∀ ty, (Builtin.clear_ #[53] ty #[.slice (some ⟨g, off + kk * k, none⟩) (d.size - kk) (cap - kk)]).run P wr = .ok (.tuple #[]) (wr.setCells g (off + kk * k) (Builtin.zeroCells z (d.size - kk)).toList) :=
                fun ty => runClearK wr _ _ ty (.agg z) k L.t4 HZ.out.1 HZ.out.2.1 HZ.out.2.2 g (off + kk * k) _ _ (by omega) (fun j hj => by
                  have := (HHk.out (kk * k + j) (by rw [size_flatK, hdz]; have := Nat.add_mul kk (d.size - kk) k; rw [show kk + (d.size - kk) = d.size by omega] at this; omega)).1
                  rw [Nat.add_assoc, this]; rfl) (fun j hj => by
                  have := (HHk.out (kk * k + j) (by rw [size_flatK, hdz]; have := Nat.add_mul kk (d.size - kk) k; rw [show kk + (d.size - kk) = d.size by omega] at this; omega)).2
                  rw [Nat.add_assoc]; exact this)
              have hexc := hex.trans (ex_setCells wr g (off + kk * k) (Builtin.zeroCells z (d.size - kk)).toList) hsz' (fun q e _ => by cases e; rfl)
              have hfin : HoldsK enc k (wr.setCells g (off + kk * k) (Builtin.zeroCells z (d.size - kk)).toList) g off (cpt eq d d.size).toArray := by
                have hI := HI.out
                rw [hend] at hI
                obtain ⟨h1, h2⟩ := hI.head (Nat.le_refl _)
                exact holdsK_behind (holdsK_first HHk.out h1 h2) _ _ (by simp [hI.len])
              have hlen : (cpt eq d d.size).length = kk := by have := HI.out.len; rwa [hend] at this
              have FIN := Lib.hid (And.intro hexc (And.intro hfin hlen))
              have b7 : (kk : Int) ≤ d.size := by omega
              have b8 : ¬ (k2 : Int) < (d.size : Int) - i := by omega
              have b9 : ¬ k2 < d.size - i := by omega
              have b10 : (kk : Int) ≤ cap := by omega
              have b11 : kk ≤ cap := by omega
              have b12 : kk ≤ d.size := by omega
              have b13 : ¬ cap = kk := by omega
              clear hexc hfin hlen hend hdz hn
              go_wp2
              go_ret
              exact ⟨by rw [FIN.out.2.2]; rfl, FIN.out.2.1, FIN.out.1⟩
        · have hlv' : eq v1 v2 = false := by simpa using hlv
          simp only [hlv'] at hcg
          go_wp2_with fail
          go_quiet_grown (first | (go_at_fn f; refine Calls.grown_of (hcg _ _)))
          go_wp2
          go_roundw
          case rel => exact ⟨i + 1, by go_num, by omega, by omega, fun j hj => by
            by_cases e : j = i
            · subst e
              exact stays_of (by omega) false (by rw [← HIP.out, HV.out.1, HV.out.2]; exact hlv')
            · exact HA.out j (by omega), holdsK_grow enc k _ _ g off d (by show g < wr.heap.size; omega) (show HoldsK enc k (wr.drewN nq) g off d from HHk.out), hex.trans (exGrowK nq osq none (Nat.le_refl _)) hsz' (by simp)⟩
          case measure => simp [intOf]; omega
      · obtain rfl : i = d.size := by omega
        go_wp2
        go_ret
        obtain ⟨e1, e2⟩ := SAME.out wr HA.out HHk.out
        exact ⟨by rw [e1]; rfl, e2, hex⟩
end Go.Proofs.Ytaakacahblndcaa

namespace Go.Proofs
open Go.Shelf
def Try.pdqLink_ren : Go.Shelf.Ren := ⟨fun | 6 => 42 | 15 => 62 | 14 => 61 | 28 => 78 | 29 => 79 | 20 => 70 | 21 => 71 | 22 => 72 | 23 => 73 | 24 => 74 | 25 => 75 | 26 => 76 | 27 => 77 | 46 => 80 | 47 => 81 | 48 => 82 | 49 => 83 | 50 => 84 | 57 => 85 | n => n, fun | 22 => 53 | 24 => 56 | 25 => 81 | 3 => 3 | 39 => 85 | 0 => 0 | 53 => 86 | 55 => 84 | 4 => 4 | 46 => 110 | 45 => 109 | 50 => 114 | 5 => 5 | 9 => 9 | 66 => 118 | 70 => 122 | 76 => 124 | 77 => 125 | n => n, fun | n => n⟩
theorem Try.pdqLink : Go.Proofs.SlLaysF0.n6 Try.prog Try.pdqLink_ren := {
  mixed := by kernel_rfl
  f6 := ⟨Try.f42.name, by decide, Try.func42.trans (congrArg some (by kernel_rfl))⟩
  f14 := ⟨Try.f61.name, by decide, Try.func61.trans (congrArg some (by kernel_rfl))⟩
  f15 := Try.func62.trans (congrArg some (by kernel_rfl))
  f20 := ⟨Try.f70.name, by decide, Try.func70.trans (congrArg some (by kernel_rfl))⟩
  f21 := ⟨Try.f71.name, by decide, Try.func71.trans (congrArg some (by kernel_rfl))⟩
  f22 := ⟨Try.f72.name, by decide, Try.func72.trans (congrArg some (by kernel_rfl))⟩
  f23 := ⟨Try.f73.name, by decide, Try.func73.trans (congrArg some (by kernel_rfl))⟩
  f24 := ⟨Try.f74.name, by decide, Try.func74.trans (congrArg some (by kernel_rfl))⟩
  f25 := ⟨Try.f75.name, by decide, Try.func75.trans (congrArg some (by kernel_rfl))⟩
  f26 := ⟨Try.f76.name, by decide, Try.func76.trans (congrArg some (by kernel_rfl))⟩
  f27 := ⟨Try.f77.name, by decide, Try.func77.trans (congrArg some (by kernel_rfl))⟩
  f28 := Try.func78.trans (congrArg some (by kernel_rfl))
  f29 := Try.func79.trans (congrArg some (by kernel_rfl))
  f46 := ⟨Try.f80.name, by decide, Try.func80.trans (congrArg some (by kernel_rfl))⟩
  f47 := Try.func81.trans (congrArg some (by kernel_rfl))
  f48 := Try.func82.trans (congrArg some (by kernel_rfl))
  f49 := ⟨Try.f83.name, by decide, Try.func83.trans (congrArg some (by kernel_rfl))⟩
  f50 := ⟨Try.f84.name, by decide, Try.func84.trans (congrArg some (by kernel_rfl))⟩
  f57 := ⟨Try.f85.name, by decide, Try.func85.trans (congrArg some (by kernel_rfl))⟩
  t0 := Try.underlying0
  a0 := Try.isAgg0
  z0 := Try.sizeOf0
  v0 := Try.zeroValue0
  t3 := Try.underlying3
  a3 := Try.isAgg3
  z3 := Try.sizeOf3
  v3 := Try.zeroValue3
  t4 := Try.underlying4
  a4 := Try.isAgg4
  z4 := Try.sizeOf4
  v4 := Try.zeroValue4
  t5 := Try.underlying5
  a5 := Try.isAgg5
  z5 := Try.sizeOf5
  v5 := Try.zeroValue5
  t9 := Try.underlying9
  a9 := Try.isAgg9
  z9 := Try.sizeOf9
  v9 := Try.zeroValue9
  t22 := Try.underlying53
  a22 := Try.isAgg53
  z22 := Try.sizeOf53
  v22 := Try.zeroValue53
  t25 := Try.underlying81
  a25 := Try.isAgg81
  z25 := Try.sizeOf81
  v25 := Try.zeroValue81
  t39 := Try.underlying85
  a39 := Try.isAgg85
  z39 := Try.sizeOf85
  v39 := Try.zeroValue85
  t45 := Try.underlying109
  a45 := Try.isAgg109
  z45 := Try.sizeOf109
  v45 := Try.zeroValue109
  t46 := Try.underlying110
  a46 := Try.isAgg110
  z46 := Try.sizeOf110
  v46 := Try.zeroValue110
  t50 := Try.underlying114
  a50 := Try.isAgg114
  z50 := Try.sizeOf114
  v50 := Try.zeroValue114
  t53 := Try.underlying86
  a53 := Try.isAgg86
  z53 := Try.sizeOf86
  v53 := Try.zeroValue86
  t55 := Try.underlying84
  a55 := Try.isAgg84
  z55 := Try.sizeOf84
  v55 := Try.zeroValue84
  t66 := Try.underlying118
  a66 := Try.isAgg118
  z66 := Try.sizeOf118
  v66 := Try.zeroValue118
  t70 := Try.underlying122
  a70 := Try.isAgg122
  z70 := Try.sizeOf122
  v70 := Try.zeroValue122
  t76 := Try.underlying124
  a76 := Try.isAgg124
  z76 := Try.sizeOf124
  v76 := Try.zeroValue124
  t77 := Try.underlying125
  a77 := Try.isAgg125
  z77 := Try.sizeOf125
  v77 := Try.zeroValue125 }
end Go.Proofs

namespace Go.Proofs.Ytaakacahblndcaa
open Go.Sort
variable {α β : Type} [Inhabited α] [Inhabited β]

theorem map_get! (f : α → β) (d : Array α) (i : Nat) (h : i < d.size) : (d.map f)[i]! = f d[i]! := by
  rw [getElem!_pos (d.map f) i (by simpa using h), getElem!_pos d i h]; simp
theorem stays_map (f : α → β) {eq : α → α → Bool} {eq' : β → β → Bool} (h : ∀ x y, eq x y = eq' (f x) (f y)) (d : Array α) (j : Nat) (hj : j < d.size) : stays eq d j = stays eq' (d.map f) j := by
  unfold stays
  rw [map_get! f d j hj, map_get! f d (j - 1) (by omega), h]
theorem cpt_map (f : α → β) {eq : α → α → Bool} {eq' : β → β → Bool} (h : ∀ x y, eq x y = eq' (f x) (f y)) (d : Array α) : ∀ n, n ≤ d.size → (cpt eq d n).map f = cpt eq' (d.map f) n := by
  intro n
  induction n with
  | zero => exact fun _ => rfl
  | succ n ih =>
    intro hn
    have e := stays_map f h d n (by omega)
    cases hs : stays eq d n with
    | true => rw [cpt_yes hs, cpt_yes (by rw [← e]; exact hs), List.map_append, ih (by omega), List.map_cons, List.map_nil, map_get! f d n (by omega)]
    | false => rw [cpt_no hs, cpt_no (by rw [← e]; exact hs), ih (by omega)]
theorem cpt_mem {eq : α → α → Bool} {d : Array α} {x : α} : ∀ n, n ≤ d.size → x ∈ cpt eq d n → x ∈ d.toList := by
  intro n
  induction n with
  | zero => exact fun _ h => by cases h
  | succ n ih =>
    intro hn h
    cases hs : stays eq d n with
    | true =>
      rw [cpt_yes hs, List.mem_append, List.mem_singleton] at h
      rcases h with h | h
      · exact ih (by omega) h
      · subst h
        rw [getElem!_pos d n (by omega)]
        simp
    | false => rw [cpt_no hs] at h; exact ih (by omega) h
/-- A permutation of a whole row, as lists. -/
theorem permIn_list {d d' : Array α} (h : PermIn 0 d.size d d') : d'.toList.Perm d.toList := by
  obtain ⟨hs, _, hp⟩ := h
  have e : d'.extract 0 d.size = d' := by rw [← hs]; exact Array.extract_size
  rw [e, Array.extract_size] at hp
  exact hp
end Go.Proofs.Ytaakacahblndcaa

namespace Go.Proofs.Ytaakacahblndcaa
open Go.RowKit Go.Maps

/-- What a key reads as. -/
def keyL (k a : Int) : Lit := .string (keyBytes [.int .i64 k, .int .i64 a])
end Go.Proofs.Ytaakacahblndcaa

namespace Go.Proofs.Ytaakacahblndcaa
open Go.RowKit Go.Maps

theorem snoc_ind {α : Type} {motive : List α → Prop} (nil : motive []) (snoc : ∀ l x, motive l → motive (l ++ [x])) (l : List α) : motive l := by
  have h : ∀ r : List α, motive r.reverse := by
    intro r
    induction r with
    | nil => simpa using nil
    | cons x r ih => simpa using snoc _ x ih
  simpa using h l.reverse
/-- The map behind the votes l (author, heir) on one lost key. -/
def mapD (a : Int) (l : List (Int × Int)) : DataW Unit := l.foldl (fun D p => D.put (keyL p.1 a) (.lit (.int .i64 p.2))) (.map [])
/-- Whom an author named last. -/
def lastOf (l : List (Int × Int)) (k : Int) : Option Int := ((l.filter fun p => decide (p.1 = k)).getLast?).map (·.2)
/-- Who has named 'next' last, of the first n keys. -/
def voicesL (l : List (Int × Int)) (next : Int) (n : Nat) : List Int := ((List.range n).filter fun (k : Nat) => decide (lastOf l (k : Int) = some next)).map fun (k : Nat) => (k : Int)
end Go.Proofs.Ytaakacahblndcaa

namespace Go.Proofs.Ytaakacahblndcaa
open Go.RowKit Go.Maps

/-- How a value of whatever type reads: as itself. -/
def valElem (v : Value) : Option (DataW Value × List MemPlace) := some (.held v, [])
/-- The map behind stores. -/
def mapV (l : List (Lit × Value)) : DataW Value := l.foldl (fun D p => D.put p.1 (.held p.2)) (.map [])
theorem mapV_snoc (l : List (Lit × Value)) (p : Lit × Value) : mapV (l ++ [p]) = (mapV l).put p.1 (.held p.2) := by
  unfold mapV; rw [List.foldl_append]; rfl
open Classical in
/-- What was stored last at a key. -/
noncomputable def lastV (l : List (Lit × Value)) (k : Lit) : Option Value := l.foldl (fun r p => if p.1 = k then some p.2 else r) none
open Classical in
theorem lastV_snoc (l : List (Lit × Value)) (p : Lit × Value) (k : Lit) : lastV (l ++ [p]) k = if p.1 = k then some p.2 else lastV l k := by
  unfold lastV; rw [List.foldl_append]; rfl
theorem mapV_isMap (l : List (Lit × Value)) : IsMap (mapV l) := by
  induction l using snoc_ind with
  | nil => exact isMap_empty
  | snoc l p ih => rw [mapV_snoc]; exact ih.put _ _
theorem mapV_has {l : List (Lit × Value)} {k : Lit} (hk : WideAt.IsKeyLit k) : Maps.has (mapV l) k = (lastV l k).isSome := by
  induction l using snoc_ind with
  | nil => rfl
  | snoc l p ih =>
    rw [mapV_snoc, lastV_snoc]
    by_cases h : p.1 = k
    · rw [if_pos h, h, has_put_same (mapV_isMap l) hk]; rfl
    · rw [if_neg h, has_put_other (fun e => h e.symm), ih]
theorem mapV_at {l : List (Lit × Value)} {k : Lit} (z : Value) (hk : WideAt.IsKeyLit k) : (mapV l).atKey k (.held z) = .held ((lastV l k).getD z) := by
  induction l using snoc_ind with
  | nil => rfl
  | snoc l p ih =>
    rw [mapV_snoc, lastV_snoc]
    by_cases h : p.1 = k
    · rw [if_pos h, h, atKey_put_same (mapV_isMap l) hk]; rfl
    · rw [if_neg h, atKey_put_other (fun e => h e.symm), ih]
theorem valElem_inv {v : Value} {d : DataW Value} {ps : List MemPlace} (h : valElem v = some (d, ps)) : d = .held v := by
  unfold valElem at h; cases h; rfl
/-- 'v, ok := m[k]' at a map of whatever values, at the operation. -/
theorem wpList_lookV {P : Program} (w : World) {ops : Array Oper} {rest : List Oper} {o : Oper} {a : Act} {Q : Exit → Act → World → Prop}
    (hg : o.guard = none) (m x : Operand) (t : TypeId) (hop : o.op = Op.lookup t m x true)
    (k e : TypeId) (K : Keyed P k) (ht : P.underlying t = some (.map k e)) (z : Value) (hz : (zeroValue e).run P w = .ok z w) (b n : Nat) (l : List (Lit × Value))
    (hm : a.eval m = .map (some b)) (hown : w.ownsMap P k valElem b n (mapV l)) (key : Value) (kl : Lit) (hx : a.eval x = key) (hkey : keyOf P k key = some kl) (hkl : WideAt.IsKeyLit kl)
    (v : Value) (ok : Bool) (hv : (lastV l kl).getD z = v) (hok : (lastV l kl).isSome = ok)
    (hK : wpList P ops Q rest (a.put o.dst (.tuple #[v, .bool ok])) w) :
    wpList P ops Q (o :: rest) a w := by
  refine wpList_plain hg fun K' hK' => ?_
  obtain ⟨u, ps, hrun, hr⟩ := hown.look_ok K ht hz (zd := .held z) (zp := []) rfl hkey
  have h1 := valElem_inv hr
  rw [mapV_at z hkl, hv] at h1
  cases h1
  rw [mapV_has hkl, hok] at hrun
  unfold Oper.wp
  simp [execOp, hop, hm, hx, hrun, Result.andThen]
  exact hK' _ _ hK
end Go.Proofs.Ytaakacahblndcaa

namespace Go.Proofs.Ytaakacahblndcaa
open Go.RowKit

/-- Values stored one after the other, from an offset on. -/
def setAll (w : World) (g : Nat) : Nat → List Value → World
  | _, [] => w
  | o, v :: r => setAll (w.setCell ⟨g, o, none⟩ v) g (o + 1) r
/-- A run of stores, world by world: each cell is there, none is frozen; each world has a name. -/
def StoreRun (g : Nat) : World → Nat → List Value → List Value → World → Prop
  | w, o, v :: vs, z :: zs, wf => w.cell? ⟨g, o, none⟩ = some z ∧ w.frozen? ⟨g, o, none⟩ = false ∧ ∃ x, w.setCell ⟨g, o, none⟩ v = x ∧ StoreRun g x (o + 1) vs zs wf
  | w, _, [], _, wf => w = wf
  | _, _, _ :: _, [], _ => False
end Go.Proofs.Ytaakacahblndcaa

namespace Go.Proofs.Ytaakacahblndcaa
open Go.RowKit Go.Sort

end Go.Proofs.Ytaakacahblndcaa

namespace Go.Proofs.Ytaakacahblndcaa
open Go.RowKit

theorem tmod_neg {n m : Int} (hm : 1 ≤ m) (h : n.tmod m < 0) : n.tmod m + m = modI n m := by
  rw [modI_pos hm, Int.tmod_eq_emod]
  rw [Int.tmod_eq_emod] at h
  split at h <;> rename_i h' <;> simp only [h', ↓reduceIte] at h ⊢
  · have := Int.emod_nonneg n (show m ≠ 0 by omega); omega
  · have : (m.natAbs : Int) = m := by omega
    omega
theorem tmod_pos {n m : Int} (hm : 1 ≤ m) (h : ¬ n.tmod m < 0) : n.tmod m = modI n m := by
  rw [modI_pos hm, Int.tmod_eq_emod]
  rw [Int.tmod_eq_emod] at h
  have := Int.emod_lt_of_pos n (show 0 < m by omega)
  split at h <;> rename_i h' <;> simp only [h', ↓reduceIte] at h ⊢
  · simp
  · have : (m.natAbs : Int) = m := by omega
    omega
theorem tmod_bd {n m : Int} (hm : 1 ≤ m) : -m ≤ n.tmod m ∧ n.tmod m < m := by
  by_cases h : n.tmod m < 0
  · have := tmod_neg hm h; have := modI_bd (n := n) hm; omega
  · have := tmod_pos hm h; have := modI_bd (n := n) hm; omega

set_option maxHeartbeats 400000 in
theorem mod_any (n m : Int) (w : World) (hm : m ≤ 4611686018427387904) :
    Calls Try.prog 9 #[.int .i64 n, .int .i64 m] w fun e w' => e = .returned (.int .i64 (modI n m)) ∧ w = w' := by
  by_cases h1 : m < 1
  · go_enter Try.func9, Try.ntmps9
    go_wp2
    go_ret
    exact ⟨ret_int (by unfold modI; rw [if_pos h1]), rfl⟩
  · obtain ⟨b1, b2⟩ := tmod_bd (n := n) (show 1 ≤ m by omega)
    by_cases h2 : n.tmod m < 0
    · have H := Lib.hid (tmod_neg (show 1 ≤ m by omega) h2)
      go_enter Try.func9, Try.ntmps9
      go_wp2
      go_ret
      exact ⟨ret_int H.out, rfl⟩
    · have H := Lib.hid (tmod_pos (show 1 ≤ m by omega) h2)
      go_enter Try.func9, Try.ntmps9
      go_wp2
      go_ret
      exact ⟨ret_int H.out, rfl⟩

end Go.Proofs.Ytaakacahblndcaa

namespace Go.Proofs.Ytaakacahblndcaa
open Go.RowKit

/-- Block p is a Dice whose numbers that are left are d; it and its list lie below block N. -/
def DiceAt (N : Nat) (w : World) (p : Nat) (d : List Int) : Prop :=
  ∃ (L : List Int) (at' : Nat) (ao : Option Addr) (cap : Nat), w.heap[p]? = some (.cells #[.slice ao L.length cap, .int .i64 at'] 49 (0, 0)) ∧ at' ≤ L.length ∧ d = L.drop at' ∧ L.length ≤ 1000000 ∧ IntsAt w ao L ∧ (L ≠ [] → ∀ a, ao = some a → a.block < N ∧ a.block ≠ p) ∧ p < N

theorem DiceAt.keep {N : Nat} {w w' : World} {p B : Nat} {d : List Int} (h : DiceAt N w p d) (hx : Ex B none w w') (hB : N ≤ B) : DiceAt N w' p d := by
  obtain ⟨L, at', ao, cap, h1, h2, h3, h4, h5, h6, h7⟩ := h
  refine ⟨L, at', ao, cap, ?_, h2, h3, h4, fun j hj => ?_, h6, h7⟩
  · rw [hx.block p (by omega) (by simp)]
    exact h1
  · obtain ⟨b, off, e, hc⟩ := h5 j hj
    refine ⟨b, off, e, fun i hi => ?_⟩
    have hbN : b < N := (h6 (by intro h; simp [h] at hj) _ e).1
    exact (World.cell?_of_block (w := w) (hx.block b (by omega) (by simp))).trans (hc i hi)
theorem cell_at {w : World} {b o : Nat} {cs : Array Value} {e : TypeId} {fr : Nat × Nat} {v : Value} (h : w.heap[b]? = some (.cells cs e fr)) (hv : cs[o]? = some v) : w.cell? ⟨b, o, none⟩ = some v := by
  simp [World.cell?, h, hv]
theorem free_at {w : World} {b o : Nat} {cs : Array Value} {e : TypeId} (h : w.heap[b]? = some (.cells cs e (0, 0))) : w.frozen? ⟨b, o, none⟩ = false := by
  simp [World.frozen?, h]
theorem heap_setCell {w : World} {b o : Nat} {cs : Array Value} {e : TypeId} {fr : Nat × Nat} (h : w.heap[b]? = some (.cells cs e fr)) (v : Value) : (w.setCell ⟨b, o, none⟩ v).heap[b]? = some (.cells (cs.setIfInBounds o v) e fr) := by
  simp [World.setCell, Array.getElem?_modify, h]

set_option maxHeartbeats 400000 in
theorem next_any (N p : Nat) (d : List Int) (n : Int) (w : World) (hd : DiceAt N w p d) (hn : n ≤ 4611686018427387904) :
    Calls Try.prog 7 #[.pointer (some ⟨p, 0, none⟩), .int .i64 n] w fun e w' => e = .returned (.int .i64 (dVal d n)) ∧ DiceAt N w' p d.tail ∧ Ex w.heap.size (some p) w w' := by
  obtain ⟨L, k, ao, cap, hh, hk, hdl, hL, hx, haw, hpN⟩ := hd
  have c0 := cell_at (o := 0) hh rfl
  have c1 := cell_at (o := 1) hh rfl
  have f1 := free_at (o := 1) hh
  by_cases hlt : k < L.length
  · obtain ⟨b, off, y, rfl, hck, HY⟩ := hx.get k hlt
    have hbp : b ≠ p := (haw (by intro h; simp [h] at hlt) _ rfl).2
    have HA := Lib.hid haw
    have hdd : d = y :: L.drop (k + 1) := by
      rw [hdl, List.drop_eq_getElem_cons hlt, ← HY.out]; simp [List.getD, hlt]
    have HD := Lib.hid hdd
    have HH := Lib.hid hh
    have HX := Lib.hid hx
    clear hdd hdl hh hx haw
    have hbp2 : p ≠ b := fun h => hbp h.symm
    go_enter Try.func7, Try.ntmps7
    go_wp2
    go_quiet (fail)
    go_wp2
    go_quiet ((go_at_call 9; exact Calls.quiet_of_same ((mod_any _ _ _ hn).mono fun _ _ h => ⟨h.1, h.2.symm⟩)))
    go_wp2
    go_ret
    refine ⟨by rw [HD.out]; rfl, ?_, (((Ex.refl _ _ _).drewN).setCell _ _ _ (Or.inl rfl)).drewN⟩
    refine ⟨L, k + 1, some ⟨b, off, none⟩, cap, ?_, by omega, by rw [HD.out]; rfl, hL, fun j hj => ?_, HA.out, hpN⟩
    · exact (heap_setCell (w := w) (o := 1) HH.out (.int .i64 ((k : Int) + 1))).trans (by simp)
    · obtain ⟨b', off', e, hc⟩ := HX.out j hj
      refine ⟨b', off', e, fun i hi => ?_⟩
      cases e
      exact (World.cell?_setCell_other (w := w) _ _ _ (by simp)).trans (hc i hi)
  · have hd0 : d = [] := by rw [hdl, List.drop_eq_nil_of_le (by omega)]
    have hge : L.length ≤ k := by omega
    have HH : DiceAt N w p [] := ⟨L, k, ao, cap, hh, hk, by rw [List.drop_eq_nil_of_le (by omega)], hL, hx, haw, hpN⟩
    have HH := Lib.hid HH
    subst hd0
    clear hdl hh hx haw
    go_enter Try.func7, Try.ntmps7
    go_wp2
    go_quiet (fail)
    go_wp2
    go_ret
    exact ⟨rfl, HH.out, (Ex.refl _ _ _).drewN⟩

set_option maxHeartbeats 400000 in
theorem madeRoll_any (v1 : Value) (L : List Int) (w : World) (hv1 : Ints w v1 L) (hL : L.length ≤ 1000000) :
    Calls Try.prog 6 #[v1] w fun e w' => ∃ p, e = .returned (.pointer (some ⟨p, 0, none⟩)) ∧ DiceAt (p + 1) w' p L ∧ w.heap.size ≤ p ∧ p + 1 ≤ w'.heap.size ∧ Ex w.heap.size none w w' := by
  obtain ⟨ao, cap, rfl, hx⟩ := hv1
  have HX := Lib.hid hx
  clear hx
  go_enter Try.func6, Try.ntmps6
  go_wp2
  go_ret
  exact ⟨_, rfl, ⟨L, 0, ao, cap, heap_alloc_new w _, Nat.zero_le _, rfl, hL, HX.out.keep (Ex.new w _) (Nat.le_refl _) (by simp), fun hne a ha => by have := HX.out.lt hne a ha; omega, by omega⟩, Nat.le_refl _, by simp, Ex.new w _⟩

end Go.Proofs.Ytaakacahblndcaa

namespace Go.Proofs.Ytaakacahblndcaa
open Go.RowKit

end Go.Proofs.Ytaakacahblndcaa

namespace Go.Proofs.Ytaakacahblndcaa
open Go.RowKit

theorem madeLight_any (ao : Option Addr) (cap n : Nat) (w : World) :
    Calls Try.prog 4 #[.slice ao n cap] w fun e w' => e = .returned (.bool (decide ((n : Int) ≤ 400))) ∧ w = w' := by
  go_enter Try.func4, Try.ntmps4
  go_wp2
  go_ret
  exact ⟨rfl, rfl⟩
end Go.Proofs.Ytaakacahblndcaa
