/- The library's slices.SortFunc at trustflow/api.Statement: its laying by the shelf, in plain words. No statement of the seat. | The insertion sort of the library keeps the order of equals: a plain law on the kit's own word 'Sort.insertionSort'. No program in sight. | The merge of the library's stable sort, in place, by rotations: plain laws on rows. No program in sight. | What the library's CompactFunc leaves of a row: plain laws. No program in sight. | Plain words on slices of ints in memory, for whatever program: what a slice reads as, which blocks a call may turn, an append of one number. No statement of the seat is proved here. | How values of a type are held in memory, as a word on lists: numbers, texts, structs, slices of these. For whatever program. No statement of the seat is proved here. | The shelf's word on a row that a sort turns (HoldsK, sortWorldK) in the words of these texts. No statement of the seat. | Lemmas on CompactFunc at structs, for whatever program. No statement of the seat. | What the library's CompactFunc at trustflow/api.Statement leans on of a program: so that its walks may be made over whatever program and number of cells. No statement of the seat. | slices.CompactFunc at trustflow/api.Statement, over whatever program that bears it: a contract, no statement of the seat. | cmp.Compare at int: a contract, no statement of the seat. | cmp.Or at ints: a contract, no statement of the seat. -/
import Derived.Shelf.SlSortCmp.WholeK
import Derived.Shelf.SlSortCmp.NoneTotal
import Derived.Test.YtdifcnhhcinonaaGreatRows
import Derived.Sort.LotA
import Derived.WalkKit
import Derived.WalkSpells
import Derived.WalkLawsBesides
import Derived.Lib.Hide
import Derived.Deep.QuietTactic
import Derived.BigQuiet
import Derived.Deep.MidRow
import Derived.Laws.StructEq
import Derived.Shelf.SlSortCmp.InsertionK
import Derived.Deep.Upon
import Derived.Sort.Grow
namespace Go.Proofs
open Go.Shelf
def Tryz.pdqSt_ren : Go.Shelf.Ren := ⟨fun | 6 => 52 | 15 => 111 | 14 => 110 | 28 => 165 | 29 => 166 | 20 => 157 | 21 => 158 | 22 => 159 | 23 => 160 | 24 => 161 | 25 => 162 | 26 => 163 | 27 => 164 | 46 => 211 | 47 => 212 | 48 => 213 | 49 => 214 | 50 => 215 | 57 => 235 | n => n, fun | 22 => 22 | 24 => 28 | 25 => 103 | 3 => 3 | 39 => 146 | 0 => 0 | 53 => 168 | 55 => 170 | 4 => 4 | 46 => 180 | 45 => 179 | 50 => 140 | 5 => 5 | 9 => 9 | 66 => 227 | 70 => 231 | 76 => 243 | 77 => 244 | n => n, fun | n => n⟩
theorem Tryz.pdqSt : Go.Proofs.SlLaysF0.n6 Tryz.prog Tryz.pdqSt_ren := {
  mixed := by kernel_rfl
  f6 := ⟨Tryz.f52.name, by decide, Tryz.func52.trans (congrArg some (by kernel_rfl))⟩
  f14 := ⟨Tryz.f110.name, by decide, Tryz.func110.trans (congrArg some (by kernel_rfl))⟩
  f15 := Tryz.func111.trans (congrArg some (by kernel_rfl))
  f20 := ⟨Tryz.f157.name, by decide, Tryz.func157.trans (congrArg some (by kernel_rfl))⟩
  f21 := ⟨Tryz.f158.name, by decide, Tryz.func158.trans (congrArg some (by kernel_rfl))⟩
  f22 := ⟨Tryz.f159.name, by decide, Tryz.func159.trans (congrArg some (by kernel_rfl))⟩
  f23 := ⟨Tryz.f160.name, by decide, Tryz.func160.trans (congrArg some (by kernel_rfl))⟩
  f24 := ⟨Tryz.f161.name, by decide, Tryz.func161.trans (congrArg some (by kernel_rfl))⟩
  f25 := ⟨Tryz.f162.name, by decide, Tryz.func162.trans (congrArg some (by kernel_rfl))⟩
  f26 := ⟨Tryz.f163.name, by decide, Tryz.func163.trans (congrArg some (by kernel_rfl))⟩
  f27 := ⟨Tryz.f164.name, by decide, Tryz.func164.trans (congrArg some (by kernel_rfl))⟩
  f28 := Tryz.func165.trans (congrArg some (by kernel_rfl))
  f29 := Tryz.func166.trans (congrArg some (by kernel_rfl))
  f46 := ⟨Tryz.f211.name, by decide, Tryz.func211.trans (congrArg some (by kernel_rfl))⟩
  f47 := Tryz.func212.trans (congrArg some (by kernel_rfl))
  f48 := Tryz.func213.trans (congrArg some (by kernel_rfl))
  f49 := ⟨Tryz.f214.name, by decide, Tryz.func214.trans (congrArg some (by kernel_rfl))⟩
  f50 := ⟨Tryz.f215.name, by decide, Tryz.func215.trans (congrArg some (by kernel_rfl))⟩
  f57 := ⟨Tryz.f235.name, by decide, Tryz.func235.trans (congrArg some (by kernel_rfl))⟩
  t0 := Tryz.underlying0
  a0 := Tryz.isAgg0
  z0 := Tryz.sizeOf0
  v0 := Tryz.zeroValue0
  t3 := Tryz.underlying3
  a3 := Tryz.isAgg3
  z3 := Tryz.sizeOf3
  v3 := Tryz.zeroValue3
  t4 := Tryz.underlying4
  a4 := Tryz.isAgg4
  z4 := Tryz.sizeOf4
  v4 := Tryz.zeroValue4
  t5 := Tryz.underlying5
  a5 := Tryz.isAgg5
  z5 := Tryz.sizeOf5
  v5 := Tryz.zeroValue5
  t9 := Tryz.underlying9
  a9 := Tryz.isAgg9
  z9 := Tryz.sizeOf9
  v9 := Tryz.zeroValue9
  t22 := Tryz.underlying22
  a22 := Tryz.isAgg22
  z22 := Tryz.sizeOf22
  v22 := Tryz.zeroValue22
  t25 := Tryz.underlying103
  a25 := Tryz.isAgg103
  z25 := Tryz.sizeOf103
  v25 := Tryz.zeroValue103
  t39 := Tryz.underlying146
  a39 := Tryz.isAgg146
  z39 := Tryz.sizeOf146
  v39 := Tryz.zeroValue146
  t45 := Tryz.underlying179
  a45 := Tryz.isAgg179
  z45 := Tryz.sizeOf179
  v45 := Tryz.zeroValue179
  t46 := Tryz.underlying180
  a46 := Tryz.isAgg180
  z46 := Tryz.sizeOf180
  v46 := Tryz.zeroValue180
  t50 := Tryz.underlying140
  a50 := Tryz.isAgg140
  z50 := Tryz.sizeOf140
  v50 := Tryz.zeroValue140
  t53 := Tryz.underlying168
  a53 := Tryz.isAgg168
  z53 := Tryz.sizeOf168
  v53 := Tryz.zeroValue168
  t55 := Tryz.underlying170
  a55 := Tryz.isAgg170
  z55 := Tryz.sizeOf170
  v55 := Tryz.zeroValue170
  t66 := Tryz.underlying227
  a66 := Tryz.isAgg227
  z66 := Tryz.sizeOf227
  v66 := Tryz.zeroValue227
  t70 := Tryz.underlying231
  a70 := Tryz.isAgg231
  z70 := Tryz.sizeOf231
  v70 := Tryz.zeroValue231
  t76 := Tryz.underlying243
  a76 := Tryz.isAgg243
  z76 := Tryz.sizeOf243
  v76 := Tryz.zeroValue243
  t77 := Tryz.underlying244
  a77 := Tryz.isAgg244
  z77 := Tryz.sizeOf244
  v77 := Tryz.zeroValue244 }
end Go.Proofs

namespace Go.Proofs.YtdifcnhhcinonaaGreat
open Go.Sort

variable {α : Type} [Inhabited α]

/-- A kind of elements of which none is less than another one. -/
def Kind (lt : α → α → Bool) (p : α → Bool) : Prop := ∀ x y, p x = true → p y = true → lt x y = false

end Go.Proofs.YtdifcnhhcinonaaGreat

namespace Go.Proofs.YtdifcnhhcinonaaGreat
open Go.Sort

variable {α : Type} [Inhabited α]

/-- Where that comes from what stands at t behind a rotation of [a, b) about m. -/
def rotIx (a m b t : Nat) : Nat := if a ≤ t ∧ t < a + (b - m) then t + (m - a) else if a + (b - m) ≤ t ∧ t < b then t - (b - m) else t
/-- Where that comes from what stands at t when n places from x on have been exchanged with those from y on. -/
def swIx (x y n t : Nat) : Nat := if x ≤ t ∧ t < x + n then t - x + y else if y ≤ t ∧ t < y + n then t - y + x else t
/-- d' is d, read at other places. -/
def By (f : Nat → Nat) (d d' : Array α) : Prop := d'.size = d.size ∧ ∀ t, t < d.size → d'[t]! = d[f t]!

/-- d' is d with the places of [a, b) exchanged among themselves, the order of equals kept. -/
structure SM (lt : α → α → Bool) (a b : Nat) (d d' : Array α) : Prop where
  size : d'.size = d.size
  out : ∀ i, i < a ∨ b ≤ i → d'[i]! = d[i]!
  inn : ∀ i, a ≤ i → i < b → ∃ j, a ≤ j ∧ j < b ∧ d'[i]! = d[j]!
  perm : d'.toList.Perm d.toList
  kind : ∀ p, Kind lt p → d'.toList.filter p = d.toList.filter p

/-- What the search for the place of the cut knows: below s 'not less', from r on 'less' (p - c stands against c). -/
def CutLo (lt : α → α → Bool) (d : Array α) (p s0 s : Nat) : Prop := ∀ c, s0 ≤ c → c < s → lt d[p - c]! d[c]! = false
def CutHi (lt : α → α → Bool) (d : Array α) (p r r0 : Nat) : Prop := ∀ c, r ≤ c → c < r0 → lt d[p - c]! d[c]! = true

/-- Where the search begins and ends. -/
structure CutAt (a m b p s0 r0 : Nat) : Prop where
  lo : a ≤ s0
  hi : r0 ≤ m
  ord : s0 ≤ r0
  top : p < s0 + b
  bot : m + r0 ≤ p + 1

/-- One element ahead of a run: what the search for its place knows, and what becomes of the row. -/
def OneLo (lt : α → α → Bool) (d : Array α) (a i : Nat) : Prop := ∀ h, a < h → h < i → lt d[h]! d[a]! = true
def OneHi (lt : α → α → Bool) (d : Array α) (a j b : Nat) : Prop := ∀ h, j ≤ h → h < b → lt d[h]! d[a]! = false
/-- One element behind a run. -/
def EndLo (lt : α → α → Bool) (d : Array α) (m a i : Nat) : Prop := ∀ h, a ≤ h → h < i → lt d[m]! d[h]! = false
def EndHi (lt : α → α → Bool) (d : Array α) (m j : Nat) : Prop := ∀ h, j ≤ h → h < m → lt d[m]! d[h]! = true
end Go.Proofs.YtdifcnhhcinonaaGreat

namespace Go.Proofs.YtdifcnhhcinonaaGreat
open Go.Sort
variable {α : Type} [Inhabited α]

/-- Element j stays: the first one, and each one that is not eq to the one before. -/
def stays (eq : α → α → Bool) (d : Array α) (j : Nat) : Bool := decide (j = 0) || !eq d[j]! d[j - 1]!
/-- What stays of the first n elements. -/
def cpt (eq : α → α → Bool) (d : Array α) : Nat → List α
  | 0 => []
  | n + 1 => if stays eq d n = true then cpt eq d n ++ [d[n]!] else cpt eq d n
theorem cpt_le (eq : α → α → Bool) (d : Array α) (n : Nat) : (cpt eq d n).length ≤ n := by
  induction n with
  | zero => simp [cpt]
  | succ n ih => rw [cpt]; split
                 · simp; omega
                 · omega
theorem cpt_yes {eq : α → α → Bool} {d : Array α} {n : Nat} (h : stays eq d n = true) : cpt eq d (n + 1) = cpt eq d n ++ [d[n]!] := by rw [cpt, if_pos h]
theorem cpt_no {eq : α → α → Bool} {d : Array α} {n : Nat} (h : stays eq d n = false) : cpt eq d (n + 1) = cpt eq d n := by rw [cpt, if_neg (by simp [h])]
theorem stays_of {eq : α → α → Bool} {d : Array α} {n : Nat} (h0 : 0 < n) (b : Bool) (h : eq d[n]! d[n - 1]! = b) : stays eq d n = !b := by
  unfold stays
  rw [h, decide_eq_false (by omega)]; rfl
theorem cpt_all {eq : α → α → Bool} {d : Array α} {n : Nat} (h : ∀ j, j < n → stays eq d j = true) (hn : n ≤ d.size) : cpt eq d n = d.toList.take n := by
  induction n with
  | zero => simp [cpt]
  | succ n ih =>
    rw [cpt_yes (h n (by omega)), ih (fun j hj => h j (by omega)) (by omega), List.take_add_one]
    congr 1
    rw [getElem!_pos d n (by omega)]
    simp [show n < d.size by omega]
/-- The inner loop: m elements are done, the row begins with what stays of them, and from m - 1 on it is as it was. -/
structure CInv (eq : α → α → Bool) (d : Array α) (m kk : Nat) (dk : Array α) : Prop where
  len : (cpt eq d m).length = kk
  lt : kk < m
  size : dk.size = d.size
  done : ∀ t, t < kk → dk[t]! = (cpt eq d m)[t]!
  rest : ∀ t, m - 1 ≤ t → dk[t]! = d[t]!
theorem CInv.start {eq : α → α → Bool} {d : Array α} {k : Nat} (h : ∀ j, j < k → stays eq d j = true) (hk : stays eq d k = false) (hs : k < d.size) : CInv eq d (k + 1) k d := by
  have e : cpt eq d (k + 1) = d.toList.take k := by rw [cpt_no hk, cpt_all h (by omega)]
  refine ⟨by rw [e]; simp; omega, by omega, rfl, fun t ht => ?_, fun _ _ => rfl⟩
  rw [e, getElem!_pos d t (by omega), getElem!_pos (d.toList.take k) t (by simp; omega)]
  simp
theorem CInv.skip {eq : α → α → Bool} {d dk : Array α} {m kk : Nat} (h : CInv eq d m kk dk) (hs : stays eq d m = false) : CInv eq d (m + 1) kk dk := by
  refine ⟨by rw [cpt_no hs]; exact h.len, by have := h.lt; omega, h.size, fun t ht => by rw [cpt_no hs]; exact h.done t ht, fun t ht => h.rest t (by omega)⟩
theorem CInv.keep {eq : α → α → Bool} {d dk : Array α} {m kk : Nat} (h : CInv eq d m kk dk) (hs : stays eq d m = true) (hm : m < d.size) : CInv eq d (m + 1) (kk + 1) (dk.setIfInBounds kk d[m]!) := by
  have hlt := h.lt
  have hsz := h.size
  have hl := h.len
  refine ⟨by rw [cpt_yes hs, List.length_append, hl]; rfl, by omega, by simp [hsz], fun t ht => ?_, fun t ht => ?_⟩
  · rw [cpt_yes hs, getElem!_pos (dk.setIfInBounds kk d[m]!) t (by simp; omega), Array.getElem_setIfInBounds, getElem!_pos (cpt eq d m ++ [d[m]!]) t (by simp; omega)]
    · split
      · rename_i e
        subst e
        rw [List.getElem_append_right (by omega)]
        simp [hl]
      · rw [List.getElem_append_left (by omega), ← getElem!_pos dk t (by omega), ← getElem!_pos (cpt eq d m) t (by omega)]
        exact h.done t (by omega)
    · omega
  · by_cases c : t < d.size
    · have e : (dk.setIfInBounds kk d[m]!)[t]! = dk[t]! := by
        rw [getElem!_pos (dk.setIfInBounds kk d[m]!) t (by simp; omega), Array.getElem_setIfInBounds, if_neg (by omega), ← getElem!_pos dk t (by omega)]
        omega
      rw [e]; exact h.rest t (by omega)
    · rw [getElem!_neg (dk.setIfInBounds kk d[m]!) t (by simp; omega), getElem!_neg d t c]
/-- The row's head holds what stays. -/
theorem CInv.head {eq : α → α → Bool} {d dk : Array α} {m kk : Nat} (h : CInv eq d m kk dk) (hm : m ≤ d.size) : (cpt eq d m).toArray.size ≤ dk.size ∧ ∀ t, t < (cpt eq d m).toArray.size → (cpt eq d m).toArray[t]! = dk[t]! := by
  have hl := h.len
  have hlt := h.lt
  have hs := h.size
  refine ⟨by simp [hl]; omega, fun t ht => ?_⟩
  rw [h.done t (by simpa [hl] using ht)]
  simp
end Go.Proofs.YtdifcnhhcinonaaGreat

namespace Go.Proofs.YtdifcnhhcinonaaGreat
open Go.RowKit

/-- Below block B the world w' is as w was, but for block p. -/
structure Ex (B : Nat) (p : Option Nat) (w w' : World) : Prop where
  os : w'.os = w.os
  tape : w'.tape = w.tape
  output : w'.output = w.output
  size : w.heap.size ≤ w'.heap.size
  block : ∀ k, k < B → some k ≠ p → w'.heap[k]? = w.heap[k]?

theorem Ex.refl (B : Nat) (p : Option Nat) (w : World) : Ex B p w w := ⟨rfl, rfl, rfl, Nat.le_refl _, fun _ _ _ => rfl⟩
theorem Ex.trans {B B' : Nat} {p p' : Option Nat} {a b c : World} (h : Ex B p a b) (k : Ex B' p' b c) (hB : B ≤ B') (hp : ∀ q, p' = some q → q < B → p = some q) : Ex B p a c :=
  ⟨k.os.trans h.os, k.tape.trans h.tape, k.output.trans h.output, Nat.le_trans h.size k.size, fun i hi hne =>
    (k.block i (Nat.lt_of_lt_of_le hi hB) (fun e => hne (by rw [hp i e.symm hi]))).trans (h.block i hi hne)⟩
theorem Ex.weaken {B : Nat} {w w' : World} (h : Ex B none w w') (p : Option Nat) : Ex B p w w' := ⟨h.os, h.tape, h.output, h.size, fun i hi _ => h.block i hi (by simp)⟩
theorem Ex.mono {B B' : Nat} {p : Option Nat} {w w' : World} (h : Ex B p w w') (hB : B' ≤ B) : Ex B' p w w' := ⟨h.os, h.tape, h.output, h.size, fun i hi => h.block i (Nat.lt_of_lt_of_le hi hB)⟩
theorem Ex.below {B : Nat} {w w' : World} (h : Ex B none w w') : Below B w w' := ⟨h.os, h.tape, h.output, h.size, fun i hi => h.block i hi (by simp)⟩
/-- What turns above B alone is not seen below B. -/
theorem Ex.above {B q : Nat} {w w' : World} (h : Ex B (some q) w w') (hq : B ≤ q) : Ex B none w w' := ⟨h.os, h.tape, h.output, h.size, fun i hi _ => h.block i hi (by simp; omega)⟩
theorem Ex.grown {B : Nat} {p row : Option Nat} {a w w' : World} (h : Ex B p a w) (hg : w.grownBy w' row) (hB : B ≤ w.heap.size) (hr : ∀ k, row = some k → B ≤ k) : Ex B p a w' :=
  ⟨hg.os.trans h.os, hg.tape.trans h.tape, hg.output.trans h.output, Nat.le_trans h.size hg.size, fun k hk hne => (hg.block k (by omega) (fun e => by have := hr k e.symm; omega)).trans (h.block k hk hne)⟩
theorem Ex.alloc {B : Nat} {p : Option Nat} {a w : World} (h : Ex B p a w) (hB : B ≤ w.heap.size) (o : Obj) : Ex B p a (w.alloc o) := h.grown (World.grownBy_alloc w o none) hB (by simp)
theorem Ex.new (w : World) (o : Obj) : Ex w.heap.size none w (w.alloc o) := (Ex.refl _ _ _).alloc (Nat.le_refl _) o
theorem Ex.drew {B : Nat} {p : Option Nat} {a w : World} (h : Ex B p a w) : Ex B p a w.drew := ⟨h.os, h.tape, h.output, h.size, h.block⟩
theorem Ex.drewN {B n : Nat} {p : Option Nat} {a w : World} (h : Ex B p a w) : Ex B p a (w.drewN n) := ⟨h.os, h.tape, h.output, h.size, h.block⟩
theorem Ex.setCell {B q : Nat} {p : Option Nat} {a w : World} (h : Ex B p a w) (o : Nat) (s : Option Nat) (u : Value) (hq : p = some q ∨ B ≤ q) : Ex B p a (w.setCell ⟨q, o, s⟩ u) :=
  ⟨h.os, h.tape, h.output, by simpa [World.setCell] using h.size, fun k hk hne => (Below.heap_setCell _ _ _ _ (by
    show k ≠ q
    rcases hq with hq | hq
    · intro e; exact hne (by rw [hq, e])
    · omega)).trans (h.block k hk hne)⟩

/-- A row that is owned stays so where its block is not turned. -/
theorem own_keep {w w' : World} {base e size n B : Nat} {p : Option Nat} {v : Value} {xs : List Value} (h : w.ownsRow base e size v n xs) (hx : Ex B p w w') (hB : w.heap.size ≤ B) (hp : ∀ q, p = some q → q < base) : w'.ownsRow base e size v n xs := by
  obtain ⟨h1, h2⟩ := h
  refine ⟨h1, ?_⟩
  rcases h2 with h2 | ⟨g, cap, cur, hv, hg, hh, r⟩
  · exact Or.inl h2
  · refine Or.inr ⟨g, cap, cur, hv, hg, ?_, r⟩
    have hlt := (Array.getElem?_eq_some_iff.1 hh).1
    rw [hx.block g (by omega) (fun e => by have := hp g e.symm; omega)]
    exact hh

/-- The slice at 'ao' with 'xs.length' elements reads as the list of ints xs. -/
def IntsAt (w : World) (ao : Option Addr) (xs : List Int) : Prop :=
  ∀ j, j < xs.length → ∃ b off, ao = some ⟨b, off, none⟩ ∧ ∀ i, i < xs.length → w.cell? ⟨b, off + i, none⟩ = some (.int .i64 (xs.getD i 0))

/-- Block q is not where the slice at 'ao' lies. -/
def Away (q : Nat) (ao : Option Addr) : Prop := ∀ a, ao = some a → a.block ≠ q

theorem IntsAt.keep {w w' : World} {ao : Option Addr} {xs : List Int} {B : Nat} {p : Option Nat} (h : IntsAt w ao xs) (hb : Ex B p w w') (hB : w.heap.size ≤ B) (hp : ∀ q, p = some q → xs ≠ [] → Away q ao) : IntsAt w' ao xs := by
  intro j hj
  obtain ⟨b, off, e, hc⟩ := h j hj
  refine ⟨b, off, e, fun i hi => ?_⟩
  have h1 := hc i hi
  have h2 : b < w.heap.size := World.block_lt_of_cell? w _ h1
  exact (World.cell?_of_block (w := w) (hb.block b (by omega) (fun e' => hp b e'.symm (by intro h; simp [h] at hj) _ e rfl))).trans h1

theorem IntsAt.get {w : World} {ao : Option Addr} {xs : List Int} (h : IntsAt w ao xs) (k : Nat) (hk : k < xs.length) : ∃ b off y, ao = some ⟨b, off, none⟩ ∧ w.cell? ⟨b, off + k, none⟩ = some (.int .i64 y) ∧ Hid (xs.getD k 0 = y) := by
  obtain ⟨b, off, e, hc⟩ := h k hk
  exact ⟨b, off, _, e, hc k hk, rfl⟩

/-- The slice value v reads as xs. -/
def Ints (w : World) (v : Value) (xs : List Int) : Prop := ∃ ao cap, v = .slice ao xs.length cap ∧ IntsAt w ao xs
theorem Ints.keep {w w' : World} {v : Value} {xs : List Int} {B : Nat} (h : Ints w v xs) (hx : Ex B none w w') (hB : w.heap.size ≤ B) : Ints w' v xs := by
  obtain ⟨ao, cap, e, h⟩ := h
  exact ⟨ao, cap, e, h.keep hx hB (by simp)⟩
theorem IntsAt.lit (w : World) (xs : List Int) : IntsAt (w.alloc (.cells (xs.map (Value.int .i64)).toArray 3)) (some ⟨w.heap.size, 0, none⟩) xs := by
  intro j hj
  refine ⟨_, _, rfl, fun i hi => ?_⟩
  rw [cell_of_row _ _ _ _ _ _ (heap_alloc_new w _)]
  simp [List.getD, hi]
theorem Ints.lit {w : World} (xs : List Int) {n g : Nat} (hg : g = w.heap.size) (hn : n = xs.length) : Ints (w.alloc (.cells (xs.map (Value.int .i64)).toArray 3)) (.slice (some ⟨g, 0, none⟩) n n) xs := by
  subst hn hg; exact ⟨_, _, rfl, IntsAt.lit w xs⟩

/-- The slice at 'ao' owns the ints xs, in a block from 'base' on. -/
def OwnI (w : World) (base : Nat) (ao : Option Addr) (cap : Nat) (xs : List Int) : Prop := w.ownsRow base 3 1 (.slice ao xs.length cap) xs.length (xs.map (Value.int .i64))

theorem OwnI.nil (w : World) (base : Nat) : OwnI w base none 0 [] := World.ownsRow_nil w base _ 1
theorem OwnI.keep {w w' : World} {base B : Nat} {p : Option Nat} {ao : Option Addr} {cap : Nat} {xs : List Int} (h : OwnI w base ao cap xs) (hx : Ex B p w w') (hB : w.heap.size ≤ B) (hp : ∀ q, p = some q → q < base) : OwnI w' base ao cap xs := own_keep h hx hB hp
theorem OwnI.lt {w : World} {base : Nat} {ao : Option Addr} {cap : Nat} {xs : List Int} (h : OwnI w base ao cap xs) : ∀ a, ao = some a → base ≤ a.block ∧ a.block < w.heap.size := by
  intro a e; subst e; exact World.ownsRow.lt h _ rfl
theorem OwnI.ints {w : World} {base : Nat} {ao : Option Addr} {cap : Nat} {xs : List Int} (h : OwnI w base ao cap xs) : IntsAt w ao xs := by
  intro j hj
  rcases h.2 with ⟨_, h0⟩ | ⟨g, cap', cur, hv, _⟩
  · omega
  · simp only [Value.slice.injEq] at hv
    obtain ⟨rfl, _, rfl⟩ := hv
    refine ⟨g, 0, rfl, fun i hi => ?_⟩
    have := World.ownsRow.cells h (g := g) rfl i (.int .i64 (xs.getD i 0)) (by simp [List.getD, hi])
    simpa [Addr.add_lit] using this

theorem OwnI.v {w : World} {base : Nat} {ao : Option Addr} {cap : Nat} {xs : List Int} (h : OwnI w base ao cap xs) : Ints w (.slice ao xs.length cap) xs := ⟨_, _, rfl, h.ints⟩
/-- A contract whose answer is known. -/
theorem asB {P : Program} {f : FuncId} {args : Array Value} {w : World} {a b : Bool} {R : World → Prop} (h : Calls P f args w fun e w' => e = .returned (.bool a) ∧ R w') (hab : a = b) : Calls P f args w fun e w' => e = .returned (.bool b) ∧ R w' := by
  subst hab; exact h

/-- The slice value v reads as xs, and does not lie in block p. -/
def IntsO (p : Nat) (w : World) (v : Value) (xs : List Int) : Prop := ∃ ao cap, v = .slice ao xs.length cap ∧ IntsAt w ao xs ∧ (xs ≠ [] → Away p ao)
theorem own_shape {w : World} {base e size n : Nat} {v : Value} {xs : List Value} (h : w.ownsRow base e size v n xs) : ∃ ao cap, v = .slice ao n cap := by
  rcases h.2 with ⟨rfl, rfl⟩ | ⟨g, cap, _, rfl, _⟩
  · exact ⟨none, 0, rfl⟩
  · exact ⟨_, cap, rfl⟩

/-- 'append(out, x)', out a slice of ints of the call's own: w0 is a world in which out is owned, w the one behind the block of x. -/
theorem wpList_appI {P : Program} {w0 w : World} {ops : Array Oper} {rest : List Oper} {o : Oper} {a : Act} {Q : Exit → Act → World → Prop} (hgd : o.guard = none) (s x : Operand) (t : TypeId)
    (ho : o.op = .call { callee := .builtin .append, args := #[s, x], argTypes := #[t, t] })
    (ht : P.underlying t = some (.slice 3)) (hinfo : (P.info? 3).map (fun i => (i.zero, i.size, i.bytes)) = some (some (.int .i64 0), 1, 8))
    (base : Nat) (ao : Option Addr) (cap : Nat) (xs : List Int) (g : Nat) (y : Int) (hs : a.eval s = .slice ao xs.length cap) (hx : a.eval x = .slice (some ⟨g, 0, none⟩) 1 1)
    (hown : OwnI w0 base ao cap xs) (hw : Ex w0.heap.size none w0 w) (hcell : w.cell? ⟨g, 0, none⟩ = some (.int .i64 y)) (hlen : xs.length ≤ 1000000000000) (hbase : base ≤ w0.heap.size)
    (h : ∀ ao' cap' w', OwnI w' base ao' cap' (xs ++ [y]) → Ex base none w0 w' → wpList P ops Q rest (a.put o.dst (.slice ao' (xs.length + 1) cap')) w') : wpList P ops Q (o :: rest) a w := by
  obtain ⟨i0, hi, hz0, hz1, hz2⟩ := info_parts hinfo
  have hown' : OwnI w base ao cap xs := hown.keep hw (Nat.le_refl _) (by simp)
  have hsz := hw.size
  refine wpList_append_own _ hgd s x t ho base 3 i0 (.int .i64 0) 1 8 ht hi hz0 hz1 hz2 rfl (by decide) _ _ _ hs hown' ⟨g, 0, none⟩ 1 1 [.int .i64 y] hx rfl ?_ ?_ (by simp only [maxLen]; omega) (by omega) (by omega) ?_
  · intro j u hj
    match j, hj with
    | 0, hj => simp at hj; subst hj; simpa [Addr.add] using hcell
  · intro u hu; simp at hu; subst hu; rfl
  · intro v' w' ho' hg _
    obtain ⟨ao', cap', rfl⟩ := own_shape ho'
    refine h ao' cap' w' ?_ ((hw.mono hbase).grown hg (by omega) ?_)
    · simpa [OwnI] using ho'
    · intro k hk
      have := World.ownsRow.lt hown' k hk
      exact this.1

theorem run_append_none {P : Program} {w : World} (base : Nat) (t ty e : TypeId) (i : TypeInfo) (size : Nat) (ht : P.underlying t = some (.slice e)) (hi : P.info? e = some i)
    (v : Value) (n c : Nat) (xs : List Value) (hown : w.ownsRow base e size v n xs) :
    (Builtin.append_ #[t, t] ty #[v, .slice none 0 c]).run P w = .ok v w := by
  rcases hown.2 with ⟨rfl, rfl⟩ | ⟨g, cap, cur, rfl, _, _, hnc, _⟩
  · simp [Builtin.append_, run_underlying ht, sizeOf, typeInfo, hi, Builtin.lenOf, Builtin.firstCells]
  · simp [Builtin.append_, run_underlying ht, sizeOf, typeInfo, hi, Builtin.lenOf, Builtin.firstCells, hnc, storeCells]

/-- 'append(out, src...)', out a slice of ints of the call's own, src a slice that reads as ys. -/
theorem wpList_appIs {P : Program} {w0 w : World} {ops : Array Oper} {rest : List Oper} {o : Oper} {a : Act} {Q : Exit → Act → World → Prop} (hgd : o.guard = none) (s x : Operand) (t : TypeId)
    (ho : o.op = .call { callee := .builtin .append, args := #[s, x], argTypes := #[t, t] })
    (ht : P.underlying t = some (.slice 3)) (hinfo : (P.info? 3).map (fun i => (i.zero, i.size, i.bytes)) = some (some (.int .i64 0), 1, 8))
    (base : Nat) (ao : Option Addr) (cap : Nat) (xs ys : List Int) (v u : Value) (n : Nat) (hn : n = xs.length) (hv : v = .slice ao n cap) (hs : a.eval s = v) (hx : a.eval x = u) (hu : Ints w u ys)
    (hown : OwnI w0 base ao cap xs) (hw : Ex w0.heap.size none w0 w) (hlen : xs.length + ys.length ≤ 1000000000000) (hbase : base ≤ w0.heap.size)
    (h : ∀ ao' cap' w', OwnI w' base ao' cap' (xs ++ ys) → Ex base none w0 w' → wpList P ops Q rest (a.put o.dst (.slice ao' (xs.length + ys.length) cap')) w') : wpList P ops Q (o :: rest) a w := by
  subst hn
  obtain ⟨i0, hi, hz0, hz1, hz2⟩ := info_parts hinfo
  have hown' : OwnI w base ao cap xs := hown.keep hw (Nat.le_refl _) (by simp)
  have hsz := hw.size
  subst hv
  obtain ⟨so, sc, rfl, hr⟩ := hu
  cases so with
  | none =>
    have hy : ys = [] := by
      cases ys with
      | nil => rfl
      | cons y r => obtain ⟨b, off, e, _⟩ := hr 0 (by simp); cases e
    subst hy
    refine wpList_plain hgd fun K hK => ?_
    have hrun := run_append_none (P := P) (w := w) base t o.type 3 i0 1 ht hi _ _ sc _ hown'
    unfold Oper.wp
    simp only [List.length_nil] at hx
    simp [execOp, ho, resolve, invoke, builtin, hs, hx, hrun, Result.andThen]
    exact hK _ _ (by simpa using h ao cap w (by simpa using hown') (hw.mono hbase))
  | some ad =>
    refine wpList_append_own _ hgd s x t ho base 3 i0 (.int .i64 0) 1 8 ht hi hz0 hz1 hz2 rfl (by decide) _ _ _ hs hown' ad ys.length sc (ys.map (Value.int .i64)) hx (by simp) ?_ (ints_oneCell _ _) (by simp only [maxLen]; omega) (by omega) (by omega) ?_
    · intro j u hj
      have hjl : j < ys.length := by
        have := (List.getElem?_eq_some_iff.1 hj).1
        simpa using this
      obtain ⟨b, off, e, hc⟩ := hr j hjl
      cases e
      rw [Addr.add_lit, hc j hjl]
      rw [← hj]; simp [List.getD, hjl]
    · intro v' w' ho' hg _
      obtain ⟨ao', cap', rfl⟩ := own_shape ho'
      refine h ao' cap' w' ?_ ((hw.mono hbase).grown hg (by omega) ?_)
      · simpa [OwnI] using ho'
      · intro k hk
        exact (World.ownsRow.lt hown' k hk).1

theorem take_succ_getD (xs : List Int) (k : Nat) (h : k < xs.length) : xs.take (k + 1) = xs.take k ++ [xs.getD k 0] := by
  rw [List.take_add_one, List.getElem?_eq_getElem h]; simp [List.getD, h]

theorem ret_bool {a b : Bool} (h : a = b) : Ending.returned (.bool a) = .returned (.bool b) := by rw [h]
end Go.Proofs.YtdifcnhhcinonaaGreat

namespace Go.Proofs.YtdifcnhhcinonaaGreat
open Go.RowKit

/-- How values are held: k cells each; R P w cs x: in the world w the cells cs hold x, and all blocks that they lead to satisfy P. -/
structure Rep (α : Type) where
  k : Nat
  R : (Nat → Prop) → World → List Value → α → Prop
  len : ∀ {P w cs x}, R P w cs x → cs.length = k
  one : ∀ {P w cs x}, R P w cs x → ∀ v ∈ cs, v.oneCell' = true
  keep : ∀ {P w w' cs x}, R P w cs x → (∀ b, P b → b < w.heap.size → w'.heap[b]? = w.heap[b]?) → R P w' cs x
  mono : ∀ {P P' w cs x}, R P w cs x → (∀ b, P b → b < w.heap.size → P' b) → R P' w cs x

def intRep : Rep Int where
  k := 1
  R := fun _ _ cs n => cs = [.int .i64 n]
  len := fun h => by subst h; rfl
  one := fun h => by subst h; intro v hv; simp at hv; subst hv; rfl
  keep := fun h _ => h
  mono := fun h _ => h

def strRep : Rep ByteArray where
  k := 1
  R := fun _ _ cs s => cs = [.string s]
  len := fun h => by subst h; rfl
  one := fun h => by subst h; intro v hv; simp at hv; subst hv; rfl
  keep := fun h _ => h
  mono := fun h _ => h

section
variable {α : Type} (r : Rep α)

/-- The slice at 'ao' with 'xs.length' elements reads as xs. -/
def SlAt (P : Nat → Prop) (w : World) (ao : Option Addr) (xs : List α) : Prop :=
  ∀ i (h : i < xs.length), ∃ b off cs, ao = some ⟨b, off, none⟩ ∧ P b ∧ w.rangeAt b (off + i * r.k) cs ∧ r.R P w cs xs[i]
def Sl (P : Nat → Prop) (w : World) (v : Value) (xs : List α) : Prop := ∃ ao cap, v = .slice ao xs.length cap ∧ SlAt r P w ao xs

variable {r}
theorem rangeAt_lt {w : World} {b o : Nat} {cs : List Value} (h : w.rangeAt b o cs) (hc : 0 < cs.length) : b < w.heap.size :=
  World.block_lt_of_cell? w ⟨b, o + 0, none⟩ (h 0 cs[0] (by simp [hc]))
theorem rangeAt_keep {w w' : World} {b o : Nat} {cs : List Value} (h : w.rangeAt b o cs) (hb : w'.heap[b]? = w.heap[b]?) : w'.rangeAt b o cs := fun j v hv =>
  (World.cell?_of_block (w := w) (a := ⟨b, o + j, none⟩) hb).trans (h j v hv)
theorem SlAt.keep {P : Nat → Prop} {w w' : World} {ao : Option Addr} {xs : List α} (h : SlAt r P w ao xs) (hk : 0 < r.k) (hx : ∀ b, P b → b < w.heap.size → w'.heap[b]? = w.heap[b]?) : SlAt r P w' ao xs := by
  intro i hi
  obtain ⟨b, off, cs, e, hp, hr, hR⟩ := h i hi
  exact ⟨b, off, cs, e, hp, rangeAt_keep hr (hx b hp (rangeAt_lt hr (by rw [r.len hR]; exact hk))), r.keep hR hx⟩
theorem SlAt.mono {P P' : Nat → Prop} {w : World} {ao : Option Addr} {xs : List α} (h : SlAt r P w ao xs) (hk : 0 < r.k) (hx : ∀ b, P b → b < w.heap.size → P' b) : SlAt r P' w ao xs := by
  intro i hi
  obtain ⟨b, off, cs, e, hp, hr, hR⟩ := h i hi
  exact ⟨b, off, cs, e, hx b hp (rangeAt_lt hr (by rw [r.len hR]; exact hk)), hr, r.mono hR hx⟩
theorem SlAt.nil (P : Nat → Prop) (w : World) (ao : Option Addr) : SlAt r P w ao [] := fun i hi => by cases hi
theorem SlAt.get {P : Nat → Prop} {w : World} {ao : Option Addr} {xs : List α} (h : SlAt r P w ao xs) (i : Nat) (hi : i < xs.length) : ∃ b off cs x, ao = some ⟨b, off, none⟩ ∧ P b ∧ w.rangeAt b (off + i * r.k) cs ∧ r.R P w cs x ∧ Hid (xs[i]? = some x) := by
  obtain ⟨b, off, cs, e, hp, hr, hR⟩ := h i hi
  exact ⟨b, off, cs, xs[i], e, hp, hr, hR, by show _ = _; simp [hi]⟩
theorem Sl.at' {P : Nat → Prop} {w : World} {ao : Option Addr} {n cap : Nat} {xs : List α} (h : Sl r P w (.slice ao n cap) xs) : SlAt r P w ao xs := by
  obtain ⟨ao', cap', e, h⟩ := h
  cases e; exact h
theorem Sl.keep {P : Nat → Prop} {w w' : World} {v : Value} {xs : List α} (h : Sl r P w v xs) (hk : 0 < r.k) (hx : ∀ b, P b → b < w.heap.size → w'.heap[b]? = w.heap[b]?) : Sl r P w' v xs := by
  obtain ⟨ao, cap, e, h⟩ := h
  exact ⟨ao, cap, e, h.keep hk hx⟩
theorem Sl.mono {P P' : Nat → Prop} {w : World} {v : Value} {xs : List α} (h : Sl r P w v xs) (hk : 0 < r.k) (hx : ∀ b, P b → b < w.heap.size → P' b) : Sl r P' w v xs := by
  obtain ⟨ao, cap, e, h⟩ := h
  exact ⟨ao, cap, e, h.mono hk hx⟩
theorem Sl.nil (P : Nat → Prop) (w : World) : Sl r P w (.slice none 0 0) ([] : List α) := ⟨none, 0, rfl, SlAt.nil _ _ _⟩
theorem SlAt.take {P : Nat → Prop} {w : World} {ao : Option Addr} {xs : List α} (h : SlAt r P w ao xs) (n : Nat) : SlAt r P w ao (xs.take n) := by
  intro i hi
  have hi' : i < xs.length := by simp at hi; omega
  obtain ⟨b, off, cs, e, hp, hr, hR⟩ := h i hi'
  exact ⟨b, off, cs, e, hp, hr, by simpa using hR⟩
theorem SlAt.drop {P : Nat → Prop} {w : World} {b off : Nat} {xs : List α} (h : SlAt r P w (some ⟨b, off, none⟩) xs) (n : Nat) : SlAt r P w (some ⟨b, off + n * r.k, none⟩) (xs.drop n) := by
  intro i hi
  have hi' : n + i < xs.length := by simp at hi; omega
  obtain ⟨b', off', cs, e, hp, hr, hR⟩ := h (n + i) hi'
  cases e
  exact ⟨b, _, cs, rfl, hp, by rw [show off + n * r.k + i * r.k = off + (n + i) * r.k by rw [Nat.add_mul]; omega]; exact hr, by simpa using hR⟩

/-- A slice as a value that is held in a cell. -/
def slRep (r : Rep α) (hk : 0 < r.k) : Rep (List α) where
  k := 1
  R := fun P w cs xs => ∃ v, cs = [v] ∧ Sl r P w v xs
  len := fun ⟨v, h, _⟩ => by subst h; rfl
  one := fun ⟨v, h, hs⟩ => by
    subst h; intro u hu; simp at hu; subst hu
    obtain ⟨ao, cap, e, _⟩ := hs
    subst e; rfl
  keep := fun ⟨v, h, hs⟩ hx => ⟨v, h, hs.keep hk hx⟩
  mono := fun ⟨v, h, hs⟩ hx => ⟨v, h, hs.mono hk hx⟩
end
end Go.Proofs.YtdifcnhhcinonaaGreat

namespace Go.Proofs.YtdifcnhhcinonaaGreat
open Go.RowKit Go.Sort

theorem tape_setCells (g : Nat) : ∀ (vs : List Value) (o : Nat) (w : World), (w.setCells g o vs).tape = w.tape
  | [], _, _ => rfl
  | v :: r, o, w => by rw [World.setCells, tape_setCells g r]; rfl
theorem ex_sortWorldK {α : Type} [Inhabited α] (enc : α → List Value) (k : Nat) (w : World) (g off n : Nat) (d : Array α) (os : Array Obj) : Ex w.heap.size (some g) w (sortWorldK enc k w g off n d os) := by
  unfold sortWorldK
  refine ⟨rfl, rfl, rfl, ?_, fun i hi hne => ?_⟩
  · rw [size_grow]
    unfold putRowK putRow mapBlock Go.Sort.ahead
    simp
  · rw [heap_grow_old _ _ (by unfold putRowK putRow mapBlock Go.Sort.ahead; simpa using hi)]
    unfold putRowK putRow mapBlock Go.Sort.ahead
    simp only [Array.getElem?_modify]
    rw [if_neg (by intro e; exact hne (by rw [e]))]

theorem holdsK_range {α : Type} [Inhabited α] {enc : α → List Value} {k : Nat} {w : World} {g off : Nat} {d : Array α} (hk : ∀ x, (enc x).length = k) (h : HoldsK enc k w g off d) (i : Nat) (hi : i < d.size) : w.rangeAt g (off + i * k) (enc d[i]!) := by
  intro j v hv
  have hj : j < k := by rw [← hk d[i]!]; exact (List.getElem?_eq_some_iff.1 hv).1
  have := (h.cell hi hj).1
  rw [this, getElem!_def, hv]

/-- Two elements exchanged by two runs of stores, behind a draw. -/
theorem swapWorldK {α : Type} [Inhabited α] (enc : α → List Value) (k : Nat) (hk : ∀ x, (enc x).length = k) (w : World) (g off : Nat) (d : Array α) (i j : Nat) (hH : HoldsK enc k w g off d) (hg : g < w.heap.size) (hi : i < d.size) (hj : j < d.size) :
    HoldsK enc k ((w.drew.setCells g (off + i * k) (enc d[j]!)).setCells g (off + j * k) (enc d[i]!)) g off (swp d i j) ∧ Ex w.heap.size (some g) w ((w.drew.setCells g (off + i * k) (enc d[j]!)).setCells g (off + j * k) (enc d[i]!)) := by
  have h0 : w = sortWorldK enc k w g off 0 d #[] := by unfold sortWorldK; rw [grow_empty]; exact (putRowK_self enc k w g off d hH).symm
  have h1 := sortWorldK_swp_c enc k w g off hk 0 d #[] hg i j hi hj
  rw [← h0] at h1
  rw [h1]
  exact ⟨holdsK_sortWorldK_c enc k w g off d _ _ _ hH hg (by rw [size_swp]), ex_sortWorldK enc k w g off _ _ _⟩

theorem holdsK_of {α : Type} [Inhabited α] {enc : α → List Value} {k : Nat} {w : World} {g off : Nat} {d : Array α} (h : ∀ i c, i < d.size → c < k → w.cell? ⟨g, off + i * k + c, none⟩ = some (enc d[i]!)[c]! ∧ w.frozen? ⟨g, off + i * k + c, none⟩ = false) : HoldsK enc k w g off d := fun t ht => by
  have ht' : t < d.size * k := by simpa using ht
  have k0 : 0 < k := by
    rcases Nat.eq_zero_or_pos k with h0 | h0
    · subst h0; simp at ht'
    · exact h0
  have e : t / k * k + t % k = t := Nat.div_add_mod' t k
  have := h (t / k) (t % k) (Nat.div_lt_of_lt_mul (by rw [Nat.mul_comm]; exact ht')) (Nat.mod_lt _ k0)
  rw [Nat.add_assoc, e] at this
  rw [get_flatK _ _ _ t ht']
  exact this
theorem ex_setCells (w : World) (g o : Nat) (vs : List Value) : Ex w.heap.size (some g) w (w.setCells g o vs) := by
  have h := World.keptBut_setCells g (may := fun _ => True) vs o w (fun _ _ => trivial)
  refine ⟨World.os_setCells w g o vs, tape_setCells g vs o w, World.output_setCells w g o vs, by rw [size_setCells]; exact Nat.le_refl _, fun k hk hne => World.heap_setCells_other w g o vs hk (fun e => hne (by rw [e]))⟩
/-- The row's first elements. -/
theorem holdsK_first {α : Type} [Inhabited α] {enc : α → List Value} {k : Nat} {w : World} {g off : Nat} {d d' : Array α} (h : HoldsK enc k w g off d) (hs : d'.size ≤ d.size) (he : ∀ t, t < d'.size → d'[t]! = d[t]!) : HoldsK enc k w g off d' :=
  holdsK_of fun i c hi hc => by rw [he i hi]; exact HoldsK.cell h (by omega) hc
/-- One element is laid anew. -/
theorem holdsK_set {α : Type} [Inhabited α] {enc : α → List Value} {k : Nat} (hk : ∀ x, (enc x).length = k) {w : World} {g off : Nat} {d : Array α} (h : HoldsK enc k w g off d) (i : Nat) (x : α) (hi : i < d.size) : HoldsK enc k (w.setCells g (off + i * k) (enc x)) g off (d.setIfInBounds i x) :=
  holdsK_of fun j c hj hc => by
    have hj' : j < d.size := by simpa using hj
    rw [World.frozen?_setCells]
    refine ⟨?_, (HoldsK.cell h hj' hc).2⟩
    by_cases e : j = i
    · subst e
      rw [World.cell?_setCells_in g (enc x) (off + j * k) w (fun c hc => by rw [hk] at hc; rw [(HoldsK.cell h hj' hc).1]; rfl) c (by rw [hk]; exact hc)]
      rw [getElem!_pos (d.setIfInBounds j x) j hj, Array.getElem_setIfInBounds, if_pos rfl, getElem!_pos (enc x) c (by rw [hk]; exact hc)]
      exact hj'
    · rw [World.cell?_setCells_out g (enc x) (off + i * k) w _ (fun _ _ => by
        rw [hk]
        show off + j * k + c < off + i * k ∨ off + i * k + k ≤ off + j * k + c
        rcases Nat.lt_or_gt_of_ne e with h' | h'
        · have := Nat.mul_le_mul_right k (show j + 1 ≤ i by omega); rw [Nat.add_mul, Nat.one_mul] at this; omega
        · have := Nat.mul_le_mul_right k (show i + 1 ≤ j by omega); rw [Nat.add_mul, Nat.one_mul] at this; omega), (HoldsK.cell h hj' hc).1]
      rw [getElem!_pos (d.setIfInBounds i x) j hj, Array.getElem_setIfInBounds, if_neg (Ne.symm e), getElem!_pos d j hj']
/-- Stores behind the row. -/
theorem holdsK_behind {α : Type} [Inhabited α] {enc : α → List Value} {k : Nat} {w : World} {g off : Nat} {d : Array α} (h : HoldsK enc k w g off d) (s : Nat) (vs : List Value) (hs : d.size * k ≤ s) : HoldsK enc k (w.setCells g (off + s) vs) g off d :=
  holdsK_of fun i c hi hc => by
    rw [World.frozen?_setCells]
    refine ⟨?_, (HoldsK.cell h hi hc).2⟩
    rw [World.cell?_setCells_out g vs (off + s) w _ (fun _ _ => Or.inl (by
      show off + i * k + c < off + s
      have := Nat.mul_le_mul_right k (show i + 1 ≤ d.size from hi); rw [Nat.add_mul, Nat.one_mul] at this; omega)), (HoldsK.cell h hi hc).1]
end Go.Proofs.YtdifcnhhcinonaaGreat

namespace Go.Proofs.YtdifcnhhcinonaaGreat
open Go.RowKit Go.Sort

theorem exGrowK {B : Nat} {w : World} (q : Nat) (os : Array Obj) (p : Option Nat) (hB : B ≤ w.heap.size) : Ex B p w (grow (w.drewN q) os) :=
  ⟨rfl, rfl, rfl, by rw [size_grow]; exact Nat.le_add_right _ _, fun k hk _ => heap_grow_old (w.drewN q) os (by exact Nat.lt_of_lt_of_le hk hB)⟩

variable {P : Program}
theorem shiftAtK (off k x y : Nat) : off + x * k + y * k = off + (x + y) * k := by rw [Nat.add_mul]; omega
theorem runClearK (w : World) (t e ty : TypeId) (z : Value) (k : Nat) (ht : P.underlying t = some (.slice e)) (hv : ∀ w, (zeroValue e).run P w = .ok z w) (hz : z.cells.size = k) (h1 : ∀ v ∈ z.cells, v.oneCell' = true) (b o n c : Nat) (hn : 0 < n)
    (hc : ∀ j, j < n * k → (w.cell? ⟨b, o + j, none⟩).isSome = true) (hf : ∀ j, j < n * k → w.frozen? ⟨b, o + j, none⟩ = false) :
    (Builtin.clear_ #[t] ty #[.slice (some ⟨b, o, none⟩) n c]).run P w = .ok (.tuple #[]) (w.setCells b o (Builtin.zeroCells z.cells n).toList) := by
  have hl : (Builtin.zeroCells z.cells n).toList.length = n * k := by simp [Builtin.zeroCells, hz]
  have hst := run_storeCells_cells (P := P) b o (Builtin.zeroCells z.cells n).toList 0 w (by rw [hl]; simpa using hc) (by rw [hl]; simpa using hf) (by
    intro v hv'
    simp only [Builtin.zeroCells, Array.toList_map, List.mem_map, Array.mem_toList_iff] at hv'
    obtain ⟨i, hi, rfl⟩ := hv'
    by_cases hk : z.cells.size = 0
    · simp [hk] at hi
    · rw [getElem!_pos z.cells _ (Nat.mod_lt _ (by omega))]; exact h1 _ (Array.getElem_mem _))
  simp only [Nat.add_zero] at hst
  obtain ⟨m, rfl⟩ : ∃ m, n = m + 1 := ⟨n - 1, by omega⟩
  simp [Builtin.clear_, run_underlying ht, hv, hst]
end Go.Proofs.YtdifcnhhcinonaaGreat

namespace Go.Proofs.YtdifcnhhcinonaaGreat
open Go.RowKit Go.Sort

structure CLaySt (P : Program) (k : Nat) : Prop where
  mixed : P.follows .mixedOrders = true
  t0 : P.underlying 0 = some (TypeDesc.tuple #[])
  a0 : ∀ w, (isAgg 0).run P w = .ok false w
  z0 : ∀ w, (Go.sizeOf 0).run P w = .ok 1 w
  v0 : ∀ w, (zeroValue 0).run P w = .ok (Value.tuple #[]) w
  t1 : P.underlying 3 = some (TypeDesc.int IntKind.i64)
  a1 : ∀ w, (isAgg 3).run P w = .ok false w
  z1 : ∀ w, (Go.sizeOf 3).run P w = .ok 1 w
  v1 : ∀ w, (zeroValue 3).run P w = .ok (Value.int IntKind.i64 0) w
  t2 : P.underlying 4 = some (TypeDesc.bool)
  a2 : ∀ w, (isAgg 4).run P w = .ok false w
  z2 : ∀ w, (Go.sizeOf 4).run P w = .ok 1 w
  v2 : ∀ w, (zeroValue 4).run P w = .ok (Value.bool false) w
  t3 : P.underlying 146 = some (TypeDesc.int IntKind.u64)
  a3 : ∀ w, (isAgg 146).run P w = .ok false w
  z3 : ∀ w, (Go.sizeOf 146).run P w = .ok 1 w
  v3 : ∀ w, (zeroValue 146).run P w = .ok (Value.int IntKind.u64 0) w
  t4 : P.underlying 22 = some (TypeDesc.slice 28)
  a4 : ∀ w, (isAgg 22).run P w = .ok false w
  z4 : ∀ w, (Go.sizeOf 22).run P w = .ok 1 w
  v4 : ∀ w, (zeroValue 22).run P w = .ok (Value.slice none 0 0) w
  t5 : P.underlying 103 = some (TypeDesc.func #[28, 28] #[3] false)
  a5 : ∀ w, (isAgg 103).run P w = .ok false w
  z5 : ∀ w, (Go.sizeOf 103).run P w = .ok 1 w
  v5 : ∀ w, (zeroValue 103).run P w = .ok (Value.nilFunc) w
  aE : ∀ w, (isAgg 28).run P w = .ok true w
  zE : ∀ w, (Go.sizeOf 28).run P w = .ok k w

theorem claySt : CLaySt Tryz.prog 13 := {
  mixed := by kernel_rfl
  t0 := Tryz.underlying0
  a0 := Tryz.isAgg0
  z0 := Tryz.sizeOf0
  v0 := Tryz.zeroValue0
  t1 := Tryz.underlying3
  a1 := Tryz.isAgg3
  z1 := Tryz.sizeOf3
  v1 := Tryz.zeroValue3
  t2 := Tryz.underlying4
  a2 := Tryz.isAgg4
  z2 := Tryz.sizeOf4
  v2 := Tryz.zeroValue4
  t3 := Tryz.underlying146
  a3 := Tryz.isAgg146
  z3 := Tryz.sizeOf146
  v3 := Tryz.zeroValue146
  t4 := Tryz.underlying22
  a4 := Tryz.isAgg22
  z4 := Tryz.sizeOf22
  v4 := Tryz.zeroValue22
  t5 := Tryz.underlying103
  a5 := Tryz.isAgg103
  z5 := Tryz.sizeOf103
  v5 := Tryz.zeroValue103
  aE := Tryz.isAgg28
  zE := Tryz.sizeOf28 }
end Go.Proofs.YtdifcnhhcinonaaGreat

namespace Go.Proofs.YtdifcnhhcinonaaGreat
open Go.RowKit Go.Sort
variable {P : Program} {α : Type} [Inhabited α]

/-- What is asked of a function that tells whether two elements are the same. -/
def EqAtSt (P : Program) (f : Nat) (cb : Array Value) (enc : α → List Value) (eq : α → α → Bool) : Prop :=
  ∀ (w : World) (x y : α), Calls P f (#[.agg (enc x).toArray, .agg (enc y).toArray] ++ cb) w fun e w' => e = .returned (.bool (eq x y)) ∧ ∃ q os', w' = grow (w.drewN q) os'
set_option maxHeartbeats 8000000 in
set_option maxRecDepth 1000000 in
theorem compactSt_any {k : Nat} (L : CLaySt P k) (enc : α → List Value) (hk : ∀ x, (enc x).length = k) (h1 : ∀ x, ∀ v ∈ enc x, v.oneCell' = true) (eq : α → α → Bool) (f : Nat) (cb : Array Value)
    (ef : ∀ args w, (callFunc f args).run P w = .ok (.enter f args) w) (hcmp : EqAtSt P f cb enc eq)
    (fC : P.funcs[54]? = some Tryz.f54)
    (z : Array Value) (hv : ∀ w, (zeroValue 28).run P w = .ok (.agg z) w) (hz : z.size = k) (hz1 : ∀ v ∈ z, v.oneCell' = true)
    (_t6 : P.underlying 81 = some (TypeDesc.func #[28, 28] #[4] false))
    (_a6 : ∀ w, (isAgg 81).run P w = .ok false w) (_z6 : ∀ w, (Go.sizeOf 81).run P w = .ok 1 w)
    (g off cap s : Nat) (d : Array α) (w : World) (hH : HoldsK enc k w g off d) (hg : g < w.heap.size) (hsz : d.size < 1000000000000) (hcap : d.size ≤ cap) (hs : d.size = s) :
    Calls P 54 #[.slice (some ⟨g, off, none⟩) s cap, .func (.func f) #[] cb] w fun e w' =>
      e = .returned (.slice (some ⟨g, off, none⟩) (cpt eq d s).length cap) ∧ HoldsK enc k w' g off (cpt eq d s).toArray ∧ Ex w.heap.size (some g) w w' := by
  subst hs
  have mixed := L.mixed; have t0 := L.t0; have a0 := L.a0; have z0 := L.z0; have v0 := L.v0; have t1 := L.t1; have a1 := L.a1; have z1 := L.z1; have v1 := L.v1; have t2 := L.t2; have a2 := L.a2; have z2 := L.z2; have v2 := L.v2; have t3 := L.t3; have a3 := L.a3; have z3 := L.z3; have v3 := L.v3; have t4 := L.t4; have a4 := L.a4; have z4 := L.z4; have v4 := L.v4; have t5 := L.t5; have a5 := L.a5; have z5 := L.z5; have v5 := L.v5; have aE := L.aE; have zE := L.zE
  have u4 := run_underlying L.t4
  have HK := Lib.hid hk
  have H1 := Lib.hid h1
  have HC := Lib.hid hcmp
  have HHw := Lib.hid hH
  have HZ := Lib.hid (And.intro hv (And.intro hz hz1))
  have same : ∀ wr, (∀ j, j < d.size → stays eq d j = true) → HoldsK enc k wr g off d → (cpt eq d d.size).length = d.size ∧ HoldsK enc k wr g off (cpt eq d d.size).toArray := fun wr hall h => by
    have e := cpt_all hall (Nat.le_refl _)
    rw [e, List.take_of_length_le (by simp)]
    exact ⟨by simp, by simpa using h⟩
  have SAME := Lib.hid same
  clear hk h1 hcmp hH hv hz hz1 same
  by_cases h2 : d.size < 2
  · go_enter fC, Tryz.ntmps54
    go_wp2
    go_ret
    obtain ⟨e1, e2⟩ := SAME.out w (fun j hj => by obtain rfl : j = 0 := (by omega); rfl) HHw.out
    exact ⟨by rw [e1]; rfl, e2, Ex.refl _ _ _⟩
  · go_enter fC, Tryz.ntmps54
    go_wp2
    go_loopw [5] (fun s3 wr => ∃ i : Nat, s3 = .int .i64 i ∧ 1 ≤ i ∧ i ≤ d.size ∧ (∀ j, j < i → stays eq d j = true) ∧ HoldsK enc k wr g off d ∧ Ex w.heap.size (some g) w wr) (fun s3 _ => d.size - (intOf s3).toNat)
    case atStart => exact ⟨1, rfl, Nat.le_refl _, by omega, fun j hj => by obtain rfl : j = 0 := (by omega); rfl, HHw.out, Ex.refl _ _ _⟩
    case round =>
      obtain ⟨i, rfl, hi1, hi, hall, hHk, hex⟩ := hrel
      have HHk := Lib.hid hHk
      have HA := Lib.hid hall
      clear hHk hall
      have hsz' := hex.size
      by_cases hlt : i < d.size
      · obtain ⟨ip, hip⟩ : ∃ ip, ip = i - 1 := ⟨_, rfl⟩
        have hwp : IntKind.i64.wrap ((i : Int) - 1) = (ip : Int) := by rw [IntKind.wrap_i64]; omega
        have b1 : (i : Int) < d.size := by omega
        have b2 : (ip : Int) < d.size := by omega
        have HIP := Lib.hid hip
        clear hip
        have hHc : ∀ n' os', HoldsK enc k (grow (wr.drewN n') os') g off d := fun n' os' => holdsK_grow enc k _ os' g off d (by show g < wr.heap.size; omega) (show HoldsK enc k (wr.drewN n') g off d from HHk.out)
        obtain ⟨v1, hv1⟩ : ∃ v, d[i]! = v := ⟨_, rfl⟩
        obtain ⟨v2, hv2⟩ : ∃ v, d[ip]! = v := ⟨_, rfl⟩
        have l1 : ∀ n' os', Sem.run P (loadCellsFrom ⟨g, off + i * k, none⟩ 0 k #[]) (grow (wr.drewN n') os') = .ok (enc v1).toArray (grow (wr.drewN n') os') := fun n' os' => by
          rw [← hv1, show off + i * k = off + (i) * k by rfl]; exact run_loadCellsFrom_list P _ _ _ k (HK.out _) (HoldsK.cells (hHc n' os') HK.out (by omega))
        have l2 : ∀ n' os', Sem.run P (loadCellsFrom ⟨g, off + ip * k, none⟩ 0 k #[]) (grow (wr.drewN n') os') = .ok (enc v2).toArray (grow (wr.drewN n') os') := fun n' os' => by
          rw [← hv2, show off + ip * k = off + (ip) * k by rfl]; exact run_loadCellsFrom_list P _ _ _ k (HK.out _) (HoldsK.cells (hHc n' os') HK.out (by omega))
        have hcg : ∀ n' os', Calls P f (#[.agg (enc v1).toArray, .agg (enc v2).toArray] ++ cb) (grow (wr.drewN n') os') fun e w' => e = .returned (.bool (eq v1 v2)) ∧ ∃ q os'', w' = grow ((grow (wr.drewN n') os').drewN q) os'' := fun n' os' => HC.out _ _ _
        have HV : Hid (d[i]! = v1 ∧ d[ip]! = v2) := ⟨hv1, hv2⟩
        clear hHc hv1 hv2
        by_cases hlv : eq v1 v2 = true
        · simp only [hlv] at hcg
          go_wp2_with fail
          go_quiet_grown (first | (go_at_fn f; refine Calls.grown_of (hcg _ _)))
          have hc0 : i ≤ cap := by omega
          by_cases hce : cap = i
          · omega
          go_wp2
          obtain ⟨wo, hwo⟩ : ∃ wo : World, wo = grow (wr.drewN nq) osq := ⟨_, rfl⟩
          have hHo : HoldsK enc k wo g off d := by rw [hwo]; exact holdsK_grow enc k _ _ g off d (by show g < wr.heap.size; omega) (show HoldsK enc k (wr.drewN nq) g off d from HHk.out)
          have hexo : Ex w.heap.size (some g) w wo := by rw [hwo]; exact hex.trans (exGrowK nq osq none (Nat.le_refl _)) hsz' (by simp)
          rw [← hwo]
          have HHo := Lib.hid hHo
          have HD0 : Hid (stays eq d i = false) := by
            have := stays_of (eq := eq) (d := d) (n := i) (by omega) true (by rw [← HIP.out, HV.out.1, HV.out.2]; exact hlv)
            exact this
          clear hHo hwo l1 l2 hcg hlv
          go_loopw [5, 7] (fun s3 s5 wr => ∃ (kk k2 : Nat) (dk : Array α), s3 = .int .i64 kk ∧ s5 = .int .i64 k2 ∧ 1 ≤ k2 ∧ i + k2 ≤ d.size ∧ CInv eq d (i + k2) kk dk ∧ HoldsK enc k wr g off dk ∧ Ex w.heap.size (some g) w wr) (fun _ s5 _ => d.size - (intOf s5).toNat)
          case atStart => exact ⟨i, 1, d, rfl, rfl, Nat.le_refl _, by omega, CInv.start HA.out HD0.out hlt, HHo.out, hexo⟩
          case round =>
            clear HHk HHo HD0 hex hexo hsz' HV
            obtain ⟨kk, k2, dk, rfl, rfl, h1, hle, hI, hHk, hex⟩ := hrel
            have hkk := hI.lt
            have hds := hI.size
            have HI := Lib.hid hI
            have HHk := Lib.hid hHk
            have HDS := Lib.hid hds
            clear hI hHk hds
            have hsz' := hex.size
            by_cases hlt2 : i + k2 < d.size
            · obtain ⟨mp, hmp⟩ : ∃ mp, mp = k2 - 1 := ⟨_, rfl⟩
              have hwp2 : IntKind.i64.wrap ((k2 : Int) - 1) = (mp : Int) := by rw [IntKind.wrap_i64]; omega
              have hl2 : ((d.size - i : Nat) : Int) = (d.size : Int) - i := by omega
              have b3 : (k2 : Int) < (d.size : Int) - i := by omega
              have b4 : (mp : Int) < (d.size : Int) - i := by omega
              have b5 : k2 < d.size - i := by omega
              have b6 : mp < d.size - i := by omega
              have hdz : dk.size = d.size := HDS.out
              have HMP := Lib.hid hmp
              have HDZ := Lib.hid hdz
              clear hmp hdz
              have hHc : ∀ n' os', HoldsK enc k (grow (wr.drewN n') os') g off dk := fun n' os' => holdsK_grow enc k _ os' g off dk (by show g < wr.heap.size; omega) (show HoldsK enc k (wr.drewN n') g off dk from HHk.out)
              obtain ⟨v1, hv1⟩ : ∃ v, dk[i + k2]! = v := ⟨_, rfl⟩
              obtain ⟨v2, hv2⟩ : ∃ v, dk[i + mp]! = v := ⟨_, rfl⟩
              have l1 : ∀ n' os', Sem.run P (loadCellsFrom ⟨g, off + i * k + k2 * k, none⟩ 0 k #[]) (grow (wr.drewN n') os') = .ok (enc v1).toArray (grow (wr.drewN n') os') := fun n' os' => by
                rw [← hv1, show off + i * k + k2 * k = off + (i + k2) * k by exact shiftAtK _ _ _ _]; exact run_loadCellsFrom_list P _ _ _ k (HK.out _) (HoldsK.cells (hHc n' os') HK.out (by have := HDZ.out; omega))
              have l2 : ∀ n' os', Sem.run P (loadCellsFrom ⟨g, off + i * k + mp * k, none⟩ 0 k #[]) (grow (wr.drewN n') os') = .ok (enc v2).toArray (grow (wr.drewN n') os') := fun n' os' => by
                rw [← hv2, show off + i * k + mp * k = off + (i + mp) * k by exact shiftAtK _ _ _ _]; exact run_loadCellsFrom_list P _ _ _ k (HK.out _) (HoldsK.cells (hHc n' os') HK.out (by have := HDZ.out; omega))
              have hcg : ∀ n' os', Calls P f (#[.agg (enc v1).toArray, .agg (enc v2).toArray] ++ cb) (grow (wr.drewN n') os') fun e w' => e = .returned (.bool (eq v1 v2)) ∧ ∃ q os'', w' = grow ((grow (wr.drewN n') os').drewN q) os'' := fun n' os' => HC.out _ _ _
              have HV : Hid (dk[i + k2]! = v1 ∧ dk[i + mp]! = v2) := ⟨hv1, hv2⟩
              clear hHc hv1 hv2
              by_cases hlv : eq v1 v2 = true
              · simp only [hlv] at hcg
                go_wp2_with fail
                go_quiet_grown (first | (go_at_fn f; refine Calls.grown_of (hcg _ _)))
                go_wp2
                go_roundw
                case rel => exact ⟨kk, k2 + 1, dk, rfl, by go_num, by omega, by omega, HI.out.skip (stays_of (by omega) true (by
                  have e1 := HI.out.rest (i + k2) (by omega)
                  have e2 := HI.out.rest (i + mp) (by have := HMP.out; omega)
                  rw [show i + k2 - 1 = i + mp by have := HMP.out; omega, ← e1, ← e2, HV.out.1, HV.out.2]; exact hlv)), holdsK_grow enc k _ _ g off dk (by show g < wr.heap.size; omega) (show HoldsK enc k (wr.drewN nq) g off dk from HHk.out), hex.trans (exGrowK nq osq none (Nat.le_refl _)) hsz' (by simp)⟩
                case measure => simp [intOf]; omega
              · have hlv' : eq v1 v2 = false := by simpa using hlv
                simp only [hlv'] at hcg
                go_wp2_with fail
                go_quiet_grown (first | (go_at_fn f; refine Calls.grown_of (hcg _ _)))
                obtain ⟨wq, hwq⟩ : ∃ wq : World, wq = grow (wr.drewN nq) osq := ⟨_, rfl⟩
                have hHq : HoldsK enc k wq g off dk := by rw [hwq]; exact holdsK_grow enc k _ _ g off dk (by show g < wr.heap.size; omega) (show HoldsK enc k (wr.drewN nq) g off dk from HHk.out)
                have hexq : Ex w.heap.size (some g) w wq := by rw [hwq]; exact hex.trans (exGrowK nq osq none (Nat.le_refl _)) hsz' (by simp)
                have lq : Sem.run P (loadCellsFrom ⟨g, off + i * k + k2 * k, none⟩ 0 k #[]) wq = .ok (enc v1).toArray wq := by rw [hwq]; exact l1 nq osq
                rw [← hwq]
                have sq : Sem.run P (storeCells ⟨g, off + kk * k, none⟩ (enc v1) 0) wq = .ok () (wq.setCells g (off + kk * k) (enc v1)) := stores_of_holds P hHq (kk * k) _ (by
                  rw [HK.out, size_flatK]
                  have := Nat.mul_le_mul_right k (show kk + 1 ≤ dk.size by have := HDZ.out; omega); rwa [Nat.add_mul, Nat.one_mul] at this) (H1.out _)
                have hsV : (enc v1).length = k := HK.out _
                have HQ := Lib.hid hHq
                have hszq := hexq.size
                clear l1 l2 hcg hwq hHq
                obtain ⟨cV, hcV⟩ : ∃ c, c = enc v1 := ⟨_, rfl⟩
                rw [← hcV] at lq sq hsV
                have CC := Lib.hid hcV
                clear hcV
                have b7 : (kk : Int) < d.size := by omega
                go_wp2
                go_roundw
                case rel =>
                  have e1 := HI.out.rest (i + k2) (by omega)
                  have e2 := HI.out.rest (i + mp) (by have := HMP.out; omega)
                  have hk := HI.out.keep (stays_of (by omega) false (by
                    rw [show i + k2 - 1 = i + mp by have := HMP.out; omega, ← e1, ← e2, HV.out.1, HV.out.2]; exact hlv')) hlt2
                  rw [← e1, HV.out.1] at hk
                  refine ⟨kk + 1, k2 + 1, dk.setIfInBounds kk v1, by go_num, by go_num, by omega, by omega, hk, ?_, hexq.trans (ex_setCells wq g (off + kk * k) cV) hszq (fun q e _ => by cases e; rfl)⟩
                  rw [CC.out]
                  exact holdsK_set HK.out HQ.out kk v1 (by have := HDZ.out; omega)
                case measure => simp [intOf]; omega
            · obtain ⟨n, hn⟩ : ∃ n, n = d.size := ⟨_, rfl⟩
              have hend : i + k2 = d.size := by omega
              have hdz : dk.size = d.size := HDS.out
              have hcl : ∀ ty, (Builtin.clear_ #[22] ty #[.slice (some ⟨g, off + kk * k, none⟩) (d.size - kk) (cap - kk)]).run P wr = .ok (.tuple #[]) (wr.setCells g (off + kk * k) (Builtin.zeroCells z (d.size - kk)).toList) :=
                fun ty => runClearK wr _ _ ty (.agg z) k L.t4 HZ.out.1 HZ.out.2.1 HZ.out.2.2 g (off + kk * k) _ _ (by omega) (fun j hj => by
                  have := (HHk.out (kk * k + j) (by rw [size_flatK, hdz]; have := Nat.add_mul kk (d.size - kk) k; rw [show kk + (d.size - kk) = d.size by omega] at this; omega)).1
                  rw [Nat.add_assoc, this]; rfl) (fun j hj => by
                  have := (HHk.out (kk * k + j) (by rw [size_flatK, hdz]; have := Nat.add_mul kk (d.size - kk) k; rw [show kk + (d.size - kk) = d.size by omega] at this; omega)).2
                  rw [Nat.add_assoc]; exact this)
              have hexc := hex.trans (ex_setCells wr g (off + kk * k) (Builtin.zeroCells z (d.size - kk)).toList) hsz' (fun q e _ => by cases e; rfl)
              have hfin : HoldsK enc k (wr.setCells g (off + kk * k) (Builtin.zeroCells z (d.size - kk)).toList) g off (cpt eq d d.size).toArray := by
                have hI := HI.out
                rw [hend] at hI
                obtain ⟨h1, h2⟩ := hI.head (Nat.le_refl _)
                exact holdsK_behind (holdsK_first HHk.out h1 h2) _ _ (by simp [hI.len])
              have hlen : (cpt eq d d.size).length = kk := by have := HI.out.len; rwa [hend] at this
              have FIN := Lib.hid (And.intro hexc (And.intro hfin hlen))
              have b7 : (kk : Int) ≤ d.size := by omega
              have b8 : ¬ (k2 : Int) < (d.size : Int) - i := by omega
              have b9 : ¬ k2 < d.size - i := by omega
              have b10 : (kk : Int) ≤ cap := by omega
              have b11 : kk ≤ cap := by omega
              have b12 : kk ≤ d.size := by omega
              have b13 : ¬ cap = kk := by omega
              clear hexc hfin hlen hend hdz hn
              go_wp2
              go_ret
              exact ⟨by rw [FIN.out.2.2]; rfl, FIN.out.2.1, FIN.out.1⟩
        · have hlv' : eq v1 v2 = false := by simpa using hlv
          simp only [hlv'] at hcg
          go_wp2_with fail
          go_quiet_grown (first | (go_at_fn f; refine Calls.grown_of (hcg _ _)))
          go_wp2
          go_roundw
          case rel => exact ⟨i + 1, by go_num, by omega, by omega, fun j hj => by
            by_cases e : j = i
            · subst e
              exact stays_of (by omega) false (by rw [← HIP.out, HV.out.1, HV.out.2]; exact hlv')
            · exact HA.out j (by omega), holdsK_grow enc k _ _ g off d (by show g < wr.heap.size; omega) (show HoldsK enc k (wr.drewN nq) g off d from HHk.out), hex.trans (exGrowK nq osq none (Nat.le_refl _)) hsz' (by simp)⟩
          case measure => simp [intOf]; omega
      · obtain rfl : i = d.size := by omega
        go_wp2
        go_ret
        obtain ⟨e1, e2⟩ := SAME.out wr HA.out HHk.out
        exact ⟨by rw [e1]; rfl, e2, hex⟩
end Go.Proofs.YtdifcnhhcinonaaGreat

namespace Go.Proofs.YtdifcnhhcinonaaGreat
open Go.RowKit

/-- cmp.Compare of two numbers. -/
def cmpI (x y : Int) : Int := if x < y then -1 else if y < x then 1 else 0
theorem cmpI_lt {x y : Int} : cmpI x y < 0 ↔ x < y := by unfold cmpI; split <;> (try split) <;> omega
theorem cmpI_zero {x y : Int} : cmpI x y = 0 ↔ x = y := by unfold cmpI; split <;> (try split) <;> omega
theorem isNaN_any (x : Int) (w : World) : Calls Tryz.prog 167 #[.int .i64 x] w fun e w' => e = .returned (.bool false) ∧ w = w' := by
  have h : (x != x) = false := by simp
  go_enter Tryz.func167, Tryz.ntmps167
  go_wp2
  go_ret
  exact ⟨rfl, rfl⟩

set_option maxHeartbeats 400000 in
theorem compare_any (x y : Int) (w : World) : Calls Tryz.prog 113 #[.int .i64 x, .int .i64 y] w fun e w' => e = .returned (.int .i64 (cmpI x y)) ∧ w = w' := by
  by_cases h1 : x < y
  · have d1 : decide (x < y) = true := decide_eq_true h1
    have HK : Hid (cmpI x y = -1) := by show _ = _; simp [cmpI, h1]
    go_enter Tryz.func113, Tryz.ntmps113
    go_wp2_with (go_at_call 167; refine (isNaN_any _ _).mono ?_; rintro e w' ⟨rfl, rfl⟩)
    go_ret
    exact ⟨by rw [HK.out]; rfl, rfl⟩
  · have d1 : decide (x < y) = false := decide_eq_false h1
    by_cases h2 : y < x
    · have d2 : decide (y < x) = true := decide_eq_true h2
      have HK : Hid (cmpI x y = 1) := by show _ = _; simp [cmpI, h1, h2]
      go_enter Tryz.func113, Tryz.ntmps113
      go_wp2_with (go_at_call 167; refine (isNaN_any _ _).mono ?_; rintro e w' ⟨rfl, rfl⟩)
      go_ret
      exact ⟨by rw [HK.out]; rfl, rfl⟩
    · have d2 : decide (y < x) = false := decide_eq_false h2
      have HK : Hid (cmpI x y = 0) := by show _ = _; simp [cmpI, h1, h2]
      go_enter Tryz.func113, Tryz.ntmps113
      go_wp2_with (go_at_call 167; refine (isNaN_any _ _).mono ?_; rintro e w' ⟨rfl, rfl⟩)
      go_ret
      exact ⟨by rw [HK.out]; rfl, rfl⟩
end Go.Proofs.YtdifcnhhcinonaaGreat

namespace Go.Proofs.YtdifcnhhcinonaaGreat
open Go.RowKit Go.Sort

/-- cmp.Or of three numbers. -/
def or3 (a b c : Int) : Int := if a = 0 then (if b = 0 then c else b) else a
set_option maxHeartbeats 1000000 in
theorem cmpOr_any (v : Value) (xs : List Int) (w : World) (hv : Ints w v xs) (hm : xs.length ≤ 1000000) : Calls Tryz.prog 112 #[v] w fun e w' => e = .returned (.int .i64 ((xs.find? (· != 0)).getD 0)) ∧ w = w' := by
  obtain ⟨ao, cap, rfl, hx⟩ := hv
  go_enter Tryz.func112, Tryz.ntmps112
  go_wp2
  go_loop [8] (fun i => ∃ k : Nat, k ≤ xs.length ∧ i = .int .i64 k ∧ Hid ((xs.take k).find? (· != 0) = none)) (fun i => xs.length - (intOf i).toNat)
  case atStart => exact ⟨0, Nat.zero_le _, rfl, (show _ = _ by simp)⟩
  case round =>
    obtain ⟨k, hk, rfl, HN⟩ := hrel
    by_cases hlt : k < xs.length
    · obtain ⟨b, off, y, rfl, hck, HY⟩ := hx.get k hlt
      have ht : xs.take (k + 1) = xs.take k ++ [y] := by
        rw [List.take_add_one, List.getElem?_eq_getElem hlt]
        have := HY.out
        rw [List.getD_eq_getElem?_getD, List.getElem?_eq_getElem hlt] at this
        simp at this; simp [this]
      by_cases he : y = 0
      · have hb : (y != 0) = false := by simp [he]
        have HR : Hid ((xs.take (k + 1)).find? (· != 0) = none) := by
          show _ = _
          rw [ht, List.find?_append, HN.out]; simp [he]
        clear he ht
        go_wp2
        go_round
        case rel => exact ⟨k + 1, by omega, by go_num, HR⟩
        case measure => simp [intOf]; omega
      · have hb : (y != 0) = true := by simp [he]
        have HR : Hid (xs.find? (· != 0) = some y) := by
          show _ = _
          rw [← List.take_append_drop (k + 1) xs, ht, List.find?_append, List.find?_append, HN.out]; simp [he]
        clear he ht
        go_wp2
        go_ret
        exact ⟨by rw [HR.out]; rfl, rfl⟩
    · have HR : Hid (xs.find? (· != 0) = none) := by
        have h := HN.out
        rwa [List.take_of_length_le (by omega)] at h
      go_wp2
      go_ret
      exact ⟨by rw [HR.out]; rfl, rfl⟩
end Go.Proofs.YtdifcnhhcinonaaGreat
