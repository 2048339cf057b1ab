/- copy at elements of k cells; a row out of the cells of its elements. For whatever program; no statement of the seat. | Statements as data, and how memory holds them: words, no statement of the seat. | ref03.SameInts, SamePins: contracts, no statement of the seat. | ref03.Same: words for its contract, no statement of the seat. | A region that draws its order, whose operations read and whose callees may lay blocks of their own: walked once, in the order of the text, at the class of worlds in which no old block has been turned. For whatever program; no statement of the seat. | ref03.Copy: a contract, no statement of the seat. | Sorted and compacted numbers: plain laws; the library's Sort and Compact at ints, met in these texts' words. No statement of the seat. | lists.Sorted: the library's Sorted over its Values, at ints. No statement of the seat. -/
import Derived.Test.YtfllcohnfboccaaGreatRowKG
import Derived.Laws.CopyOwn
import Derived.Test.YtfllcohnfboccaaGreatRows
import Derived.Test.YtfllcohnfboccaaGreatMg00
import Derived.Test.YtfllcohnfboccaaGreatShelf
import Derived.RangeFuncBox
import Derived.RangeFuncLeaves
import Derived.RangeFuncWrites
import Derived.RangeFuncBound
import Derived.RangeFuncNested
import Derived.Shelf.Abstract
import Derived.WalkKit
import Derived.OwnWalkIn
import Derived.TacticsInMore
import Derived.LoopNIn
import Derived.LoopIn
import Derived.Maps.AppendAt
namespace Go.Proofs.YtfllcohnfboccaaGreat
open Go.RowKit Go.Sort

variable {α : Type} [Inhabited α]

/-- The cells of a list of elements, one behind the other. -/
def flatL (enc : α → List Value) (xs : List α) : List Value := xs.flatMap enc
omit [Inhabited α] in
theorem flatL_len {enc : α → List Value} {k : Nat} (hk : ∀ x, (enc x).length = k) (xs : List α) : (flatL enc xs).length = xs.length * k := by
  induction xs with
  | nil => simp [flatL]
  | cons x r ih => simp only [flatL, List.flatMap_cons, List.length_append, hk, List.length_cons, Nat.add_mul, Nat.one_mul] at *; omega
omit [Inhabited α] in
theorem flatL_get {enc : α → List Value} {k : Nat} (hk : ∀ x, (enc x).length = k) : ∀ (xs : List α) (i c : Nat) (h : i < xs.length), c < k → (flatL enc xs)[i * k + c]? = (enc xs[i])[c]?
  | [], i, c, h, _ => by simp at h
  | x :: r, 0, c, h, hc => by
    simp only [flatL, List.flatMap_cons, Nat.zero_mul, Nat.zero_add]
    rw [List.getElem?_append_left (by rw [hk]; exact hc)]; rfl
  | x :: r, i + 1, c, h, hc => by
    simp only [flatL, List.flatMap_cons]
    rw [List.getElem?_append_right (by rw [hk, Nat.add_mul, Nat.one_mul]; omega), hk, show (i + 1) * k + c - k = i * k + c by rw [Nat.add_mul, Nat.one_mul]; omega]
    exact flatL_get hk r i c (by simpa using h) hc
omit [Inhabited α] in
theorem flatL_one {enc : α → List Value} (h1 : ∀ x, ∀ v ∈ enc x, v.oneCell' = true) (xs : List α) : ∀ v ∈ flatL enc xs, v.oneCell' = true := fun v hv => by
  simp only [flatL, List.mem_flatMap] at hv
  obtain ⟨x, _, hv⟩ := hv
  exact h1 x v hv
/-- A row whose cells are those of xs holds xs. -/
theorem holdsK_flat {enc : α → List Value} {k : Nat} (hk : ∀ x, (enc x).length = k) {w : World} {g off : Nat} {xs : List α} (hc : ∀ j v, (flatL enc xs)[j]? = some v → w.cell? ⟨g, off + j, none⟩ = some v) (hf : ∀ j, j < (flatL enc xs).length → w.frozen? ⟨g, off + j, none⟩ = false) : HoldsK enc k w g off xs.toArray :=
  holdsK_of fun i c hi hcc => by
    have hi' : i < xs.length := by simpa using hi
    have e := flatL_get hk xs i c hi' hcc
    have hlen : c < (enc xs[i]).length := by rw [hk]; exact hcc
    rw [List.getElem?_eq_getElem hlen] at e
    have hb : i * k + c < (flatL enc xs).length := (List.getElem?_eq_some_iff.1 e).1
    rw [Nat.add_assoc]
    refine ⟨?_, hf _ hb⟩
    rw [hc _ _ e, getElem!_pos xs.toArray i (by simpa using hi'), List.getElem_toArray, getElem!_pos (enc xs[i]) c hlen]
/-- Stores of all cells of a list over a row that has room. -/
theorem holdsK_setAll {enc : α → List Value} {k : Nat} (hk : ∀ x, (enc x).length = k) {w : World} {g off : Nat} {xs : List α} (hc : ∀ j, j < xs.length * k → (w.cell? ⟨g, off + j, none⟩).isSome = true) (hf : ∀ j, j < xs.length * k → w.frozen? ⟨g, off + j, none⟩ = false) : HoldsK enc k (w.setCells g off (flatL enc xs)) g off xs.toArray :=
  holdsK_flat hk (fun j v hv => by
    obtain ⟨hj, rfl⟩ := List.getElem?_eq_some_iff.1 hv
    exact World.cell?_setCells_in g (flatL enc xs) off w (fun j hj => hc j (by rw [← flatL_len hk]; exact hj)) j hj) (fun j hj => by
    rw [World.frozen?_setCells]; exact hf j (by rw [← flatL_len hk]; exact hj))

/-- 'copy(dst, src)', both of n elements of so many cells each. -/
theorem wpList_copy_k {P : Program} {w : World} {ops : Array Oper} {rest : List Oper} {o : Oper} {a : Act} {Q : Exit → Act → World → Prop} (hgd : o.guard = none) (d s : Operand) (dT sT : TypeId)
    (ho : o.op = .call { callee := .builtin .copy, args := #[d, s], argTypes := #[dT, sT] }) (elem : TypeId) (hu : P.underlying dT = some (.slice elem)) (size : Nat) (hsz : (P.info? elem).map (·.size) = some size)
    (g off n dCap : Nat) (sp : Option Addr) (sCap : Nat) (hd : a.eval d = .slice (some ⟨g, off, none⟩) n dCap) (hs : a.eval s = .slice sp n sCap) (cs : List Value) (hn : cs.length = n * size)
    (hpos : n = 0 ∨ ∃ ad, sp = some ad ∧ ∀ j v, cs[j]? = some v → w.cell? (ad.add j) = some v) (hc : ∀ j, j < cs.length → (w.cell? ⟨g, off + j, none⟩).isSome = true) (hf : ∀ j, j < cs.length → w.frozen? ⟨g, off + j, none⟩ = false) (h1 : ∀ v ∈ cs, v.oneCell' = true)
    (h : wpList P ops Q rest (a.put o.dst (goInt n)) (w.setCells g off cs)) : wpList P ops Q (o :: rest) a w := by
  refine wpList_plain hgd fun K hK => ?_
  have hst := run_storeCells_cells (P := P) g off cs 0 w (by simpa using hc) (by simpa using hf) h1
  simp only [Nat.add_zero] at hst
  cases hq : P.info? elem with
  | none => simp [hq] at hsz
  | some i =>
    have hi : i.size = size := by simpa [hq] using hsz
    have hrun : (Builtin.copy_ #[dT, sT] o.type #[.slice (some ⟨g, off, none⟩) n dCap, .slice sp n sCap]).run P w = .ok (goInt n) (w.setCells g off cs) := by
      rcases hpos with h0 | ⟨ad, rfl, hsrc⟩
      · subst h0
        obtain rfl : cs = [] := List.eq_nil_of_length_eq_zero (by rw [hn, Nat.zero_mul])
        have hl : ∀ (x : Addr), (loadCells x 0).run P w = .ok #[] w := fun x => by simpa using run_loadCells_list (P := P) w x [] (by simp)
        cases sp <;> simp [Builtin.copy_, run_underlying hu, Builtin.lenOf, Builtin.firstCells, sizeOf, typeInfo, hq, hl, storeCells, World.setCells]
      · have hl := run_loadCells_list (P := P) w ad cs hsrc
        rw [hn] at hl
        simp [Builtin.copy_, run_underlying hu, Builtin.lenOf, Builtin.firstCells, sizeOf, typeInfo, hq, hi, hl, hst]
    unfold Oper.wp
    simp [execOp, ho, resolve, invoke, builtin, hd, hs, hrun, Result.andThen]
    exact hK _ _ h
/-- Cells of a row that is owned. -/
theorem own_there {w : World} {base e size n cap : Nat} {xs : List Value} {g o : Nat} (h : w.ownsRow base e size (.slice (some ⟨g, o, none⟩) n cap) n xs) : o = 0 ∧ base ≤ g ∧ g < w.heap.size ∧ n ≤ cap ∧ (∀ (j : Nat) (v : Value), xs[j]? = some v → w.cell? ⟨g, j, none⟩ = some v) ∧ ∀ j, w.frozen? ⟨g, j, none⟩ = false := by
  rcases h.2 with ⟨h1, h2⟩ | ⟨g', cap', cur, hv, hg, hh, hn, hcm, hcur, hpre⟩
  · cases h1
  · cases hv
    refine ⟨rfl, hg, (Array.getElem?_eq_some_iff.1 hh).1, hn, fun j v hj => ?_, fun j => by simp [World.frozen?, hh]⟩
    rw [← hpre] at hj
    have : cur.toList[j]? = some v := by
      rw [List.getElem?_take] at hj
      split at hj
      · exact hj
      · cases hj
    simp only [World.cell?, hh]
    simpa using this
/-- A row of elements that is owned holds them. -/
theorem own_holdsK {enc : α → List Value} {k : Nat} (hk : ∀ x, (enc x).length = k) {w : World} {base e n cap : Nat} {xs : List α} {g o : Nat} (h : w.ownsRow base e k (.slice (some ⟨g, o, none⟩) n cap) n (flatL enc xs)) : HoldsK enc k w g 0 xs.toArray := by
  obtain ⟨_, _, _, _, h1, h2⟩ := own_there h
  exact holdsK_flat hk (fun j v hv => by rw [Nat.zero_add]; exact h1 j v hv) (fun j _ => by rw [Nat.zero_add]; exact h2 j)
theorem own_some {w : World} {base e size n cap : Nat} {xs : List Value} {g o : Nat} (h : w.ownsRow base e size (.slice (some ⟨g, o, none⟩) n cap) n xs) (j : Nat) (hj : j < n * size) : (w.cell? ⟨g, 0 + j, none⟩).isSome = true := by
  obtain ⟨_, _, _, _, h1, _⟩ := own_there h
  have hl : j < xs.length := by rw [h.1]; exact hj
  rw [Nat.zero_add, h1 j xs[j] (by simp [hl])]; rfl
theorem own_frozen {w : World} {base e size n cap : Nat} {xs : List Value} {g o : Nat} (h : w.ownsRow base e size (.slice (some ⟨g, o, none⟩) n cap) n xs) (j : Nat) : w.frozen? ⟨g, 0 + j, none⟩ = false := by
  obtain ⟨_, _, _, _, _, h2⟩ := own_there h
  rw [Nat.zero_add]; exact h2 j
theorem copy_from {w w1 : World} {row : Option Nat} {n : Nat} {ao : Option Addr} {cs : List Value} (h : n = 0 ∨ ∃ ad, ao = some ad ∧ ∀ (j : Nat) (v : Value), cs[j]? = some v → w.cell? (ad.add j) = some v) (hg : w.grownBy w1 row) (hr : ∀ k, row = some k → w.heap.size ≤ k) : n = 0 ∨ ∃ ad, ao = some ad ∧ ∀ (j : Nat) (v : Value), cs[j]? = some v → w1.cell? (ad.add j) = some v :=
  h.imp id fun ⟨ad, e, h⟩ => ⟨ad, e, fun j v hv => hg.cell (h j v hv) fun e' => by
    have a := hr _ e'.symm
    have b := World.block_lt_of_cell? w _ (h j v hv)
    omega⟩

/-- A slice of elements of k cells that the call owns. -/
def OwnE (enc : α → List Value) (k : Nat) (e : TypeId) (w : World) (base : Nat) (ao : Option Addr) (cap : Nat) (xs : List α) : Prop := w.ownsRow base e k (.slice ao xs.length cap) xs.length (flatL enc xs)
omit [Inhabited α] in
theorem OwnE.nil (enc : α → List Value) (k : Nat) (e : TypeId) (w : World) (base : Nat) : OwnE enc k e w base none 0 [] := World.ownsRow_nil w base e k
omit [Inhabited α] in
theorem OwnE.keep {enc : α → List Value} {k : Nat} {e : TypeId} {w w' : World} {base B : Nat} {p : Option Nat} {ao : Option Addr} {cap : Nat} {xs : List α} (h : OwnE enc k e w base ao cap xs) (hx : Ex B p w w') (hB : w.heap.size ≤ B) (hp : ∀ q, p = some q → q < base) : OwnE enc k e w' base ao cap xs := own_keep h hx hB hp
omit [Inhabited α] in
theorem OwnE.lt {enc : α → List Value} {k : Nat} {e : TypeId} {w : World} {base : Nat} {ao : Option Addr} {cap : Nat} {xs : List α} (h : OwnE enc k e w base ao cap xs) : ∀ a, ao = some a → base ≤ a.block ∧ a.block < w.heap.size := by
  intro a e; subst e; exact World.ownsRow.lt h _ rfl
omit [Inhabited α] in
theorem OwnE.cases {enc : α → List Value} {k : Nat} {e : TypeId} {w : World} {base : Nat} {ao : Option Addr} {cap : Nat} {xs : List α} (h : OwnE enc k e w base ao cap xs) : (ao = none ∧ cap = 0 ∧ xs = []) ∨ ∃ g, ao = some ⟨g, 0, none⟩ ∧ base ≤ g ∧ g < w.heap.size ∧ xs.length ≤ cap := by
  rcases h.2 with ⟨h1, h2⟩ | ⟨g, cap', cur, hv, hg, hh, hn, _⟩
  · simp only [Value.slice.injEq] at h1
    obtain ⟨rfl, _, rfl⟩ := h1
    exact Or.inl ⟨rfl, rfl, List.eq_nil_of_length_eq_zero h2⟩
  · cases hv; exact Or.inr ⟨g, rfl, hg, (Array.getElem?_eq_some_iff.1 hh).1, hn⟩
theorem OwnE.holds {enc : α → List Value} {k : Nat} (hk : ∀ x, (enc x).length = k) {e : TypeId} {w : World} {base g o cap : Nat} {xs : List α} (h : OwnE enc k e w base (some ⟨g, o, none⟩) cap xs) : HoldsK enc k w g 0 xs.toArray := own_holdsK hk h

omit [Inhabited α] in
/-- 'append(out, src...)', out a slice of such elements of the call's own, src as many cells as ys says (nil too). -/
theorem wpList_appE {P : Program} {w0 w : World} {ops : Array Oper} {rest : List Oper} {o : Oper} {a : Act} {Q : Exit → Act → World → Prop} (hgd : o.guard = none) (s x : Operand) (t e : TypeId)
    (ho : o.op = .call { callee := .builtin .append, args := #[s, x], argTypes := #[t, t] })
    (ht : P.underlying t = some (.slice e)) (z : Value) (k bytes : Nat) (hinfo : (P.info? e).map (fun i => (i.zero, i.size, i.bytes)) = some (some z, k, bytes)) (hzc : z.cells.size = k) (hk0 : 0 < k) (hb : bytes ≤ 1000)
    (enc : α → List Value) (hk : ∀ x, (enc x).length = k) (h1 : ∀ x, ∀ v ∈ enc x, v.oneCell' = true)
    (base : Nat) (ao : Option Addr) (cap : Nat) (xs ys : List α) (v u : Value) (n : Nat) (hn : n = xs.length) (hv : v = .slice ao n cap) (hs : a.eval s = v) (so : Option Addr) (m sc : Nat) (hx : a.eval x = u) (hu : u = .slice so m sc) (hm : m = ys.length)
    (hsrc : ys.length = 0 ∨ ∃ ad, so = some ad ∧ ∀ (j : Nat) (v : Value), (flatL enc ys)[j]? = some v → w.cell? (ad.add j) = some v)
    (hown : OwnE enc k e w0 base ao cap xs) (hw : Ex w0.heap.size none w0 w) (hlen : xs.length + ys.length ≤ 10000000) (hbase : base ≤ w0.heap.size)
    (h : ∀ ao' cap' w', OwnE enc k e w' base ao' cap' (xs ++ ys) → Ex base none w0 w' → wpList P ops Q rest (a.put o.dst (.slice ao' (xs.length + ys.length) cap')) w') : wpList P ops Q (o :: rest) a w := by
  subst hn hm hu hv
  obtain ⟨i0, hi, hz0, hz1, hz2⟩ := info_parts hinfo
  have hown' : OwnE enc k e w base ao cap xs := hown.keep hw (Nat.le_refl _) (by simp)
  have hsz := hw.size
  have key : ∀ so ad, so = some ad → a.eval x = .slice so ys.length sc → (∀ (j : Nat) (v : Value), (flatL enc ys)[j]? = some v → w.cell? (ad.add j) = some v) → wpList P ops Q (o :: rest) a w := fun so ad e1 hx hsrc => by
    subst e1
    refine wpList_append_own _ hgd s x t ho base e i0 z k bytes ht hi hz0 hz1 hz2 hzc hk0 _ _ _ hs hown' ad ys.length sc (flatL enc ys) hx (flatL_len hk ys) hsrc (flatL_one h1 ys) (by simp only [maxLen]; omega) ?_ (by omega) ?_
    · have := Nat.mul_le_mul hlen hb; omega
    · intro v' w' ho' hg _
      obtain ⟨ao', cap', rfl⟩ := own_shape ho'
      refine h ao' cap' w' ?_ ((hw.mono hbase).grown hg (by omega) ?_)
      · unfold OwnE
        have e1 : flatL enc (xs ++ ys) = flatL enc xs ++ flatL enc ys := by simp [flatL]
        rw [e1, List.length_append]; exact ho'
      · intro q hq
        exact (World.ownsRow.lt hown' q hq).1
  rcases hsrc with h0 | ⟨ad, e1, hc⟩
  · have hy : ys = [] := List.eq_nil_of_length_eq_zero h0
    cases so with
    | some ad => exact key _ ad rfl hx (fun j v hv => by subst hy; simp [flatL] at hv)
    | none =>
      subst hy
      refine wpList_plain hgd fun K hK => ?_
      have hrun := run_append_none (P := P) (w := w) base t o.type e i0 k ht hi _ _ sc _ hown'
      unfold Oper.wp
      simp only [List.length_nil] at hx
      simp [execOp, ho, resolve, invoke, builtin, hs, hx, hrun, Result.andThen]
      exact hK _ _ (by simpa using h ao cap w (by simpa using hown') (hw.mono hbase))
  · exact key so ad e1 hx hc
omit [Inhabited α] in
/-- The one element of a literal. -/
theorem lit_cells {enc : α → List Value} {w : World} {x : α} {t : TypeId} {cs : Array Value} (h : cs.toList = enc x) : ([x] : List α).length = 0 ∨ ∃ ad, some (⟨w.heap.size, 0, none⟩ : Addr) = some ad ∧ ∀ (j : Nat) (v : Value), (flatL enc [x])[j]? = some v → (w.alloc (.cells cs t)).cell? (ad.add j) = some v := by
  refine Or.inr ⟨_, rfl, fun j v hv => ?_⟩
  rw [Addr.add_lit, Nat.zero_add, cell_of_row _ _ _ _ _ _ (heap_alloc_new w _)]
  simp only [flatL, List.flatMap_cons, List.flatMap_nil, List.append_nil] at hv
  rw [← h] at hv
  simpa using hv
end Go.Proofs.YtfllcohnfboccaaGreat

namespace Go.Proofs.YtfllcohnfboccaaGreat
open Go.RowKit Go.Sort

/-- A pin: author, height, digest. -/
abbrev PinD := Int × Int × ByteArray
def pinE (p : PinD) : List Value := [.int .i64 p.1, .int .i64 p.2.1, .string p.2.2]
theorem pinE_len (p : PinD) : (pinE p).length = 3 := rfl
theorem one_pinE : ∀ p, ∀ v ∈ pinE p, v.oneCell' = true := fun p v hv => by simp [pinE] at hv; rcases hv with rfl | rfl | rfl <;> rfl
/-- Elements that are held by value. -/
def valRep {α : Type} (enc : α → List Value) (k : Nat) (hk : ∀ x, (enc x).length = k) (h1 : ∀ x, ∀ v ∈ enc x, v.oneCell' = true) : Rep α where
  k := k
  R := fun _ _ cs x => cs = enc x
  len := fun h => by subst h; exact hk _
  one := fun h => by subst h; exact h1 _
  keep := fun h _ => h
  mono := fun h _ => h
def pinRep : Rep PinD := valRep pinE 3 pinE_len one_pinE

/-- A statement. -/
structure St where
  author : Int
  number : Int
  prev : ByteArray
  time : Int
  kind : Int
  a : Int
  b : Int
  c : Int
  list : List Int
  pins : List PinD
  body : ByteArray
  key : Int
  dig : ByteArray
instance : Inhabited St := ⟨⟨0, 0, ⟨#[]⟩, 0, 0, 0, 0, 0, [], [], ⟨#[]⟩, 0, ⟨#[]⟩⟩⟩
/-- Equal, field for field. -/
def sameS (s t : St) : Bool :=
  decide (s.author = t.author) && decide (s.number = t.number) && decide (s.prev = t.prev) && decide (s.time = t.time) && decide (s.kind = t.kind) && decide (s.a = t.a) && decide (s.b = t.b) && decide (s.c = t.c) &&
  decide (s.list = t.list) && decide (s.pins = t.pins) && decide (s.body = t.body) && (decide (s.key = t.key) && decide (s.dig = t.dig))
theorem sameS_iff {s t : St} : sameS s t = true ↔ s = t := by
  constructor
  · intro h
    simp only [sameS, Bool.and_eq_true, decide_eq_true_eq] at h
    obtain ⟨⟨⟨⟨⟨⟨⟨⟨⟨⟨⟨h1, h2⟩, h3⟩, h4⟩, h5⟩, h6⟩, h7⟩, h8⟩, h9⟩, h10⟩, h11⟩, h12, h13⟩ := h
    obtain ⟨_, _, _, _, _, _, _, _, _, _, _, _, _⟩ := s
    simp only at h1 h2 h3 h4 h5 h6 h7 h8 h9 h10 h11 h12 h13
    subst h1 h2 h3 h4 h5 h6 h7 h8 h9 h10 h11 h12 h13
    rfl
  · rintro rfl
    simp [sameS]
/-- A slice's header. -/
structure Sv where
  ao : Option Addr
  n : Nat
  c : Nat
instance : Inhabited Sv := ⟨⟨none, 0, 0⟩⟩
def Sv.v (x : Sv) : Value := .slice x.ao x.n x.c
/-- The cells of a statement whose lists lie at l and p. -/
def stE (x : St × Sv × Sv) : List Value :=
  [.int .i64 x.1.author, .int .i64 x.1.number, .string x.1.prev, .int .i64 x.1.time, .int .i64 x.1.kind, .int .i64 x.1.a, .int .i64 x.1.b, .int .i64 x.1.c, x.2.1.v, x.2.2.v, .string x.1.body, .int .i64 x.1.key, .string x.1.dig]
theorem stE_len (x : St × Sv × Sv) : (stE x).length = 13 := rfl
theorem one_stE : ∀ x, ∀ v ∈ stE x, v.oneCell' = true := fun x v hv => by
  simp only [stE, List.mem_cons, List.not_mem_nil, or_false] at hv
  rcases hv with rfl | rfl | rfl | rfl | rfl | rfl | rfl | rfl | rfl | rfl | rfl | rfl | rfl <;> rfl
/-- The lists of a statement lie where its headers say. -/
def Lies (P : Nat → Prop) (w : World) (x : St × Sv × Sv) : Prop := Sl intRep P w x.2.1.v x.1.list ∧ Sl pinRep P w x.2.2.v x.1.pins
theorem Lies.keep {P : Nat → Prop} {w w' : World} {x : St × Sv × Sv} (h : Lies P w x) (hx : ∀ b, P b → b < w.heap.size → w'.heap[b]? = w.heap[b]?) : Lies P w' x := ⟨h.1.keep (by decide) hx, h.2.keep (by decide) hx⟩
theorem Lies.mono {P P' : Nat → Prop} {w : World} {x : St × Sv × Sv} (h : Lies P w x) (hx : ∀ b, P b → b < w.heap.size → P' b) : Lies P' w x := ⟨h.1.mono (by decide) hx, h.2.mono (by decide) hx⟩
def stRep : Rep St where
  k := 13
  R := fun P w cs s => ∃ l p, cs = stE (s, l, p) ∧ Lies P w (s, l, p)
  len := fun ⟨l, p, h, _⟩ => by subst h; exact stE_len _
  one := fun ⟨l, p, h, _⟩ => by subst h; exact one_stE _
  keep := fun ⟨l, p, h, hs⟩ hx => ⟨l, p, h, hs.keep hx⟩
  mono := fun ⟨l, p, h, hs⟩ hx => ⟨l, p, h, hs.mono hx⟩
theorem sl_shape {α : Type} {r : Rep α} {P : Nat → Prop} {w : World} {v : Value} {xs : List α} (h : Sl r P w v xs) : ∃ x : Sv, v = x.v ∧ x.n = xs.length := by
  obtain ⟨ao, cap, e, _⟩ := h
  exact ⟨⟨ao, xs.length, cap⟩, e, rfl⟩
theorem sl_ints {P : Nat → Prop} {w : World} {v : Value} {xs : List Int} (h : Sl intRep P w v xs) : Ints w v xs := by
  obtain ⟨ao, cap, rfl, h⟩ := h
  refine ⟨ao, cap, rfl, fun j hj => ?_⟩
  obtain ⟨b, off, cs, e, hp, hr, hR⟩ := h 0 (by omega)
  refine ⟨b, off, e, fun i hi => ?_⟩
  obtain ⟨b', off', cs', e', hp', hr', hR'⟩ := h i hi
  rw [e] at e'; cases e'
  have := hr' 0 (.int .i64 xs[i]) (by rw [show cs' = _ from hR']; rfl)
  rw [show off + i = off + i * intRep.k + 0 by simp [intRep]]
  rw [this]; simp [List.getD, hi]
theorem ints_sl {P : Nat → Prop} {w : World} {v : Value} {xs : List Int} (h : Ints w v xs) (hP : ∀ ao n c, v = .slice ao n c → xs ≠ [] → ∀ a, ao = some a → P a.block) : Sl intRep P w v xs := by
  obtain ⟨ao, cap, rfl, h⟩ := h
  refine ⟨ao, cap, rfl, fun i hi => ?_⟩
  obtain ⟨b, off, e, hc⟩ := h i hi
  refine ⟨b, off, [.int .i64 xs[i]], e, hP _ _ _ rfl (by intro h0; subst h0; simp at hi) _ e, fun j v hv => ?_, rfl⟩
  match j, hv with
  | 0, hv =>
    simp at hv; subst hv
    have := hc i hi
    rw [show off + i * intRep.k + 0 = off + i by simp [intRep]]
    rw [this]; simp [List.getD, hi]
  | j + 1, hv => simp at hv
/-- The cells of a slice of elements that are held by value. -/
theorem val_cells {α : Type} {enc : α → List Value} {k : Nat} {hk : ∀ x, (enc x).length = k} {h1 : ∀ x, ∀ v ∈ enc x, v.oneCell' = true} (hk0 : 0 < k) {P : Nat → Prop} {w : World} {ao : Option Addr} {xs : List α} (h : SlAt (valRep enc k hk h1) P w ao xs) : xs.length = 0 ∨ ∃ ad, ao = some ad ∧ ∀ (j : Nat) (v : Value), (flatL enc xs)[j]? = some v → w.cell? (ad.add j) = some v := by
  rcases Nat.eq_zero_or_pos xs.length with h0 | h0
  · exact Or.inl h0
  · obtain ⟨b, off, _, e, _, _, _⟩ := h 0 h0
    refine Or.inr ⟨_, e, fun j v hv => ?_⟩
    have hl := flatL_len hk xs
    have hj := (List.getElem?_eq_some_iff.1 hv).1
    have hi : j / k < xs.length := Nat.div_lt_of_lt_mul (by rw [Nat.mul_comm]; omega)
    obtain ⟨b', off', cs, e', _, hr, hR⟩ := h (j / k) hi
    rw [e] at e'; cases e'
    have hm : j / k * k + j % k = j := Nat.div_add_mod' j k
    have hg := flatL_get hk xs (j / k) (j % k) hi (Nat.mod_lt _ hk0)
    rw [hm, hv] at hg
    have hcs : cs = enc xs[j / k] := hR
    have := hr (j % k) v (by rw [hcs]; exact hg.symm)
    rw [Addr.add_lit, ← hm, ← Nat.add_assoc]
    exact this
/-- A row that holds elements by value is a slice of them. -/
theorem val_sl {α : Type} [Inhabited α] {enc : α → List Value} {k : Nat} {hk : ∀ x, (enc x).length = k} {h1 : ∀ x, ∀ v ∈ enc x, v.oneCell' = true} {P : Nat → Prop} {w : World} {g : Nat} {xs : List α} (hP : P g) (h : HoldsK enc k w g 0 xs.toArray) : SlAt (valRep enc k hk h1) P w (some ⟨g, 0, none⟩) xs := fun i hi => by
  refine ⟨g, 0, enc xs[i], rfl, hP, ?_, rfl⟩
  have := holdsK_range hk h i (by simpa using hi)
  rwa [getElem!_pos xs.toArray i hi, List.getElem_toArray] at this
/-- A row that holds statements is a slice of them, if their lists lie somewhere. -/
theorem st_sl {P : Nat → Prop} {w : World} {g : Nat} {xs : List (St × Sv × Sv)} (hP : P g) (h : HoldsK stE 13 w g 0 xs.toArray) (hl : ∀ x ∈ xs, Lies P w x) : SlAt stRep P w (some ⟨g, 0, none⟩) (xs.map (·.1)) := fun i hi => by
  have hi' : i < xs.length := by simpa using hi
  refine ⟨g, 0, stE xs[i], rfl, hP, ?_, xs[i].2.1, xs[i].2.2, by simp, by simpa using hl _ (List.getElem_mem hi')⟩
  have := holdsK_range stE_len h i (by simpa using hi')
  rwa [getElem!_pos xs.toArray i hi', List.getElem_toArray] at this
end Go.Proofs.YtfllcohnfboccaaGreat

namespace Go.Proofs.YtfllcohnfboccaaGreat
open Go.RowKit Go.Sort

theorem same_take3 {xs ys : List Int} {k : Nat} (h : xs.take k = ys.take k) (h1 : k < xs.length) (h2 : k < ys.length) (he : xs.getD k 0 = ys.getD k 0) : xs.take (k + 1) = ys.take (k + 1) := by
  rw [take_snoc xs k h1, take_snoc ys k h2, h, he]
theorem same_takeG {α : Type} {xs ys : List α} {k : Nat} {x y : α} (h : xs.take k = ys.take k) (h1 : xs[k]? = some x) (h2 : ys[k]? = some y) (he : x = y) : xs.take (k + 1) = ys.take (k + 1) := by
  rw [List.take_add_one, List.take_add_one, h, h1, h2, he]

set_option maxHeartbeats 400000 in
theorem same03Ints_any (v1 v2 : Value) (xs ys : List Int) (w : World) (hv1 : Ints w v1 xs) (hv2 : Ints w v2 ys) (hm : xs.length ≤ 9223372036854775807) :
    Calls Tryz.prog 36 #[v1, v2] w fun e w' => e = .returned (.bool (decide (xs = ys))) ∧ Ex w.heap.size none w w' := by
  obtain ⟨ao, cap, rfl, hx⟩ := hv1
  obtain ⟨bo, cbp, rfl, hy⟩ := hv2
  by_cases hl : xs.length = ys.length
  · have hl1 : ((xs.length : Int) != ys.length) = false := by simp [hl]
    have HL := Lib.hid hl
    go_enter Tryz.func36, Tryz.ntmps36
    clear hl
    go_wp2
    clear hl1
    go_loopw [5] (fun i wr => ∃ k : Nat, k ≤ xs.length ∧ i = .int .i64 k ∧ xs.take k = ys.take k ∧ ∃ n, w.drewN n = wr) (fun i _ => xs.length - (intOf i).toNat)
    case atStart => exact ⟨0, Nat.zero_le _, rfl, by simp, 0, rfl⟩
    case round =>
      obtain ⟨k, hk, rfl, ht, n, rfl⟩ := hrel
      have HT := Lib.hid ht
      clear ht
      by_cases hlt : k < xs.length
      · have hlt2 : k < ys.length := by have := HL.out; omega
        obtain ⟨b, off, y, rfl, hck, HY⟩ := hx.get k hlt
        obtain ⟨b', off', z, rfl, hcz, HZ⟩ := hy.get k hlt2
        by_cases he : y = z
        · have hb : (y != z) = false := by simpa using he
          have HR := Lib.hid (same_take3 HT.out hlt hlt2 (by rw [HY.out, HZ.out, he]))
          clear he
          go_wp2
          go_quiet (fail)
          go_wp2
          go_roundw
          case rel => exact ⟨k + 1, by omega, by go_num, HR.out, _, rfl⟩
          case measure => simp [intOf]; omega
        · have hb : (y != z) = true := by simpa using he
          have HR : Hid (xs ≠ ys) := fun h => he (by rw [← HY.out, ← HZ.out, h])
          clear he
          go_wp2
          go_quiet (fail)
          go_wp2
          go_ret
          exact ⟨ret_bool (by simp [HR.out]), by repeat (first | exact Ex.refl _ _ _ | refine Ex.drewN ?_)⟩
      · have HR : Hid (xs = ys) := by
          have h := HT.out
          have := HL.out
          rwa [List.take_of_length_le (by omega), List.take_of_length_le (by omega)] at h
        go_wp2
        go_ret
        exact ⟨ret_bool (by simp [HR.out]), by repeat (first | exact Ex.refl _ _ _ | refine Ex.drewN ?_)⟩
  · have hl1 : ((xs.length : Int) != ys.length) = true := by simp; omega
    have HR : Hid (xs ≠ ys) := fun h => hl (by rw [h])
    clear hl
    go_enter Tryz.func36, Tryz.ntmps36
    go_wp2
    go_ret
    exact ⟨ret_bool (by simp [HR.out]), Ex.refl _ _ _⟩

theorem bytes_inj {a b : ByteArray} : a.toList = b.toList ↔ a = b := by
  constructor
  · intro h
    rw [ByteArray.toList_eq, ByteArray.toList_eq] at h
    obtain ⟨⟨x⟩⟩ := a
    obtain ⟨⟨y⟩⟩ := b
    simp at h; subst h; rfl
  · rintro rfl; rfl
theorem pins_neq (y z : PinD) : ∀ w, (binOp .neq 150 (.agg (pinE y).toArray) (.agg (pinE z).toArray)).run Tryz.prog w = .ok (.bool (!decide (y = z))) w := fun w => by
  obtain ⟨y1, y2, y3⟩ := y
  obtain ⟨z1, z2, z3⟩ := z
  simp [pinE, go_sem, bytes_inj]
  by_cases h1 : y1 = z1 <;> by_cases h2 : y2 = z2 <;> by_cases h3 : y3 = z3 <;> simp [h1, h2, h3]

end Go.Proofs.YtfllcohnfboccaaGreat

namespace Go.Proofs.YtfllcohnfboccaaGreat
open Go.RowKit Go.Sort

theorem seal_eql (k l : Int) (d e : ByteArray) : ∀ w, (binOp .eql 51 (.agg #[.int .i64 k, .string d]) (.agg #[.int .i64 l, .string e])).run Tryz.prog w = .ok (.bool (decide (k = l) && decide (d = e))) w := fun w => by
  simp [go_sem, bytes_inj]
  by_cases h1 : k = l <;> by_cases h2 : d = e <;> simp [h1, h2]
theorem bytes_beq {a b : ByteArray} (h : a = b) : (a == b) = true ∧ (a.toList == b.toList) = true := by
  subst h
  refine ⟨?_, by simp⟩
  rw [beq_toListBytes]; simp
theorem bytes_nbeq {a b : ByteArray} (h : ¬ a = b) : (a == b) = false ∧ (a.toList == b.toList) = false := by
  have h2 : (a.toList == b.toList) = false := by
    rw [Bool.eq_false_iff]; intro h'
    exact h (bytes_inj.1 (by simpa using h'))
  exact ⟨by rw [beq_toListBytes]; exact h2, h2⟩
theorem ex_two {w : World} (o1 o2 : Obj) : Ex w.heap.size none w ((w.alloc o1).alloc o2) := (Ex.new w o1).trans ((Ex.new _ o2).mono (by simp)) (Nat.le_refl _) (by simp)
end Go.Proofs.YtfllcohnfboccaaGreat

namespace Go.Proofs.YtfllcohnfboccaaGreat
open Go.RowKit Go.Sort

/-- A world in which no block of w has been turned. -/
structure ExW (w : World) where
  w' : World
  ex : Ex w.heap.size none w w'
instance (w : World) : Inhabited (ExW w) := ⟨⟨w, Ex.refl _ _ _⟩⟩
theorem wp_region_quiet_ex {P : Program} {id : Nat} {Q : Exit → Act → World → Prop} {a : Act} {w : World} {l : List Oper} (hm : P.follows .mixedOrders = true) (hB : Region.lexB .any l.toArray = true)
    (h : wpQuiet P l.toArray (fun v => ∃ p : ExW w, v = p.w') (fun a' => ∀ v, (∃ p : ExW w, v = p.w') → Q .normal a' v) l a) : (Code.region id l.toArray true).wp P Q a w :=
  wp_region_quiet (C := fun v => ∃ p : ExW w, v = p.w') hm hB ⟨⟨w.drew, (Ex.refl _ _ _).drew⟩, rfl⟩ (by simpa using h)
theorem calls_ex_of {P : Program} {f : FuncId} {args : Array Value} {w : World} {p : ExW w} {v : Value} (h : Calls P f args p.w' fun e w' => e = .returned v ∧ Ex p.w'.heap.size none p.w' w') : Calls P f args p.w' fun e w'' => e = .returned v ∧ ∃ q : ExW w, w'' = q.w' :=
  h.mono fun _ _ ⟨he, hx⟩ => ⟨he, ⟨_, p.ex.trans hx p.ex.size (by simp)⟩, rfl⟩
theorem ExW.lies {P : Nat → Prop} {w : World} (p : ExW w) {x : St × Sv × Sv} (h : Lies P w x) : Lies P p.w' x := h.keep fun b _ hb => p.ex.block b hb (by simp)
/-- The cells of a statement, one by one. -/
theorem st_at {w : World} {b o : Nat} {x : St × Sv × Sv} (h : w.rangeAt b o (stE x)) :
    w.cell? ⟨b, o, none⟩ = some (.int .i64 x.1.author) ∧ w.cell? ⟨b, o + 1, none⟩ = some (.int .i64 x.1.number) ∧ w.cell? ⟨b, o + 2, none⟩ = some (.string x.1.prev) ∧ w.cell? ⟨b, o + 3, none⟩ = some (.int .i64 x.1.time) ∧
    w.cell? ⟨b, o + 4, none⟩ = some (.int .i64 x.1.kind) ∧ w.cell? ⟨b, o + 5, none⟩ = some (.int .i64 x.1.a) ∧ w.cell? ⟨b, o + 6, none⟩ = some (.int .i64 x.1.b) ∧ w.cell? ⟨b, o + 7, none⟩ = some (.int .i64 x.1.c) ∧
    w.cell? ⟨b, o + 8, none⟩ = some x.2.1.v ∧ w.cell? ⟨b, o + 9, none⟩ = some x.2.2.v ∧ w.cell? ⟨b, o + 10, none⟩ = some (.string x.1.body) ∧ w.cell? ⟨b, o + 11, none⟩ = some (.int .i64 x.1.key) ∧ w.cell? ⟨b, o + 12, none⟩ = some (.string x.1.dig) :=
  ⟨h 0 _ rfl, h 1 _ rfl, h 2 _ rfl, h 3 _ rfl, h 4 _ rfl, h 5 _ rfl, h 6 _ rfl, h 7 _ rfl, h 8 _ rfl, h 9 _ rfl, h 10 _ rfl, h 11 _ rfl, h 12 _ rfl⟩
theorem ExW.st_at {w : World} {b o : Nat} {x : St × Sv × Sv} (h : w.rangeAt b o (stE x)) (p : ExW w) :
    p.w'.cell? ⟨b, o, none⟩ = some (.int .i64 x.1.author) ∧ p.w'.cell? ⟨b, o + 1, none⟩ = some (.int .i64 x.1.number) ∧ p.w'.cell? ⟨b, o + 2, none⟩ = some (.string x.1.prev) ∧ p.w'.cell? ⟨b, o + 3, none⟩ = some (.int .i64 x.1.time) ∧
    p.w'.cell? ⟨b, o + 4, none⟩ = some (.int .i64 x.1.kind) ∧ p.w'.cell? ⟨b, o + 5, none⟩ = some (.int .i64 x.1.a) ∧ p.w'.cell? ⟨b, o + 6, none⟩ = some (.int .i64 x.1.b) ∧ p.w'.cell? ⟨b, o + 7, none⟩ = some (.int .i64 x.1.c) ∧
    p.w'.cell? ⟨b, o + 8, none⟩ = some x.2.1.v ∧ p.w'.cell? ⟨b, o + 9, none⟩ = some x.2.2.v ∧ p.w'.cell? ⟨b, o + 10, none⟩ = some (.string x.1.body) ∧ p.w'.cell? ⟨b, o + 11, none⟩ = some (.int .i64 x.1.key) ∧ p.w'.cell? ⟨b, o + 12, none⟩ = some (.string x.1.dig) :=
  Go.Proofs.YtfllcohnfboccaaGreat.st_at (rangeAt_keep h (p.ex.block b (rangeAt_lt h (by rw [stE_len]; omega)) (by simp)))
end Go.Proofs.YtfllcohnfboccaaGreat

namespace Go.Proofs.YtfllcohnfboccaaGreat
open Go.RowKit Go.Sort

theorem Tryz.infoPin : (Tryz.prog.info? 150).map (fun i => (i.zero, i.size, i.bytes)) = some (some (.agg #[.int .i64 0, .int .i64 0, .string ⟨#[]⟩]), 3, 32) := by kernel_rfl
theorem ex_two0 {w : World} (o1 o2 : Obj) : Ex w.heap.size none w ((w.alloc o1).alloc o2) := (Ex.new w o1).trans ((Ex.new _ o2).mono (by simp)) (Nat.le_refl _) (by simp)
theorem ex_two_trans {w w' : World} {o1 o2 : Obj} (h : Ex ((w.alloc o1).alloc o2).heap.size none ((w.alloc o1).alloc o2) w') : Ex w.heap.size none w w' := (ex_two0 o1 o2).trans (h.mono (by simp <;> omega)) (Nat.le_refl _) (by simp)
theorem set_far {w : World} {b q o : Nat} {v : Value} {x : Option Obj} (h : b ≠ q) (e : w.heap[b]? = x) : (w.setCell ⟨q, o, none⟩ v).heap[b]? = x := (Below.heap_setCell _ _ _ _ (show b ≠ q from h)).trans e
theorem bcell {W w1 : World} (hb : Below W.heap.size W w1) : (∀ b o, b < W.heap.size → w1.cell? ⟨b, o, none⟩ = W.cell? ⟨b, o, none⟩) ∧ (∀ b o, b < W.heap.size → w1.frozen? ⟨b, o, none⟩ = W.frozen? ⟨b, o, none⟩) :=
  ⟨fun b o h => hb.cell (p := ⟨b, o, none⟩) h, fun b o h => hb.frozen (p := ⟨b, o, none⟩) h⟩
theorem own_ints_sl {w : World} {base : Nat} {ao : Option Addr} {cap : Nat} {xs : List Int} (h : OwnI w base ao cap xs) : Sl intRep (fun b => base ≤ b) w (.slice ao xs.length cap) xs :=
  ints_sl h.v (fun ao' n c e _ a ha => by cases e; exact (h.lt a ha).1)
theorem own_val_sl {α : Type} [Inhabited α] {enc : α → List Value} {k : Nat} {hk : ∀ x, (enc x).length = k} {h1 : ∀ x, ∀ v ∈ enc x, v.oneCell' = true} {w : World} {base : Nat} {e : TypeId} {ao : Option Addr} {cap : Nat} {xs : List α} (h : OwnE enc k e w base ao cap xs) : Sl (valRep enc k hk h1) (fun b => base ≤ b) w (.slice ao xs.length cap) xs := by
  refine ⟨ao, cap, rfl, ?_⟩
  rcases h.cases with ⟨_, _, h0⟩ | ⟨g, rfl, h2, _, _⟩
  · subst h0; exact SlAt.nil _ _ _
  · exact val_sl h2 (h.holds hk)

set_option maxHeartbeats 2000000 in
set_option maxRecDepth 100000 in
theorem copy03_any {P : Nat → Prop} (s : St) (lo po : Option Addr) (ln lc pn pc : Nat) (w : World) (hx1 : Sl intRep P w (.slice lo ln lc) s.list) (hx2 : Sl pinRep P w (.slice po pn pc) s.pins) (hm : s.list.length ≤ 1000000) (hm2 : s.pins.length ≤ 1000000) :
    Calls Tryz.prog 114 #[.agg #[.int .i64 s.author, .int .i64 s.number, .string s.prev, .int .i64 s.time, .int .i64 s.kind, .int .i64 s.a, .int .i64 s.b, .int .i64 s.c, .slice lo ln lc, .slice po pn pc, .string s.body, .int .i64 s.key, .string s.dig]] w fun e w' =>
      ∃ l p : Sv, e = .returned (.agg (stE (s, l, p)).toArray) ∧ Lies (fun b => w.heap.size ≤ b) w' (s, l, p) ∧ Ex w.heap.size none w w' := by
  have HX1 := Lib.hid hx1
  have HX2 := Lib.hid hx2
  obtain ⟨x0, c0, e0, r0⟩ := hx1
  obtain ⟨x1, c1, e1, r1⟩ := hx2
  clear r0 r1
  simp only [Value.slice.injEq] at e0 e1
  obtain ⟨rfl, rfl, rfl⟩ := e0
  obtain ⟨rfl, rfl, rfl⟩ := e1
  go_enter Tryz.func114, Tryz.ntmps114
  go_wp2_with (first
    | (at_builtin; refine wpList_appIs rfl (.const (.slice none 0 0)) (.tmp 4) _ rfl Tryz.underlying22 Tryz.infoInt _ none 0 [] s.list (.slice none 0 0) _ 0 rfl rfl (by rfl) (by rfl) (sl_ints (HX1.out.keep (by decide) (fun b _ hb => (ex_two0 _ _).block b hb (by simp)))) (OwnI.nil _ _) (Ex.refl _ _ _) (by simp; omega) (Nat.le_refl _) ?_; intro la lcap w1 hown1 hex1; obtain ⟨hc1, hf1⟩ := bcell hex1.below; have hz1 := hex1.size; simp at hz1; have hy1 : w.heap.size < w1.heap.size := (by omega); have hx1 : w.heap.size + 1 < w1.heap.size := (by omega); have HE1 : Hid (Ex w.heap.size none w w1) := ex_two_trans hex1; have HO1 := Lib.hid hown1; clear hown1 hex1)
    | (at_builtin
       have _tt := HE1
       refine wpList_appE rfl (.const (.slice none 0 0)) (.tmp 8) _ 150 rfl Tryz.underlying44 (.agg #[.int .i64 0, .int .i64 0, .string ⟨#[]⟩]) 3 32 Tryz.infoPin rfl (by decide) (by decide) pinE pinE_len one_pinE _ none 0 [] s.pins (.slice none 0 0) _ 0 rfl rfl (by rfl) po s.pins.length pc (by rfl) rfl rfl (val_cells (hk := pinE_len) (h1 := one_pinE) (by decide) (HX2.out.keep (by decide) (fun b _ hb => (HE1.out.setCell 8 none _ (Or.inr (Nat.le_refl _))).block b hb (by simp))).at') (OwnE.nil _ _ _ _ _) (Ex.refl _ _ _) (by simp; omega) (Nat.le_refl _) ?_
       intro pa pcap w2 hown2 hex2
       obtain ⟨hc2, hf2⟩ := bcell hex2.below
       have hz2 := hex2.size
       simp at hz2
       have hy2 : w.heap.size < w2.heap.size := (by omega)
       have hx2 : w.heap.size + 1 < w2.heap.size := (by omega)
       have HE2 : Hid (Ex w.heap.size none w w2) := ((HE1.out.setCell (q := w.heap.size) 8 none (.slice la s.list.length lcap) (Or.inr (Nat.le_refl _))).trans (hex2.mono (by simp <;> omega)) (Nat.le_refl _) (by simp))
       have HO2 := Lib.hid hown2
       have HX12 := Lib.hid hex2
       clear hown2 hex2
       have q8 : w2.cell? ⟨w.heap.size, 8, none⟩ = some (.slice la s.list.length lcap) := (hc2 w.heap.size 8 (by simpa using hy1)).trans (World.cell?_setCell_same _ _ _ (show w1.cell? ⟨w.heap.size, 8, none⟩ = some (.slice lo s.list.length lc) from (hc1 w.heap.size 8 (by simp <;> omega)).trans (by go_simp)))
       have qs := fun (o : Nat) (h : o ≠ 8) => ((hc2 w.heap.size o (by simpa using hy1)).trans (World.cell?_setCell_other _ _ _ _ (by simp <;> omega))).trans (hc1 w.heap.size o (by simp <;> omega))
       have qr := fun (o : Nat) => ((hc2 (w.heap.size + 1) o (by simpa using hx1)).trans (World.cell?_setCell_other _ _ _ _ (by simp))).trans (hc1 (w.heap.size + 1) o (by simp <;> omega))
       clear hc1 hc2))
  refine bodyPost_ret (v := .agg #[.int .i64 s.author, .int .i64 s.number, .string s.prev, .int .i64 s.time, .int .i64 s.kind, .int .i64 s.a, .int .i64 s.b, .int .i64 s.c, .slice la s.list.length lcap, .slice pa s.pins.length pcap, .string s.body, .int .i64 s.key, .string s.dig]) (by simp [results, Tryz.results114, go_sem, qr]) rfl ?_
  have hO1 : OwnI w2 (w.heap.size + 2) la lcap s.list := by
    have h1 := HO1.out
    have h2 : Ex w1.heap.size (some w.heap.size) w1 w2 := ((Ex.refl w1.heap.size (some w.heap.size) w1).setCell (q := w.heap.size) 8 none (.slice la s.list.length lcap) (Or.inl rfl)).trans HX12.out (by simp) (by simp)
    have h3 := h1.keep h2 (Nat.le_refl _) (fun q e => by cases e; simp <;> omega)
    simpa using h3
  have hO2 : OwnE pinE 3 150 w2 (w.heap.size + 2) pa pcap s.pins := by
    have h1 := HO2.out
    refine ⟨by simpa using h1.1, ?_⟩
    rcases h1.2 with h | ⟨g, cap, cur, h3, h4, h5⟩
    · exact Or.inl (by simpa using h)
    · exact Or.inr ⟨g, cap, cur, by simpa using h3, by simp at h4; omega, by simpa using h5⟩
  refine ⟨⟨la, s.list.length, lcap⟩, ⟨pa, s.pins.length, pcap⟩, rfl, ?_, ?_⟩
  · refine Lies.mono (P := fun b => w.heap.size + 2 ≤ b) (Lies.keep (w := w2) ⟨own_ints_sl hO1, own_val_sl hO2⟩ fun b hb _ => ?_) (fun b hb _ => by omega)
    iterate 14 refine set_far (by omega) ?_
    rfl
  · iterate 14 refine Ex.setCell ?_ _ none _ (Or.inr (by omega))
    exact HE2.out
end Go.Proofs.YtfllcohnfboccaaGreat

namespace Go.Proofs.YtfllcohnfboccaaGreat
open Go.RowKit Go.Sort Go.Lib

theorem strict_ext : ∀ xs ys : List Int, xs.Pairwise (· < ·) → ys.Pairwise (· < ·) → (∀ x, x ∈ xs ↔ x ∈ ys) → xs = ys
  | [], [], _, _, _ => rfl
  | [], y :: r, _, _, h => by have := (h y).2 (by simp); simp at this
  | x :: r, [], _, _, h => by have := (h x).1 (by simp); simp at this
  | x :: r, y :: s, h1, h2, h => by
    rw [List.pairwise_cons] at h1 h2
    have e : x = y := by
      have a := (h x).1 (by simp)
      have b := (h y).2 (by simp)
      simp only [List.mem_cons] at a b
      rcases a with a | a
      · exact a
      · rcases b with b | b
        · exact b.symm
        · have := h1.1 y b; have := h2.1 x a; omega
    subst e
    congr 1
    refine strict_ext r s h1.2 h2.2 fun z => ?_
    constructor
    · intro hz
      have := (h z).1 (by simp [hz])
      simp only [List.mem_cons] at this
      rcases this with e | e
      · have := h1.1 z hz; omega
      · exact e
    · intro hz
      have := (h z).2 (by simp [hz])
      simp only [List.mem_cons] at this
      rcases this with e | e
      · have := h2.1 z hz; omega
      · exact e
theorem strict_snoc {xs : List Int} {y : Int} (h : xs.Pairwise (· < ·)) (hy : ∀ x ∈ xs, x < y) : (xs ++ [y]).Pairwise (· < ·) := by
  rw [List.pairwise_append]
  exact ⟨h, by simp, fun a ha b hb => by simp at hb; subst hb; exact hy a ha⟩
theorem keysTo_strict (c : Int → Bool) (n : Nat) : (keysTo c n).Pairwise (· < ·) := by
  induction n with
  | zero => simp [keysTo]
  | succ n ih =>
    rw [keysTo]
    split
    · exact strict_snoc ih fun x hx => (mem_keysTo.1 hx).2.1
    · simpa using ih
theorem comp_strict (d : Array Int) (hs : ∀ i j, i ≤ j → j < d.size → d[i]! ≤ d[j]!) : ∀ m, m ≤ d.size → (compactUpTo d m).Pairwise (· < ·) ∧ (∀ x, x ∈ compactUpTo d m ↔ ∃ i, i < m ∧ d[i]! = x)
  | 0, _ => ⟨by simp [compactUpTo], fun x => by simp [compactUpTo]⟩
  | m + 1, hm => by
    obtain ⟨h1, h2⟩ := comp_strict d hs m (by omega)
    rw [compactUpTo_succ]
    cases e : keeps d m with
    | true =>
      rw [if_pos rfl]
      refine ⟨strict_snoc h1 fun x hx => ?_, fun x => ?_⟩
      · obtain ⟨i, hi, rfl⟩ := (h2 x).1 hx
        have a := hs i (m - 1) (by omega) (by omega)
        have b := hs (m - 1) m (by omega) (by omega)
        have c : d[m]! ≠ d[m - 1]! := by
          unfold keeps at e
          have : ¬ m = 0 := by omega
          simpa [this] using e
        omega
      · rw [List.mem_append, h2]
        constructor
        · rintro (⟨i, hi, h⟩ | h)
          · exact ⟨i, by omega, h⟩
          · simp at h; exact ⟨m, by omega, h.symm⟩
        · rintro ⟨i, hi, h⟩
          by_cases c : i = m
          · subst c; right; simp [h]
          · exact Or.inl ⟨i, by omega, h⟩
    | false =>
      rw [if_neg (by simp), List.append_nil]
      refine ⟨h1, fun x => ?_⟩
      rw [h2]
      have h0 : m ≠ 0 := by intro h0; subst h0; simp [keeps] at e
      have c : d[m]! = d[m - 1]! := by
        unfold keeps at e
        simpa [h0] using e
      constructor
      · rintro ⟨i, hi, h⟩; exact ⟨i, by omega, h⟩
      · rintro ⟨i, hi, h⟩
        by_cases c' : i = m
        · subst c'; exact ⟨i - 1, by omega, by rw [← c]; exact h⟩
        · exact ⟨i, by omega, h⟩

/-- The numbers of a list, each once, ascending. -/
def uniq (l : List Int) : List Int := Lib.compact (l.mergeSort fun x y => decide (x ≤ y))
theorem compact_spec (s : List Int) (hp : s.Pairwise (fun x y => decide (x ≤ y) = true)) : (Lib.compact s).Pairwise (· < ·) ∧ ∀ x, x ∈ Lib.compact s ↔ x ∈ s := by
  have hs : ∀ i j, i ≤ j → j < s.toArray.size → s.toArray[i]! ≤ s.toArray[j]! := fun i j hij hj => by
    have hj' : j < s.length := by simpa using hj
    rw [getElem!_pos s.toArray i (by simp; omega), getElem!_pos s.toArray j hj]
    simp only [List.getElem_toArray]
    by_cases c : i = j
    · subst c; exact Int.le_refl _
    · have := List.pairwise_iff_getElem.1 hp i j (by omega) hj' (by omega)
      simpa using this
  obtain ⟨h1, h2⟩ := comp_strict s.toArray hs s.length (by simp)
  refine ⟨h1, fun x => (h2 x).trans ?_⟩
  rw [List.mem_iff_getElem]
  constructor
  · rintro ⟨i, hi, h⟩
    refine ⟨i, hi, ?_⟩
    rw [getElem!_pos s.toArray i (by simpa using hi)] at h
    simpa using h
  · rintro ⟨i, hi, h⟩
    refine ⟨i, hi, ?_⟩
    rw [getElem!_pos s.toArray i (by simpa using hi)]
    simpa using h
theorem uniq_spec (l : List Int) : (uniq l).Pairwise (· < ·) ∧ ∀ x, x ∈ uniq l ↔ x ∈ l := by
  have hp : (l.mergeSort fun x y => decide (x ≤ y)).Pairwise (fun x y => decide (x ≤ y) = true) := List.pairwise_mergeSort (fun a b c h1 h2 => by simp at *; omega) (fun a b => by simp; omega) l
  obtain ⟨h1, h2⟩ := compact_spec _ hp
  exact ⟨h1, fun x => (h2 x).trans List.mem_mergeSort⟩
/-- Of keys the numbers, each once, ascending, are what the reference's Join makes of them. -/
theorem uniq_keys (l : List Int) (h : ∀ x ∈ l, 0 ≤ x ∧ x < 64) : uniq l = joinI l [] := by
  obtain ⟨h1, h2⟩ := uniq_spec l
  refine strict_ext _ _ h1 (keysTo_strict _ _) fun x => ?_
  unfold joinI
  rw [h2, mem_keysTo]
  simp only [hasI_nil, Bool.or_false, hasI_iff]
  exact ⟨fun hx => ⟨(h x hx).1, (h x hx).2, hx⟩, fun hx => hx.2.2⟩

theorem ex_putRow {α : Type} [Inhabited α] (enc : α → Value) (w : World) (g off n : Nat) (d : Array α) (os : Array Obj) : Ex w.heap.size (some g) w (grow (putRow enc (Go.Sort.ahead w n) g off d) os) := by
  refine ⟨rfl, rfl, rfl, ?_, fun i hi hne => ?_⟩
  · rw [size_grow]
    unfold putRow mapBlock Go.Sort.ahead
    simp
  · rw [heap_grow_old _ _ (by unfold putRow mapBlock Go.Sort.ahead; simpa using hi)]
    unfold putRow mapBlock Go.Sort.ahead
    simp only [Array.getElem?_modify]
    rw [if_neg (by intro e; exact hne (by rw [e]))]
theorem holds_ints {w : World} {g off : Nat} {xs : List Int} (h : Holds (Value.int .i64) w g off xs.toArray) : IntsAt w (some ⟨g, off, none⟩) xs := by
  intro j hj
  refine ⟨g, off, rfl, fun i hi => ?_⟩
  rw [(h i (by simpa using hi)).1, getElem!_pos xs.toArray i (by simpa using hi)]
  simp [List.getD, hi]
theorem own_holds {w : World} {base g o cap n : Nat} {xs : List Int} (h : w.ownsRow base 3 1 (.slice (some ⟨g, o, none⟩) n cap) n (xs.map (Value.int .i64))) : Holds (Value.int .i64) w g 0 xs.toArray := by
  obtain ⟨_, _, _, _, h1, h2⟩ := own_there h
  intro j hj
  have hj' : j < xs.length := by simpa using hj
  rw [Nat.zero_add]
  refine ⟨h1 j _ ?_, h2 j⟩
  rw [getElem!_pos xs.toArray j hj]
  simp [hj']

set_option maxHeartbeats 400000 in
/-- slices.Sort of an owned slice of ints. -/
theorem sortInts_any (ro : Option Addr) (rc n base : Nat) (xs : List Int) (w : World) (hown : OwnI w base ro rc xs) (hn : xs.length = n) (hm : xs.length ≤ 1000000000000) :
    Calls Tryz.prog 62 #[.slice ro n rc] w fun e w' => e = .returned (.tuple #[]) ∧ Ex base none w w' ∧
      (xs = [] ∨ ∃ g, ro = some ⟨g, 0, none⟩ ∧ base ≤ g ∧ g < w'.heap.size ∧ xs.length ≤ rc ∧ Holds (Value.int .i64) w' g 0 (xs.mergeSort fun x y => decide (x ≤ y)).toArray) := by
  subst hn
  rcases hown.2 with ⟨h1, h2⟩ | ⟨g, cap, cur, hv, hg, hh, _⟩
  · have hx : xs = [] := List.eq_nil_of_length_eq_zero h2
    subst hx
    refine (Tryz.slices_Sort_int_none ro rc w).mono ?_
    rintro e w' ⟨rfl, rfl⟩
    exact ⟨rfl, Ex.refl _ _ _, Or.inl rfl⟩
  · cases hv
    have hc := hown.cap
    have hb := (Array.getElem?_eq_some_iff.1 hh).1
    have hH := own_holds hown
    refine (Tryz.slices_Sort_int g 0 rc xs w hH hb (by omega)).mono ?_
    rintro e w' ⟨rfl, k, os, rfl⟩
    have hex := ex_putRow (Value.int .i64) w g 0 k (xs.mergeSort fun x y => decide (x ≤ y)).toArray os
    refine ⟨rfl, ((hex.mono (show base ≤ w.heap.size by omega)).above hg), Or.inr ⟨g, rfl, hg, Nat.lt_of_lt_of_le hb hex.size, hc, ?_⟩⟩
    exact holds_grow (Value.int .i64) _ os g 0 _ (by unfold putRow mapBlock Go.Sort.ahead; simpa using hb) (holds_putRow (Value.int .i64) _ g 0 xs.toArray _ (holds_ahead (Value.int .i64) w k g 0 _ hH) (by simp))

set_option maxHeartbeats 400000 in
/-- slices.Compact behind it. -/
theorem compactInts_any (ro : Option Addr) (rc n base : Nat) (xs : List Int) (w : World) (hn : xs.length = n) (hm : xs.length ≤ 1000000000000)
    (h : xs = [] ∨ ∃ g, ro = some ⟨g, 0, none⟩ ∧ base ≤ g ∧ g < w.heap.size ∧ xs.length ≤ rc ∧ Holds (Value.int .i64) w g 0 (xs.mergeSort fun x y => decide (x ≤ y)).toArray) (hb : base ≤ w.heap.size) :
    Calls Tryz.prog 63 #[.slice ro n rc] w fun e w' => e = .returned (.slice ro (uniq xs).length rc) ∧ Ex base none w w' ∧ IntsAt w' ro (uniq xs) := by
  subst hn
  rcases h with rfl | ⟨g, rfl, hg, hlt, hc, hH⟩
  · refine (Tryz.slices_Compact_int_empty ro rc w).mono ?_
    rintro e w' ⟨rfl, rfl⟩
    have : uniq [] = [] := by simp [uniq, Lib.compact, Lib.compactUpTo]
    exact ⟨by rw [this]; rfl, Ex.refl _ _ _, by rw [this]; exact IntsAt.nil _ _⟩
  · have hl : (xs.mergeSort fun x y => decide (x ≤ y)).length = xs.length := by simp
    have h := Tryz.slices_Compact_int g 0 rc (xs.mergeSort fun x y => decide (x ≤ y)) w hH (by omega) (by omega)
    rw [hl] at h
    refine h.mono ?_
    rintro e w' ⟨rfl, q, rfl⟩
    have hex := ex_putRow (Value.int .i64) w g 0 q (Lib.compact (xs.mergeSort fun x y => decide (x ≤ y)) ++ List.replicate (xs.length - (Lib.compact (xs.mergeSort fun x y => decide (x ≤ y))).length) 0).toArray #[]
    rw [grow_empty] at hex
    have hle : (Lib.compact (xs.mergeSort fun x y => decide (x ≤ y))).length ≤ xs.length := by
      rw [← hl]
      unfold Lib.compact Lib.compactUpTo
      simp only [List.length_map]
      exact Nat.le_trans (List.length_filter_le _ _) (by simp)
    refine ⟨rfl, (hex.mono hb).above hg, ?_⟩
    have hH2 := holds_putRow (Value.int .i64) (Go.Sort.ahead w q) g 0 (xs.mergeSort fun x y => decide (x ≤ y)).toArray (Lib.compact (xs.mergeSort fun x y => decide (x ≤ y)) ++ List.replicate (xs.length - (Lib.compact (xs.mergeSort fun x y => decide (x ≤ y))).length) 0).toArray (holds_ahead (Value.int .i64) w q g 0 _ hH) (by simp; omega)
    have := (holds_ints hH2).take (uniq xs).length
    have e : (Lib.compact (xs.mergeSort fun x y => decide (x ≤ y)) ++ List.replicate (xs.length - (Lib.compact (xs.mergeSort fun x y => decide (x ≤ y))).length) (0 : Int)).take (uniq xs).length = uniq xs := by
      unfold uniq
      rw [List.take_left]
    rwa [e] at this
end Go.Proofs.YtfllcohnfboccaaGreat

namespace Go.Proofs.YtfllcohnfboccaaGreat
open Go.RowKit Go.Shelf Go.Sort

attribute [local go_sem] Oper.semAt_some

theorem take_getD (zs : List Int) {k : Nat} {y : Int} (hk : k < zs.length) (h : zs.getD k 0 = y) : zs.take (k + 1) = zs.take k ++ [y] := by
  rw [List.take_add_one, ← h]
  simp [List.getD, hk]
set_option maxRecDepth 100000 in
set_option maxHeartbeats 4000000 in
/-- slices.Values's closure at ints, for every loop body that keeps what lay below n₀. -/
theorem values1_in (F : Fence) (n : Nat) (h7 : F.fn 161) (hro : F.round = none) (hn : 1 ≤ n) (l Bs n₀ : Nat) (ao : Option Addr) (len cap : Nat) (zs : List Int) (hz : zs.length = len) (J Jx : List Int → World → Prop)
    (hY : ∀ pre x W, J pre W → pre.length < len → YieldAt F (n - 1) Tryz.prog l #[.int .i64 x] W fun e W' =>
      (e = .returned (.bool true) ∧ J (pre ++ [x]) W' ∧ Below n₀ W W') ∨ (e = .returned (.bool false) ∧ Jx (pre ++ [x]) W'))
    (W : World) (hm : len ≤ 100000000) (hBs : W.cell? ⟨Bs, 0, none⟩ = some (.slice ao len cap)) (hc : Hid (∀ W', Below n₀ W W' → IntsAt W' ao zs)) (h0 : J [] W) :
    CallsIn F n Tryz.prog 161 #[.func (.yield l) #[] #[], .pointer (some ⟨Bs, 0, none⟩)] W fun e W' => (∃ v, e = .returned v) ∧
      ((∃ ys, ys = zs ∧ J ys W') ∨ (∃ pre, pre <+: zs ∧ Jx pre W')) := by
  have HZ := Lib.hid hz
  have HYD := Lib.hid hY
  clear hz hY
  refine callsIn_of_wp Tryz.func161 rfl h7 ?_ hro
  simp only [Tryz.ntmps161, List.size_toArray, List.length_cons, List.length_nil, Nat.reduceAdd, Nat.reduceSub, Array.replicate_succ, Array.replicate_zero, List.push_toArray, List.append_toArray, List.nil_append, List.cons_append]
  gi_wp2
  gi_loopw [7] (fun i wr => ∃ k : Nat, k ≤ len ∧ i = .int .i64 k ∧ J (zs.take k) wr ∧ Below n₀ W wr)
    (fun i _ => len - (intOf i).toNat)
  case atStart => exact ⟨0, Nat.zero_le _, rfl, h0, Below.refl _ _⟩
  case round =>
    obtain ⟨k, hk, rfl, hJs, hnx⟩ := hrel
    by_cases hlt : k < len
    · obtain ⟨b, off, y, rfl, hcy, HYK⟩ := (hc.out wr hnx).get k (by rw [HZ.out]; exact hlt)
      obtain ⟨fn, tmps, assign, body, hy, hR⟩ := HYD.out _ y wr hJs (by rw [List.length_take, HZ.out]; omega)
      gi_wp2
      refine hR.mono ?_
      rintro e W3 (⟨rfl, hJ3, hk3⟩ | ⟨rfl, hJx3⟩)
      · gi_wp2
        go_roundw
        case rel => exact ⟨k + 1, by omega, by go_num, by rw [take_getD zs (by rw [HZ.out]; exact hlt) HYK.out]; exact hJ3, hnx.trans hk3⟩
        case measure => simp [intOf] <;> omega
      · gi_wp2
        refine bodyPost_ret (results_none rfl _ _ _) rfl ?_
        exact ⟨⟨_, rfl⟩, .inr ⟨_, by rw [← take_getD zs (by rw [HZ.out]; exact hlt) HYK.out]; exact List.take_prefix _ _, hJx3⟩⟩
    · obtain rfl : k = len := by omega
      gi_wp2
      go_end0
      exact ⟨⟨_, rfl⟩, .inl ⟨zs, rfl, by rw [← HZ.out, List.take_length] at hJs; exact hJs⟩⟩

set_option maxHeartbeats 1000000 in
/-- slices.Values(s): the slice value is boxed; the function value captures the box. -/
theorem values_in (F : Fence) (n : Nat) (h5 : F.fn 121) (hro : F.round = none) (a : Option Addr) (len cap : Nat) (w : World) :
    CallsIn F n Tryz.prog 121 #[.slice a len cap] w fun e w' => e = .returned (.func (.func 161) #[] #[.pointer (some ⟨w.heap.size, 0, none⟩)]) ∧ w' = w.alloc (.cells #[.slice a len cap] 22) := by
  refine callsIn_of_wp Tryz.func121 rfl h5 ?_ hro
  simp only [Tryz.ntmps121, List.size_toArray, List.length_cons, List.length_nil, Nat.reduceAdd, Nat.reduceSub, Array.replicate_succ, Array.replicate_zero, List.push_toArray, List.append_toArray, List.nil_append, List.cons_append]
  gi_wp2
  go_ret
  exact ⟨rfl, rfl⟩

/-- What slices.Values(s) hands back, as an iterator over zs. -/
theorem values_stops (F : Fence) (n : Nat) (h7 : F.fn 161) (hro : F.round = none) (hn : 1 ≤ n) (Bs n₀ : Nat) (ao : Option Addr) (len cap : Nat) (zs : List Int) (hz : zs.length = len) (hm : len ≤ 100000000) (w : World) (hBs : Bs < w.heap.size) (hn₀ : n₀ ≤ w.heap.size)
    (hc : w.cell? ⟨Bs, 0, none⟩ = some (.slice ao len cap)) (hI : ∀ W', Below n₀ w W' → IntsAt W' ao zs) :
    SeqStopsK F n Tryz.prog 161 #[.pointer (some ⟨Bs, 0, none⟩)] (fun x : Int => #[Value.int .i64 x]) (Below n₀) (fun ys => ys = zs) (fun pre => pre <+: zs) len w := fun l J Jx W hW _ _ hY h0 => by
  have hc' := (hW.cell (p := ⟨Bs, 0, none⟩) hBs).trans hc
  exact values1_in F n h7 hro hn l Bs n₀ ao len cap zs hz J Jx hY W hm hc' (Lib.hid fun W' h => hI W' ((hW.mono hn₀).trans h)) h0

theorem infoI3 : (Tryz.prog.info? 3).map (fun i => (i.zero, i.size, i.bytes)) = some (some (.int .i64 0), 1, 8) := by kernel_rfl

set_option maxRecDepth 100000 in
set_option maxHeartbeats 4000000 in
/-- slices.AppendSeq(nil, slices.Values(s)): a slice that owns the numbers of s. -/
theorem appendSeq_in (F : Fence) (n : Nat) (h3 : F.fn 183) (h5 : F.fn 161) (hro : F.round = none) (hn : 3 ≤ n) (Bv : Nat) (ao : Option Addr) (len cap : Nat) (zs : List Int) (hz : zs.length = len) (hm : len ≤ 1000000) (w : World) (hBv : Bv < w.heap.size)
    (hc : w.cell? ⟨Bv, 0, none⟩ = some (.slice ao len cap)) (hI : ∀ W', Below w.heap.size w W' → IntsAt W' ao zs) :
    CallsIn F n Tryz.prog 183 #[.slice none 0 0, .func (.func 161) #[] #[.pointer (some ⟨Bv, 0, none⟩)]] w fun e W' => ∃ v, e = .returned v ∧ W'.ownsRow w.heap.size 3 1 v zs.length (zs.map (Value.int .i64)) ∧ Below w.heap.size w W' := by
  have h1 : 1 ≤ n := by omega
  obtain ⟨i0, hi, hz0, hz1, hz2⟩ := info_parts infoI3
  refine callsIn_of_wp_marks Tryz.func183 rfl h3 ?_ hro
  simp only [Tryz.ntmps183, List.size_toArray, List.length_cons, List.length_nil, Nat.reduceAdd, Nat.reduceSub, Array.replicate_succ, Array.replicate_zero, List.push_toArray, List.append_toArray, List.nil_append, List.cons_append]
  gi_wp2
  have bO := Boxed.new w 22 (.slice none 0 0)
  have hB0 : Below w.heap.size w (w.alloc (.cells #[.slice none 0 0] 22)) := (Below.refl _ w).alloc (Nat.le_refl _) _
  refine wpIn_rangeFunc_ownG hro h1 (gf := 161) (lb := #[.pointer (some ⟨Bv, 0, none⟩)]) rfl h5 (enters_of Tryz.func161 (by kernel_rfl) rfl)
    (values_stops F (n - 1) h5 hro (by omega) Bv w.heap.size ao len cap zs hz (by omega) _ (by simp; omega) (by simp) ((hB0.cell (p := ⟨Bv, 0, none⟩) hBv).trans hc) (fun W' h => hI W' (hB0.trans h))) belowK_t (belowK_b (by simp)) (Below.refl _ _) (fun _ => rfl)
    (fun pre W => (∃ v, Boxed W w.heap.size 22 v ∧ W.ownsRow w.heap.size 3 1 v pre.length (pre.map (Value.int .i64)) ∧ (v = .slice none 0 0 ↔ pre = [])) ∧ Below w.heap.size w W)
    (fun _ _ _ => False)
    (OwnFrom.and (Own.from (holdsRow_own w.heap.size w.heap.size 22 3 1 (fun pre => pre.length) (fun pre => pre.map (Value.int .i64)) (fun pre v => v = .slice none 0 0 ↔ pre = [])) _) (ownFrom_below (Nat.le_refl _) (by simp)))
    (fun _ _ _ _ _ hs _ _ => hs)
    ⟨⟨_, bO, World.ownsRow_nil _ _ _ _, by simp⟩, hB0⟩
    (fun x => { tmps := #[.slice none 0 0, .func (.func 161) #[] #[.pointer (some ⟨Bv, 0, none⟩)], .pointer (some ⟨w.heap.size, 0, none⟩), undef, .slice none 0 0, .int .i64 x, .func (.func 161) #[] #[.pointer (some ⟨Bv, 0, none⟩)], .int .i64 x, undef, undef, undef, undef, undef], defers := [] }) ?assign ?body ?done ?stop
  case assign =>
    intro l x W K hK
    gi_wp2
    exact hK
  case body =>
    rintro l pre x W ⟨⟨v, hv, hrow, hnil⟩, hB⟩ hlt
    have hc := hv.cell
    gi_wp2_with (gi_at_builtin; refine wpListIn_append_own _ rfl _ _ 22 rfl w.heap.size 3 i0 (.int .i64 0) 1 8 Tryz.underlying22 hi hz0 hz1 hz2 rfl (by decide) _ _ _ rfl (hrow.alloc _) ⟨W.heap.size, 0, none⟩ 1 1 [.int .i64 x] rfl rfl (cell_one_new _ _ _) (by simp [Value.oneCell']) (by unfold maxLen; omega) (by omega) (by have := hB.size; simp; omega) ?_; intro v' w1 hown' hgrow _; obtain ⟨g', cap', rfl⟩ := ownsRow_succ hown'; obtain ⟨hv1, hv2, hr2, hk2, hb2⟩ := hv.appended (by decide) hrow hB.size (Nat.le_refl _) hown' hgrow; have hc1 := hv1.cell; have hf1 := hv1.frozen)
    exact ⟨hk2.from _, hb2, ⟨_, hv2, by simpa using hr2, by simp⟩, hB.trans hb2⟩
  case done =>
    rintro D ys W hD rfl ⟨⟨v, hv, hrow, hnil⟩, hB⟩ hK
    have hc := hv.cell
    gi_wp2
    refine ⟨by simp, .inl ⟨_, _, rfl, run_takeDeferred hK, ?_⟩⟩
    exact ⟨_, results_tmp rfl _ _ _, v, rfl, ownsRow_putObj hrow _ hK rfl, hB.trans (belowK_b (w := w) (Nat.le_refl _) W D _ _ (by simp at hD; omega) hK rfl rfl)⟩
  case stop =>
    rintro D c pre W _ _ h _
    exact h.elim

set_option maxHeartbeats 2000000 in
/-- slices.Sorted of it. -/
theorem sortedSeq_any (Bv : Nat) (ao : Option Addr) (len cap : Nat) (zs : List Int) (hz : zs.length = len) (hm : len ≤ 1000000) (w : World) (hBv : Bv < w.heap.size)
    (hc : w.cell? ⟨Bv, 0, none⟩ = some (.slice ao len cap)) (hI : ∀ W', Below w.heap.size w W' → IntsAt W' ao zs) :
    Calls Tryz.prog 120 #[.func (.func 161) #[] #[.pointer (some ⟨Bv, 0, none⟩)]] w fun e w' => ∃ (ro : Option Addr) (rc : Nat), e = .returned (.slice ro len rc) ∧ Ex w.heap.size none w w' ∧
      (zs = [] ∨ ∃ g, ro = some ⟨g, 0, none⟩ ∧ w.heap.size ≤ g ∧ g < w'.heap.size ∧ zs.length ≤ rc ∧ Holds (Value.int .i64) w' g 0 (zs.mergeSort fun x y => decide (x ≤ y)).toArray) := by
  have hcol : Calls Tryz.prog 160 #[.func (.func 161) #[] #[.pointer (some ⟨Bv, 0, none⟩)]] w fun e W' => ∃ v, e = .returned v ∧ W'.ownsRow w.heap.size 3 1 v zs.length (zs.map (Value.int .i64)) ∧ Below w.heap.size w W' := by
    have HA := callsIn_wide.1 (appendSeq_in Fence.wide 3 trivial trivial rfl (Nat.le_refl _) Bv ao len cap zs hz hm w hBv hc hI)
    go_enter Tryz.func160, Tryz.ntmps160
    go_wp2_with (go_at_call 183; refine HA.mono ?_; rintro e w' ⟨v, rfl, hrow, hb⟩)
    go_ret
    exact ⟨v, rfl, hrow, hb⟩
  go_enter Tryz.func120, Tryz.ntmps120
  go_wp2_with (first
    | (go_at_call 160; refine hcol.mono ?_; rintro e w1 ⟨v, rfl, hrow, hb⟩; clear hcol; obtain ⟨ro, rc, rfl⟩ := own_shape hrow; rw [hz] at hrow; have HO : Hid (OwnI w1 w.heap.size ro rc zs) := Lib.hid (by unfold OwnI; rw [hz]; exact hrow); have HB : Hid (Ex w.heap.size none w w1) := Lib.hid (Ex.of_below hb); clear hrow hb)
    | (go_at_call 62; refine (sortInts_any ro rc len w.heap.size zs w1 HO.out hz (by omega)).mono ?_; rintro e w2 ⟨rfl, hex, hs⟩; have HS := Lib.hid hs; have HE := Lib.hid hex; clear hs hex)
    | fail)
  go_ret
  exact ⟨ro, rc, rfl, HB.out.trans HE.out (Nat.le_refl _) (by simp), HS.out⟩
set_option maxHeartbeats 2000000 in
/-- lists.Sorted. -/
theorem listsSorted_any (ao : Option Addr) (len cap : Nat) (zs : List Int) (hz : zs.length = len) (hm : len ≤ 1000000) (w : World) (hI : IntsAt w ao zs) :
    Calls Tryz.prog 76 #[.slice ao len cap] w fun e w' => ∃ (ro : Option Addr) (rc : Nat), e = .returned (.slice ro len rc) ∧ Ex w.heap.size none w w' ∧
      (zs = [] ∨ ∃ g, ro = some ⟨g, 0, none⟩ ∧ w.heap.size ≤ g ∧ g < w'.heap.size ∧ zs.length ≤ rc ∧ Holds (Value.int .i64) w' g 0 (zs.mergeSort fun x y => decide (x ≤ y)).toArray) := by
  have HI := Lib.hid hI
  have HV := callsIn_wide.1 (values_in Fence.wide 3 trivial rfl ao len cap w)
  clear hI
  go_enter Tryz.func76, Tryz.ntmps76
  go_wp2_with (first
    | (go_at_call 121; refine HV.mono ?_; rintro e w1 ⟨rfl, hw1⟩; clear HV; have HE : Hid (Ex w.heap.size none w w1) := Lib.hid (by rw [hw1]; exact Ex.new _ _); have hz1 : w1.heap.size = w.heap.size + 1 := (by rw [hw1]; simp); have HC : Hid (w1.cell? ⟨w.heap.size, 0, none⟩ = some (.slice ao len cap)) := Lib.hid (by rw [hw1, cell_of_row _ _ _ _ _ _ (heap_alloc_new w _)]; rfl); clear hw1)
    | (go_at_call 120; refine (sortedSeq_any w.heap.size ao len cap zs hz hm w1 (by omega) HC.out (fun W' h => HI.out.keep (HE.out.trans (Ex.of_below h) (by omega) (by simp)) (Nat.le_refl _) (by simp))).mono ?_; rintro e w2 ⟨ro, rc, rfl, hex, hs⟩; have HS := Lib.hid hs; have HE2 := Lib.hid hex; clear hs hex)
    | fail)
  go_ret
  refine ⟨ro, rc, rfl, HE.out.trans HE2.out (by omega) (by simp), HS.out.imp id ?_⟩
  rintro ⟨g, h1, h2, h3⟩
  exact ⟨g, h1, by omega, h3⟩
end Go.Proofs.YtfllcohnfboccaaGreat
