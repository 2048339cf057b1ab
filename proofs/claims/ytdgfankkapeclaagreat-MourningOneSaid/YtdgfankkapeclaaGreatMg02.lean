/- copy at elements of k cells; a row out of the cells of its elements. For whatever program; no statement of the seat. | Statements as data, and how memory holds them: words, no statement of the seat. | ref03.SameInts, SamePins: contracts, no statement of the seat. | ref03.Same: words for its contract, no statement of the seat. | A region that draws its order, whose operations read and whose callees may lay blocks of their own: walked once, in the order of the text, at the class of worlds in which no old block has been turned. For whatever program; no statement of the seat. | ref03.Copy: a contract, no statement of the seat. | ref34.Valid, Voices, Enough: contracts, no statement of the seat. | A whole row of cells: not frozen; set cell by cell. No statement of the seat. | What the library's stable sort at trustflow/api.Heir leans on of a program: so that its walks may be made over whatever program and number of cells. No statement of the seat. | slices.symMergeCmpFunc at trustflow/api.Heir, where the first run has one element, over whatever program that bears it: a contract, no statement of the seat. -/
import Derived.Test.YtdgfankkapeclaaGreatRowKG
import Derived.Laws.CopyOwn
import Derived.Test.YtdgfankkapeclaaGreatRows
import Derived.Test.YtdgfankkapeclaaGreatMg00
import Derived.Deep.Cut
import Derived.Test.YtdgfankkapeclaaGreatMg01
namespace Go.Proofs.YtdgfankkapeclaaGreat
open Go.RowKit Go.Sort

variable {α : Type} [Inhabited α]

/-- The cells of a list of elements, one behind the other. -/
def flatL (enc : α → List Value) (xs : List α) : List Value := xs.flatMap enc
omit [Inhabited α] in
theorem flatL_len {enc : α → List Value} {k : Nat} (hk : ∀ x, (enc x).length = k) (xs : List α) : (flatL enc xs).length = xs.length * k := by
  induction xs with
  | nil => simp [flatL]
  | cons x r ih => simp only [flatL, List.flatMap_cons, List.length_append, hk, List.length_cons, Nat.add_mul, Nat.one_mul] at *; omega
omit [Inhabited α] in
theorem flatL_get {enc : α → List Value} {k : Nat} (hk : ∀ x, (enc x).length = k) : ∀ (xs : List α) (i c : Nat) (h : i < xs.length), c < k → (flatL enc xs)[i * k + c]? = (enc xs[i])[c]?
  | [], i, c, h, _ => by simp at h
  | x :: r, 0, c, h, hc => by
    simp only [flatL, List.flatMap_cons, Nat.zero_mul, Nat.zero_add]
    rw [List.getElem?_append_left (by rw [hk]; exact hc)]; rfl
  | x :: r, i + 1, c, h, hc => by
    simp only [flatL, List.flatMap_cons]
    rw [List.getElem?_append_right (by rw [hk, Nat.add_mul, Nat.one_mul]; omega), hk, show (i + 1) * k + c - k = i * k + c by rw [Nat.add_mul, Nat.one_mul]; omega]
    exact flatL_get hk r i c (by simpa using h) hc
omit [Inhabited α] in
theorem flatL_one {enc : α → List Value} (h1 : ∀ x, ∀ v ∈ enc x, v.oneCell' = true) (xs : List α) : ∀ v ∈ flatL enc xs, v.oneCell' = true := fun v hv => by
  simp only [flatL, List.mem_flatMap] at hv
  obtain ⟨x, _, hv⟩ := hv
  exact h1 x v hv
/-- A row whose cells are those of xs holds xs. -/
theorem holdsK_flat {enc : α → List Value} {k : Nat} (hk : ∀ x, (enc x).length = k) {w : World} {g off : Nat} {xs : List α} (hc : ∀ j v, (flatL enc xs)[j]? = some v → w.cell? ⟨g, off + j, none⟩ = some v) (hf : ∀ j, j < (flatL enc xs).length → w.frozen? ⟨g, off + j, none⟩ = false) : HoldsK enc k w g off xs.toArray :=
  holdsK_of fun i c hi hcc => by
    have hi' : i < xs.length := by simpa using hi
    have e := flatL_get hk xs i c hi' hcc
    have hlen : c < (enc xs[i]).length := by rw [hk]; exact hcc
    rw [List.getElem?_eq_getElem hlen] at e
    have hb : i * k + c < (flatL enc xs).length := (List.getElem?_eq_some_iff.1 e).1
    rw [Nat.add_assoc]
    refine ⟨?_, hf _ hb⟩
    rw [hc _ _ e, getElem!_pos xs.toArray i (by simpa using hi'), List.getElem_toArray, getElem!_pos (enc xs[i]) c hlen]
/-- Stores of all cells of a list over a row that has room. -/
theorem holdsK_setAll {enc : α → List Value} {k : Nat} (hk : ∀ x, (enc x).length = k) {w : World} {g off : Nat} {xs : List α} (hc : ∀ j, j < xs.length * k → (w.cell? ⟨g, off + j, none⟩).isSome = true) (hf : ∀ j, j < xs.length * k → w.frozen? ⟨g, off + j, none⟩ = false) : HoldsK enc k (w.setCells g off (flatL enc xs)) g off xs.toArray :=
  holdsK_flat hk (fun j v hv => by
    obtain ⟨hj, rfl⟩ := List.getElem?_eq_some_iff.1 hv
    exact World.cell?_setCells_in g (flatL enc xs) off w (fun j hj => hc j (by rw [← flatL_len hk]; exact hj)) j hj) (fun j hj => by
    rw [World.frozen?_setCells]; exact hf j (by rw [← flatL_len hk]; exact hj))

/-- 'copy(dst, src)', both of n elements of so many cells each. -/
theorem wpList_copy_k {P : Program} {w : World} {ops : Array Oper} {rest : List Oper} {o : Oper} {a : Act} {Q : Exit → Act → World → Prop} (hgd : o.guard = none) (d s : Operand) (dT sT : TypeId)
    (ho : o.op = .call { callee := .builtin .copy, args := #[d, s], argTypes := #[dT, sT] }) (elem : TypeId) (hu : P.underlying dT = some (.slice elem)) (size : Nat) (hsz : (P.info? elem).map (·.size) = some size)
    (g off n dCap : Nat) (sp : Option Addr) (sCap : Nat) (hd : a.eval d = .slice (some ⟨g, off, none⟩) n dCap) (hs : a.eval s = .slice sp n sCap) (cs : List Value) (hn : cs.length = n * size)
    (hpos : n = 0 ∨ ∃ ad, sp = some ad ∧ ∀ j v, cs[j]? = some v → w.cell? (ad.add j) = some v) (hc : ∀ j, j < cs.length → (w.cell? ⟨g, off + j, none⟩).isSome = true) (hf : ∀ j, j < cs.length → w.frozen? ⟨g, off + j, none⟩ = false) (h1 : ∀ v ∈ cs, v.oneCell' = true)
    (h : wpList P ops Q rest (a.put o.dst (goInt n)) (w.setCells g off cs)) : wpList P ops Q (o :: rest) a w := by
  refine wpList_plain hgd fun K hK => ?_
  have hst := run_storeCells_cells (P := P) g off cs 0 w (by simpa using hc) (by simpa using hf) h1
  simp only [Nat.add_zero] at hst
  cases hq : P.info? elem with
  | none => simp [hq] at hsz
  | some i =>
    have hi : i.size = size := by simpa [hq] using hsz
    have hrun : (Builtin.copy_ #[dT, sT] o.type #[.slice (some ⟨g, off, none⟩) n dCap, .slice sp n sCap]).run P w = .ok (goInt n) (w.setCells g off cs) := by
      rcases hpos with h0 | ⟨ad, rfl, hsrc⟩
      · subst h0
        obtain rfl : cs = [] := List.eq_nil_of_length_eq_zero (by rw [hn, Nat.zero_mul])
        have hl : ∀ (x : Addr), (loadCells x 0).run P w = .ok #[] w := fun x => by simpa using run_loadCells_list (P := P) w x [] (by simp)
        cases sp <;> simp [Builtin.copy_, run_underlying hu, Builtin.lenOf, Builtin.firstCells, sizeOf, typeInfo, hq, hl, storeCells, World.setCells]
      · have hl := run_loadCells_list (P := P) w ad cs hsrc
        rw [hn] at hl
        simp [Builtin.copy_, run_underlying hu, Builtin.lenOf, Builtin.firstCells, sizeOf, typeInfo, hq, hi, hl, hst]
    unfold Oper.wp
    simp [execOp, ho, resolve, invoke, builtin, hd, hs, hrun, Result.andThen]
    exact hK _ _ h
/-- Cells of a row that is owned. -/
theorem own_there {w : World} {base e size n cap : Nat} {xs : List Value} {g o : Nat} (h : w.ownsRow base e size (.slice (some ⟨g, o, none⟩) n cap) n xs) : o = 0 ∧ base ≤ g ∧ g < w.heap.size ∧ n ≤ cap ∧ (∀ (j : Nat) (v : Value), xs[j]? = some v → w.cell? ⟨g, j, none⟩ = some v) ∧ ∀ j, w.frozen? ⟨g, j, none⟩ = false := by
  rcases h.2 with ⟨h1, h2⟩ | ⟨g', cap', cur, hv, hg, hh, hn, hcm, hcur, hpre⟩
  · cases h1
  · cases hv
    refine ⟨rfl, hg, (Array.getElem?_eq_some_iff.1 hh).1, hn, fun j v hj => ?_, fun j => by simp [World.frozen?, hh]⟩
    rw [← hpre] at hj
    have : cur.toList[j]? = some v := by
      rw [List.getElem?_take] at hj
      split at hj
      · exact hj
      · cases hj
    simp only [World.cell?, hh]
    simpa using this
/-- A row of elements that is owned holds them. -/
theorem own_holdsK {enc : α → List Value} {k : Nat} (hk : ∀ x, (enc x).length = k) {w : World} {base e n cap : Nat} {xs : List α} {g o : Nat} (h : w.ownsRow base e k (.slice (some ⟨g, o, none⟩) n cap) n (flatL enc xs)) : HoldsK enc k w g 0 xs.toArray := by
  obtain ⟨_, _, _, _, h1, h2⟩ := own_there h
  exact holdsK_flat hk (fun j v hv => by rw [Nat.zero_add]; exact h1 j v hv) (fun j _ => by rw [Nat.zero_add]; exact h2 j)
theorem own_some {w : World} {base e size n cap : Nat} {xs : List Value} {g o : Nat} (h : w.ownsRow base e size (.slice (some ⟨g, o, none⟩) n cap) n xs) (j : Nat) (hj : j < n * size) : (w.cell? ⟨g, 0 + j, none⟩).isSome = true := by
  obtain ⟨_, _, _, _, h1, _⟩ := own_there h
  have hl : j < xs.length := by rw [h.1]; exact hj
  rw [Nat.zero_add, h1 j xs[j] (by simp [hl])]; rfl
theorem own_frozen {w : World} {base e size n cap : Nat} {xs : List Value} {g o : Nat} (h : w.ownsRow base e size (.slice (some ⟨g, o, none⟩) n cap) n xs) (j : Nat) : w.frozen? ⟨g, 0 + j, none⟩ = false := by
  obtain ⟨_, _, _, _, _, h2⟩ := own_there h
  rw [Nat.zero_add]; exact h2 j
theorem copy_from {w w1 : World} {row : Option Nat} {n : Nat} {ao : Option Addr} {cs : List Value} (h : n = 0 ∨ ∃ ad, ao = some ad ∧ ∀ (j : Nat) (v : Value), cs[j]? = some v → w.cell? (ad.add j) = some v) (hg : w.grownBy w1 row) (hr : ∀ k, row = some k → w.heap.size ≤ k) : n = 0 ∨ ∃ ad, ao = some ad ∧ ∀ (j : Nat) (v : Value), cs[j]? = some v → w1.cell? (ad.add j) = some v :=
  h.imp id fun ⟨ad, e, h⟩ => ⟨ad, e, fun j v hv => hg.cell (h j v hv) fun e' => by
    have a := hr _ e'.symm
    have b := World.block_lt_of_cell? w _ (h j v hv)
    omega⟩

/-- A slice of elements of k cells that the call owns. -/
def OwnE (enc : α → List Value) (k : Nat) (e : TypeId) (w : World) (base : Nat) (ao : Option Addr) (cap : Nat) (xs : List α) : Prop := w.ownsRow base e k (.slice ao xs.length cap) xs.length (flatL enc xs)
omit [Inhabited α] in
theorem OwnE.nil (enc : α → List Value) (k : Nat) (e : TypeId) (w : World) (base : Nat) : OwnE enc k e w base none 0 [] := World.ownsRow_nil w base e k
omit [Inhabited α] in
theorem OwnE.keep {enc : α → List Value} {k : Nat} {e : TypeId} {w w' : World} {base B : Nat} {p : Option Nat} {ao : Option Addr} {cap : Nat} {xs : List α} (h : OwnE enc k e w base ao cap xs) (hx : Ex B p w w') (hB : w.heap.size ≤ B) (hp : ∀ q, p = some q → q < base) : OwnE enc k e w' base ao cap xs := own_keep h hx hB hp
omit [Inhabited α] in
theorem OwnE.lt {enc : α → List Value} {k : Nat} {e : TypeId} {w : World} {base : Nat} {ao : Option Addr} {cap : Nat} {xs : List α} (h : OwnE enc k e w base ao cap xs) : ∀ a, ao = some a → base ≤ a.block ∧ a.block < w.heap.size := by
  intro a e; subst e; exact World.ownsRow.lt h _ rfl
omit [Inhabited α] in
theorem OwnE.cases {enc : α → List Value} {k : Nat} {e : TypeId} {w : World} {base : Nat} {ao : Option Addr} {cap : Nat} {xs : List α} (h : OwnE enc k e w base ao cap xs) : (ao = none ∧ cap = 0 ∧ xs = []) ∨ ∃ g, ao = some ⟨g, 0, none⟩ ∧ base ≤ g ∧ g < w.heap.size ∧ xs.length ≤ cap := by
  rcases h.2 with ⟨h1, h2⟩ | ⟨g, cap', cur, hv, hg, hh, hn, _⟩
  · simp only [Value.slice.injEq] at h1
    obtain ⟨rfl, _, rfl⟩ := h1
    exact Or.inl ⟨rfl, rfl, List.eq_nil_of_length_eq_zero h2⟩
  · cases hv; exact Or.inr ⟨g, rfl, hg, (Array.getElem?_eq_some_iff.1 hh).1, hn⟩
theorem OwnE.holds {enc : α → List Value} {k : Nat} (hk : ∀ x, (enc x).length = k) {e : TypeId} {w : World} {base g o cap : Nat} {xs : List α} (h : OwnE enc k e w base (some ⟨g, o, none⟩) cap xs) : HoldsK enc k w g 0 xs.toArray := own_holdsK hk h

omit [Inhabited α] in
/-- 'append(out, src...)', out a slice of such elements of the call's own, src as many cells as ys says (nil too). -/
theorem wpList_appE {P : Program} {w0 w : World} {ops : Array Oper} {rest : List Oper} {o : Oper} {a : Act} {Q : Exit → Act → World → Prop} (hgd : o.guard = none) (s x : Operand) (t e : TypeId)
    (ho : o.op = .call { callee := .builtin .append, args := #[s, x], argTypes := #[t, t] })
    (ht : P.underlying t = some (.slice e)) (z : Value) (k bytes : Nat) (hinfo : (P.info? e).map (fun i => (i.zero, i.size, i.bytes)) = some (some z, k, bytes)) (hzc : z.cells.size = k) (hk0 : 0 < k) (hb : bytes ≤ 1000)
    (enc : α → List Value) (hk : ∀ x, (enc x).length = k) (h1 : ∀ x, ∀ v ∈ enc x, v.oneCell' = true)
    (base : Nat) (ao : Option Addr) (cap : Nat) (xs ys : List α) (v u : Value) (n : Nat) (hn : n = xs.length) (hv : v = .slice ao n cap) (hs : a.eval s = v) (so : Option Addr) (m sc : Nat) (hx : a.eval x = u) (hu : u = .slice so m sc) (hm : m = ys.length)
    (hsrc : ys.length = 0 ∨ ∃ ad, so = some ad ∧ ∀ (j : Nat) (v : Value), (flatL enc ys)[j]? = some v → w.cell? (ad.add j) = some v)
    (hown : OwnE enc k e w0 base ao cap xs) (hw : Ex w0.heap.size none w0 w) (hlen : xs.length + ys.length ≤ 10000000) (hbase : base ≤ w0.heap.size)
    (h : ∀ ao' cap' w', OwnE enc k e w' base ao' cap' (xs ++ ys) → Ex base none w0 w' → wpList P ops Q rest (a.put o.dst (.slice ao' (xs.length + ys.length) cap')) w') : wpList P ops Q (o :: rest) a w := by
  subst hn hm hu hv
  obtain ⟨i0, hi, hz0, hz1, hz2⟩ := info_parts hinfo
  have hown' : OwnE enc k e w base ao cap xs := hown.keep hw (Nat.le_refl _) (by simp)
  have hsz := hw.size
  have key : ∀ so ad, so = some ad → a.eval x = .slice so ys.length sc → (∀ (j : Nat) (v : Value), (flatL enc ys)[j]? = some v → w.cell? (ad.add j) = some v) → wpList P ops Q (o :: rest) a w := fun so ad e1 hx hsrc => by
    subst e1
    refine wpList_append_own _ hgd s x t ho base e i0 z k bytes ht hi hz0 hz1 hz2 hzc hk0 _ _ _ hs hown' ad ys.length sc (flatL enc ys) hx (flatL_len hk ys) hsrc (flatL_one h1 ys) (by simp only [maxLen]; omega) ?_ (by omega) ?_
    · have := Nat.mul_le_mul hlen hb; omega
    · intro v' w' ho' hg _
      obtain ⟨ao', cap', rfl⟩ := own_shape ho'
      refine h ao' cap' w' ?_ ((hw.mono hbase).grown hg (by omega) ?_)
      · unfold OwnE
        have e1 : flatL enc (xs ++ ys) = flatL enc xs ++ flatL enc ys := by simp [flatL]
        rw [e1, List.length_append]; exact ho'
      · intro q hq
        exact (World.ownsRow.lt hown' q hq).1
  rcases hsrc with h0 | ⟨ad, e1, hc⟩
  · have hy : ys = [] := List.eq_nil_of_length_eq_zero h0
    cases so with
    | some ad => exact key _ ad rfl hx (fun j v hv => by subst hy; simp [flatL] at hv)
    | none =>
      subst hy
      refine wpList_plain hgd fun K hK => ?_
      have hrun := run_append_none (P := P) (w := w) base t o.type e i0 k ht hi _ _ sc _ hown'
      unfold Oper.wp
      simp only [List.length_nil] at hx
      simp [execOp, ho, resolve, invoke, builtin, hs, hx, hrun, Result.andThen]
      exact hK _ _ (by simpa using h ao cap w (by simpa using hown') (hw.mono hbase))
  · exact key so ad e1 hx hc
omit [Inhabited α] in
/-- The one element of a literal. -/
theorem lit_cells {enc : α → List Value} {w : World} {x : α} {t : TypeId} {cs : Array Value} (h : cs.toList = enc x) : ([x] : List α).length = 0 ∨ ∃ ad, some (⟨w.heap.size, 0, none⟩ : Addr) = some ad ∧ ∀ (j : Nat) (v : Value), (flatL enc [x])[j]? = some v → (w.alloc (.cells cs t)).cell? (ad.add j) = some v := by
  refine Or.inr ⟨_, rfl, fun j v hv => ?_⟩
  rw [Addr.add_lit, Nat.zero_add, cell_of_row _ _ _ _ _ _ (heap_alloc_new w _)]
  simp only [flatL, List.flatMap_cons, List.flatMap_nil, List.append_nil] at hv
  rw [← h] at hv
  simpa using hv
end Go.Proofs.YtdgfankkapeclaaGreat

namespace Go.Proofs.YtdgfankkapeclaaGreat
open Go.RowKit Go.Sort

/-- A pin: author, height, digest. -/
abbrev PinD := Int × Int × ByteArray
def pinE (p : PinD) : List Value := [.int .i64 p.1, .int .i64 p.2.1, .string p.2.2]
theorem pinE_len (p : PinD) : (pinE p).length = 3 := rfl
theorem one_pinE : ∀ p, ∀ v ∈ pinE p, v.oneCell' = true := fun p v hv => by simp [pinE] at hv; rcases hv with rfl | rfl | rfl <;> rfl
/-- Elements that are held by value. -/
def valRep {α : Type} (enc : α → List Value) (k : Nat) (hk : ∀ x, (enc x).length = k) (h1 : ∀ x, ∀ v ∈ enc x, v.oneCell' = true) : Rep α where
  k := k
  R := fun _ _ cs x => cs = enc x
  len := fun h => by subst h; exact hk _
  one := fun h => by subst h; exact h1 _
  keep := fun h _ => h
  mono := fun h _ => h
def pinRep : Rep PinD := valRep pinE 3 pinE_len one_pinE

/-- A statement. -/
structure St where
  author : Int
  number : Int
  prev : ByteArray
  time : Int
  kind : Int
  a : Int
  b : Int
  c : Int
  list : List Int
  pins : List PinD
  body : ByteArray
  key : Int
  dig : ByteArray
instance : Inhabited St := ⟨⟨0, 0, ⟨#[]⟩, 0, 0, 0, 0, 0, [], [], ⟨#[]⟩, 0, ⟨#[]⟩⟩⟩
/-- Equal, field for field. -/
def sameS (s t : St) : Bool :=
  decide (s.author = t.author) && decide (s.number = t.number) && decide (s.prev = t.prev) && decide (s.time = t.time) && decide (s.kind = t.kind) && decide (s.a = t.a) && decide (s.b = t.b) && decide (s.c = t.c) &&
  decide (s.list = t.list) && decide (s.pins = t.pins) && decide (s.body = t.body) && (decide (s.key = t.key) && decide (s.dig = t.dig))
theorem sameS_iff {s t : St} : sameS s t = true ↔ s = t := by
  constructor
  · intro h
    simp only [sameS, Bool.and_eq_true, decide_eq_true_eq] at h
    obtain ⟨⟨⟨⟨⟨⟨⟨⟨⟨⟨⟨h1, h2⟩, h3⟩, h4⟩, h5⟩, h6⟩, h7⟩, h8⟩, h9⟩, h10⟩, h11⟩, h12, h13⟩ := h
    obtain ⟨_, _, _, _, _, _, _, _, _, _, _, _, _⟩ := s
    simp only at h1 h2 h3 h4 h5 h6 h7 h8 h9 h10 h11 h12 h13
    subst h1 h2 h3 h4 h5 h6 h7 h8 h9 h10 h11 h12 h13
    rfl
  · rintro rfl
    simp [sameS]
/-- A slice's header. -/
structure Sv where
  ao : Option Addr
  n : Nat
  c : Nat
instance : Inhabited Sv := ⟨⟨none, 0, 0⟩⟩
def Sv.v (x : Sv) : Value := .slice x.ao x.n x.c
/-- The cells of a statement whose lists lie at l and p. -/
def stE (x : St × Sv × Sv) : List Value :=
  [.int .i64 x.1.author, .int .i64 x.1.number, .string x.1.prev, .int .i64 x.1.time, .int .i64 x.1.kind, .int .i64 x.1.a, .int .i64 x.1.b, .int .i64 x.1.c, x.2.1.v, x.2.2.v, .string x.1.body, .int .i64 x.1.key, .string x.1.dig]
theorem stE_len (x : St × Sv × Sv) : (stE x).length = 13 := rfl
theorem one_stE : ∀ x, ∀ v ∈ stE x, v.oneCell' = true := fun x v hv => by
  simp only [stE, List.mem_cons, List.not_mem_nil, or_false] at hv
  rcases hv with rfl | rfl | rfl | rfl | rfl | rfl | rfl | rfl | rfl | rfl | rfl | rfl | rfl <;> rfl
/-- The lists of a statement lie where its headers say. -/
def Lies (P : Nat → Prop) (w : World) (x : St × Sv × Sv) : Prop := Sl intRep P w x.2.1.v x.1.list ∧ Sl pinRep P w x.2.2.v x.1.pins
theorem Lies.keep {P : Nat → Prop} {w w' : World} {x : St × Sv × Sv} (h : Lies P w x) (hx : ∀ b, P b → b < w.heap.size → w'.heap[b]? = w.heap[b]?) : Lies P w' x := ⟨h.1.keep (by decide) hx, h.2.keep (by decide) hx⟩
theorem Lies.mono {P P' : Nat → Prop} {w : World} {x : St × Sv × Sv} (h : Lies P w x) (hx : ∀ b, P b → b < w.heap.size → P' b) : Lies P' w x := ⟨h.1.mono (by decide) hx, h.2.mono (by decide) hx⟩
def stRep : Rep St where
  k := 13
  R := fun P w cs s => ∃ l p, cs = stE (s, l, p) ∧ Lies P w (s, l, p)
  len := fun ⟨l, p, h, _⟩ => by subst h; exact stE_len _
  one := fun ⟨l, p, h, _⟩ => by subst h; exact one_stE _
  keep := fun ⟨l, p, h, hs⟩ hx => ⟨l, p, h, hs.keep hx⟩
  mono := fun ⟨l, p, h, hs⟩ hx => ⟨l, p, h, hs.mono hx⟩
theorem sl_shape {α : Type} {r : Rep α} {P : Nat → Prop} {w : World} {v : Value} {xs : List α} (h : Sl r P w v xs) : ∃ x : Sv, v = x.v ∧ x.n = xs.length := by
  obtain ⟨ao, cap, e, _⟩ := h
  exact ⟨⟨ao, xs.length, cap⟩, e, rfl⟩
theorem sl_ints {P : Nat → Prop} {w : World} {v : Value} {xs : List Int} (h : Sl intRep P w v xs) : Ints w v xs := by
  obtain ⟨ao, cap, rfl, h⟩ := h
  refine ⟨ao, cap, rfl, fun j hj => ?_⟩
  obtain ⟨b, off, cs, e, hp, hr, hR⟩ := h 0 (by omega)
  refine ⟨b, off, e, fun i hi => ?_⟩
  obtain ⟨b', off', cs', e', hp', hr', hR'⟩ := h i hi
  rw [e] at e'; cases e'
  have := hr' 0 (.int .i64 xs[i]) (by rw [show cs' = _ from hR']; rfl)
  rw [show off + i = off + i * intRep.k + 0 by simp [intRep]]
  rw [this]; simp [List.getD, hi]
theorem ints_sl {P : Nat → Prop} {w : World} {v : Value} {xs : List Int} (h : Ints w v xs) (hP : ∀ ao n c, v = .slice ao n c → xs ≠ [] → ∀ a, ao = some a → P a.block) : Sl intRep P w v xs := by
  obtain ⟨ao, cap, rfl, h⟩ := h
  refine ⟨ao, cap, rfl, fun i hi => ?_⟩
  obtain ⟨b, off, e, hc⟩ := h i hi
  refine ⟨b, off, [.int .i64 xs[i]], e, hP _ _ _ rfl (by intro h0; subst h0; simp at hi) _ e, fun j v hv => ?_, rfl⟩
  match j, hv with
  | 0, hv =>
    simp at hv; subst hv
    have := hc i hi
    rw [show off + i * intRep.k + 0 = off + i by simp [intRep]]
    rw [this]; simp [List.getD, hi]
  | j + 1, hv => simp at hv
/-- The cells of a slice of elements that are held by value. -/
theorem val_cells {α : Type} {enc : α → List Value} {k : Nat} {hk : ∀ x, (enc x).length = k} {h1 : ∀ x, ∀ v ∈ enc x, v.oneCell' = true} (hk0 : 0 < k) {P : Nat → Prop} {w : World} {ao : Option Addr} {xs : List α} (h : SlAt (valRep enc k hk h1) P w ao xs) : xs.length = 0 ∨ ∃ ad, ao = some ad ∧ ∀ (j : Nat) (v : Value), (flatL enc xs)[j]? = some v → w.cell? (ad.add j) = some v := by
  rcases Nat.eq_zero_or_pos xs.length with h0 | h0
  · exact Or.inl h0
  · obtain ⟨b, off, _, e, _, _, _⟩ := h 0 h0
    refine Or.inr ⟨_, e, fun j v hv => ?_⟩
    have hl := flatL_len hk xs
    have hj := (List.getElem?_eq_some_iff.1 hv).1
    have hi : j / k < xs.length := Nat.div_lt_of_lt_mul (by rw [Nat.mul_comm]; omega)
    obtain ⟨b', off', cs, e', _, hr, hR⟩ := h (j / k) hi
    rw [e] at e'; cases e'
    have hm : j / k * k + j % k = j := Nat.div_add_mod' j k
    have hg := flatL_get hk xs (j / k) (j % k) hi (Nat.mod_lt _ hk0)
    rw [hm, hv] at hg
    have hcs : cs = enc xs[j / k] := hR
    have := hr (j % k) v (by rw [hcs]; exact hg.symm)
    rw [Addr.add_lit, ← hm, ← Nat.add_assoc]
    exact this
/-- A row that holds elements by value is a slice of them. -/
theorem val_sl {α : Type} [Inhabited α] {enc : α → List Value} {k : Nat} {hk : ∀ x, (enc x).length = k} {h1 : ∀ x, ∀ v ∈ enc x, v.oneCell' = true} {P : Nat → Prop} {w : World} {g : Nat} {xs : List α} (hP : P g) (h : HoldsK enc k w g 0 xs.toArray) : SlAt (valRep enc k hk h1) P w (some ⟨g, 0, none⟩) xs := fun i hi => by
  refine ⟨g, 0, enc xs[i], rfl, hP, ?_, rfl⟩
  have := holdsK_range hk h i (by simpa using hi)
  rwa [getElem!_pos xs.toArray i hi, List.getElem_toArray] at this
/-- A row that holds statements is a slice of them, if their lists lie somewhere. -/
theorem st_sl {P : Nat → Prop} {w : World} {g : Nat} {xs : List (St × Sv × Sv)} (hP : P g) (h : HoldsK stE 13 w g 0 xs.toArray) (hl : ∀ x ∈ xs, Lies P w x) : SlAt stRep P w (some ⟨g, 0, none⟩) (xs.map (·.1)) := fun i hi => by
  have hi' : i < xs.length := by simpa using hi
  refine ⟨g, 0, stE xs[i], rfl, hP, ?_, xs[i].2.1, xs[i].2.2, by simp, by simpa using hl _ (List.getElem_mem hi')⟩
  have := holdsK_range stE_len h i (by simpa using hi')
  rwa [getElem!_pos xs.toArray i hi', List.getElem_toArray] at this
end Go.Proofs.YtdgfankkapeclaaGreat

namespace Go.Proofs.YtdgfankkapeclaaGreat
open Go.RowKit Go.Sort

theorem same_take3 {xs ys : List Int} {k : Nat} (h : xs.take k = ys.take k) (h1 : k < xs.length) (h2 : k < ys.length) (he : xs.getD k 0 = ys.getD k 0) : xs.take (k + 1) = ys.take (k + 1) := by
  rw [take_snoc xs k h1, take_snoc ys k h2, h, he]
theorem same_takeG {α : Type} {xs ys : List α} {k : Nat} {x y : α} (h : xs.take k = ys.take k) (h1 : xs[k]? = some x) (h2 : ys[k]? = some y) (he : x = y) : xs.take (k + 1) = ys.take (k + 1) := by
  rw [List.take_add_one, List.take_add_one, h, h1, h2, he]

set_option maxHeartbeats 400000 in
theorem same03Ints_any (v1 v2 : Value) (xs ys : List Int) (w : World) (hv1 : Ints w v1 xs) (hv2 : Ints w v2 ys) (hm : xs.length ≤ 9223372036854775807) :
    Calls Tryz.prog 224 #[v1, v2] w fun e w' => e = .returned (.bool (decide (xs = ys))) ∧ Ex w.heap.size none w w' := by
  obtain ⟨ao, cap, rfl, hx⟩ := hv1
  obtain ⟨bo, cbp, rfl, hy⟩ := hv2
  by_cases hl : xs.length = ys.length
  · have hl1 : ((xs.length : Int) != ys.length) = false := by simp [hl]
    have HL := Lib.hid hl
    go_enter Tryz.func224, Tryz.ntmps224
    clear hl
    go_wp2
    clear hl1
    go_loopw [5] (fun i wr => ∃ k : Nat, k ≤ xs.length ∧ i = .int .i64 k ∧ xs.take k = ys.take k ∧ ∃ n, w.drewN n = wr) (fun i _ => xs.length - (intOf i).toNat)
    case atStart => exact ⟨0, Nat.zero_le _, rfl, by simp, 0, rfl⟩
    case round =>
      obtain ⟨k, hk, rfl, ht, n, rfl⟩ := hrel
      have HT := Lib.hid ht
      clear ht
      by_cases hlt : k < xs.length
      · have hlt2 : k < ys.length := by have := HL.out; omega
        obtain ⟨b, off, y, rfl, hck, HY⟩ := hx.get k hlt
        obtain ⟨b', off', z, rfl, hcz, HZ⟩ := hy.get k hlt2
        by_cases he : y = z
        · have hb : (y != z) = false := by simpa using he
          have HR := Lib.hid (same_take3 HT.out hlt hlt2 (by rw [HY.out, HZ.out, he]))
          clear he
          go_wp2
          go_quiet (fail)
          go_wp2
          go_roundw
          case rel => exact ⟨k + 1, by omega, by go_num, HR.out, _, rfl⟩
          case measure => simp [intOf]; omega
        · have hb : (y != z) = true := by simpa using he
          have HR : Hid (xs ≠ ys) := fun h => he (by rw [← HY.out, ← HZ.out, h])
          clear he
          go_wp2
          go_quiet (fail)
          go_wp2
          go_ret
          exact ⟨ret_bool (by simp [HR.out]), by repeat (first | exact Ex.refl _ _ _ | refine Ex.drewN ?_)⟩
      · have HR : Hid (xs = ys) := by
          have h := HT.out
          have := HL.out
          rwa [List.take_of_length_le (by omega), List.take_of_length_le (by omega)] at h
        go_wp2
        go_ret
        exact ⟨ret_bool (by simp [HR.out]), by repeat (first | exact Ex.refl _ _ _ | refine Ex.drewN ?_)⟩
  · have hl1 : ((xs.length : Int) != ys.length) = true := by simp; omega
    have HR : Hid (xs ≠ ys) := fun h => hl (by rw [h])
    clear hl
    go_enter Tryz.func224, Tryz.ntmps224
    go_wp2
    go_ret
    exact ⟨ret_bool (by simp [HR.out]), Ex.refl _ _ _⟩

theorem bytes_inj {a b : ByteArray} : a.toList = b.toList ↔ a = b := by
  constructor
  · intro h
    rw [ByteArray.toList_eq, ByteArray.toList_eq] at h
    obtain ⟨⟨x⟩⟩ := a
    obtain ⟨⟨y⟩⟩ := b
    simp at h; subst h; rfl
  · rintro rfl; rfl
theorem pins_neq (y z : PinD) : ∀ w, (binOp .neq 153 (.agg (pinE y).toArray) (.agg (pinE z).toArray)).run Tryz.prog w = .ok (.bool (!decide (y = z))) w := fun w => by
  obtain ⟨y1, y2, y3⟩ := y
  obtain ⟨z1, z2, z3⟩ := z
  simp [pinE, go_sem, bytes_inj]
  by_cases h1 : y1 = z1 <;> by_cases h2 : y2 = z2 <;> by_cases h3 : y3 = z3 <;> simp [h1, h2, h3]

set_option maxHeartbeats 400000 in
theorem same03Pins_any {P Q : Nat → Prop} (v1 v2 : Value) (xs ys : List PinD) (w : World) (hv1 : Sl pinRep P w v1 xs) (hv2 : Sl pinRep Q w v2 ys) (hm : xs.length ≤ 9223372036854775807) :
    Calls Tryz.prog 225 #[v1, v2] w fun e w' => e = .returned (.bool (decide (xs = ys))) ∧ Ex w.heap.size none w w' := by
  obtain ⟨ao, cap, rfl, hx⟩ := hv1
  obtain ⟨bo, cbp, rfl, hy⟩ := hv2
  by_cases hl : xs.length = ys.length
  · have hl1 : ((xs.length : Int) != ys.length) = false := by simp [hl]
    have HL := Lib.hid hl
    go_enter Tryz.func225, Tryz.ntmps225
    clear hl
    go_wp2
    clear hl1
    go_loopw [5] (fun i wr => ∃ k : Nat, k ≤ xs.length ∧ i = .int .i64 k ∧ xs.take k = ys.take k ∧ ∃ n, w.drewN n = wr) (fun i _ => xs.length - (intOf i).toNat)
    case atStart => exact ⟨0, Nat.zero_le _, rfl, by simp, 0, rfl⟩
    case round =>
      obtain ⟨k, hk, rfl, ht, n, rfl⟩ := hrel
      have HT := Lib.hid ht
      clear ht
      by_cases hlt : k < xs.length
      · have hlt2 : k < ys.length := by have := HL.out; omega
        obtain ⟨b, off, cs, y, rfl, _, hr, hR, HY⟩ := hx.get k hlt
        obtain ⟨b', off', cs', z, rfl, _, hr', hR', HZ⟩ := hy.get k hlt2
        have c0 : ∀ q, (w.drewN q).cell? ⟨b, off + k * 3, none⟩ = some (.int .i64 y.1) := fun q => hr 0 _ (by rw [show cs = _ from hR]; rfl)
        have c1 : ∀ q, (w.drewN q).cell? ⟨b, off + k * 3 + 1, none⟩ = some (.int .i64 y.2.1) := fun q => hr 1 _ (by rw [show cs = _ from hR]; rfl)
        have c2 : ∀ q, (w.drewN q).cell? ⟨b, off + k * 3 + 2, none⟩ = some (.string y.2.2) := fun q => hr 2 _ (by rw [show cs = _ from hR]; rfl)
        have d0 : ∀ q, (w.drewN q).cell? ⟨b', off' + k * 3, none⟩ = some (.int .i64 z.1) := fun q => hr' 0 _ (by rw [show cs' = _ from hR']; rfl)
        have d1 : ∀ q, (w.drewN q).cell? ⟨b', off' + k * 3 + 1, none⟩ = some (.int .i64 z.2.1) := fun q => hr' 1 _ (by rw [show cs' = _ from hR']; rfl)
        have d2 : ∀ q, (w.drewN q).cell? ⟨b', off' + k * 3 + 2, none⟩ = some (.string z.2.2) := fun q => hr' 2 _ (by rw [show cs' = _ from hR']; rfl)
        have hne := pins_neq y z
        clear hr hR hr' hR'
        by_cases he : y = z
        · have HR := Lib.hid (same_takeG HT.out HY.out HZ.out he)
          have hne' : ∀ w, (binOp .neq 153 (.agg #[.int .i64 y.1, .int .i64 y.2.1, .string y.2.2]) (.agg #[.int .i64 z.1, .int .i64 z.2.1, .string z.2.2])).run Tryz.prog w = .ok (.bool false) w := fun w => by
            have := hne w; rw [decide_eq_true he] at this; exact this
          clear hne he
          go_wp2_with fail
          go_quiet (fail)
          go_wp2
          go_roundw
          case rel => exact ⟨k + 1, by omega, by go_num, HR.out, _, rfl⟩
          case measure => simp [intOf]; omega
        · have HR : Hid (xs ≠ ys) := fun h => he (by have := HY.out; rw [h, HZ.out] at this; cases this; rfl)
          have hne' : ∀ w, (binOp .neq 153 (.agg #[.int .i64 y.1, .int .i64 y.2.1, .string y.2.2]) (.agg #[.int .i64 z.1, .int .i64 z.2.1, .string z.2.2])).run Tryz.prog w = .ok (.bool true) w := fun w => by
            have := hne w; rw [decide_eq_false he] at this; exact this
          clear hne he
          go_wp2_with fail
          go_quiet (fail)
          go_wp2
          go_ret
          exact ⟨ret_bool (by simp [HR.out]), by repeat (first | exact Ex.refl _ _ _ | refine Ex.drewN ?_)⟩
      · have HR : Hid (xs = ys) := by
          have h := HT.out
          have := HL.out
          rwa [List.take_of_length_le (by omega), List.take_of_length_le (by omega)] at h
        go_wp2
        go_ret
        exact ⟨ret_bool (by simp [HR.out]), by repeat (first | exact Ex.refl _ _ _ | refine Ex.drewN ?_)⟩
  · have hl1 : ((xs.length : Int) != ys.length) = true := by simp; omega
    have HR : Hid (xs ≠ ys) := fun h => hl (by rw [h])
    clear hl
    go_enter Tryz.func225, Tryz.ntmps225
    go_wp2
    go_ret
    exact ⟨ret_bool (by simp [HR.out]), Ex.refl _ _ _⟩
end Go.Proofs.YtdgfankkapeclaaGreat

namespace Go.Proofs.YtdgfankkapeclaaGreat
open Go.RowKit Go.Sort

theorem seal_eql (k l : Int) (d e : ByteArray) : ∀ w, (binOp .eql 51 (.agg #[.int .i64 k, .string d]) (.agg #[.int .i64 l, .string e])).run Tryz.prog w = .ok (.bool (decide (k = l) && decide (d = e))) w := fun w => by
  simp [go_sem, bytes_inj]
  by_cases h1 : k = l <;> by_cases h2 : d = e <;> simp [h1, h2]
theorem bytes_beq {a b : ByteArray} (h : a = b) : (a == b) = true ∧ (a.toList == b.toList) = true := by
  subst h
  refine ⟨?_, by simp⟩
  rw [beq_toListBytes]; simp
theorem bytes_nbeq {a b : ByteArray} (h : ¬ a = b) : (a == b) = false ∧ (a.toList == b.toList) = false := by
  have h2 : (a.toList == b.toList) = false := by
    rw [Bool.eq_false_iff]; intro h'
    exact h (bytes_inj.1 (by simpa using h'))
  exact ⟨by rw [beq_toListBytes]; exact h2, h2⟩
theorem ex_two {w : World} (o1 o2 : Obj) : Ex w.heap.size none w ((w.alloc o1).alloc o2) := (Ex.new w o1).trans ((Ex.new _ o2).mono (by simp)) (Nat.le_refl _) (by simp)
end Go.Proofs.YtdgfankkapeclaaGreat

namespace Go.Proofs.YtdgfankkapeclaaGreat
open Go.RowKit Go.Sort

/-- A world in which no block of w has been turned. -/
structure ExW (w : World) where
  w' : World
  ex : Ex w.heap.size none w w'
instance (w : World) : Inhabited (ExW w) := ⟨⟨w, Ex.refl _ _ _⟩⟩
theorem wp_region_quiet_ex {P : Program} {id : Nat} {Q : Exit → Act → World → Prop} {a : Act} {w : World} {l : List Oper} (hm : P.follows .mixedOrders = true) (hB : Region.lexB .any l.toArray = true)
    (h : wpQuiet P l.toArray (fun v => ∃ p : ExW w, v = p.w') (fun a' => ∀ v, (∃ p : ExW w, v = p.w') → Q .normal a' v) l a) : (Code.region id l.toArray true).wp P Q a w :=
  wp_region_quiet (C := fun v => ∃ p : ExW w, v = p.w') hm hB ⟨⟨w.drew, (Ex.refl _ _ _).drew⟩, rfl⟩ (by simpa using h)
theorem calls_ex_of {P : Program} {f : FuncId} {args : Array Value} {w : World} {p : ExW w} {v : Value} (h : Calls P f args p.w' fun e w' => e = .returned v ∧ Ex p.w'.heap.size none p.w' w') : Calls P f args p.w' fun e w'' => e = .returned v ∧ ∃ q : ExW w, w'' = q.w' :=
  h.mono fun _ _ ⟨he, hx⟩ => ⟨he, ⟨_, p.ex.trans hx p.ex.size (by simp)⟩, rfl⟩
theorem ExW.lies {P : Nat → Prop} {w : World} (p : ExW w) {x : St × Sv × Sv} (h : Lies P w x) : Lies P p.w' x := h.keep fun b _ hb => p.ex.block b hb (by simp)
/-- The cells of a statement, one by one. -/
theorem st_at {w : World} {b o : Nat} {x : St × Sv × Sv} (h : w.rangeAt b o (stE x)) :
    w.cell? ⟨b, o, none⟩ = some (.int .i64 x.1.author) ∧ w.cell? ⟨b, o + 1, none⟩ = some (.int .i64 x.1.number) ∧ w.cell? ⟨b, o + 2, none⟩ = some (.string x.1.prev) ∧ w.cell? ⟨b, o + 3, none⟩ = some (.int .i64 x.1.time) ∧
    w.cell? ⟨b, o + 4, none⟩ = some (.int .i64 x.1.kind) ∧ w.cell? ⟨b, o + 5, none⟩ = some (.int .i64 x.1.a) ∧ w.cell? ⟨b, o + 6, none⟩ = some (.int .i64 x.1.b) ∧ w.cell? ⟨b, o + 7, none⟩ = some (.int .i64 x.1.c) ∧
    w.cell? ⟨b, o + 8, none⟩ = some x.2.1.v ∧ w.cell? ⟨b, o + 9, none⟩ = some x.2.2.v ∧ w.cell? ⟨b, o + 10, none⟩ = some (.string x.1.body) ∧ w.cell? ⟨b, o + 11, none⟩ = some (.int .i64 x.1.key) ∧ w.cell? ⟨b, o + 12, none⟩ = some (.string x.1.dig) :=
  ⟨h 0 _ rfl, h 1 _ rfl, h 2 _ rfl, h 3 _ rfl, h 4 _ rfl, h 5 _ rfl, h 6 _ rfl, h 7 _ rfl, h 8 _ rfl, h 9 _ rfl, h 10 _ rfl, h 11 _ rfl, h 12 _ rfl⟩
theorem ExW.st_at {w : World} {b o : Nat} {x : St × Sv × Sv} (h : w.rangeAt b o (stE x)) (p : ExW w) :
    p.w'.cell? ⟨b, o, none⟩ = some (.int .i64 x.1.author) ∧ p.w'.cell? ⟨b, o + 1, none⟩ = some (.int .i64 x.1.number) ∧ p.w'.cell? ⟨b, o + 2, none⟩ = some (.string x.1.prev) ∧ p.w'.cell? ⟨b, o + 3, none⟩ = some (.int .i64 x.1.time) ∧
    p.w'.cell? ⟨b, o + 4, none⟩ = some (.int .i64 x.1.kind) ∧ p.w'.cell? ⟨b, o + 5, none⟩ = some (.int .i64 x.1.a) ∧ p.w'.cell? ⟨b, o + 6, none⟩ = some (.int .i64 x.1.b) ∧ p.w'.cell? ⟨b, o + 7, none⟩ = some (.int .i64 x.1.c) ∧
    p.w'.cell? ⟨b, o + 8, none⟩ = some x.2.1.v ∧ p.w'.cell? ⟨b, o + 9, none⟩ = some x.2.2.v ∧ p.w'.cell? ⟨b, o + 10, none⟩ = some (.string x.1.body) ∧ p.w'.cell? ⟨b, o + 11, none⟩ = some (.int .i64 x.1.key) ∧ p.w'.cell? ⟨b, o + 12, none⟩ = some (.string x.1.dig) :=
  Go.Proofs.YtdgfankkapeclaaGreat.st_at (rangeAt_keep h (p.ex.block b (rangeAt_lt h (by rw [stE_len]; omega)) (by simp)))
end Go.Proofs.YtdgfankkapeclaaGreat

namespace Go.Proofs.YtdgfankkapeclaaGreat
open Go.RowKit Go.Sort

theorem Tryz.infoPin : (Tryz.prog.info? 153).map (fun i => (i.zero, i.size, i.bytes)) = some (some (.agg #[.int .i64 0, .int .i64 0, .string ⟨#[]⟩]), 3, 32) := by kernel_rfl
theorem ex_two0 {w : World} (o1 o2 : Obj) : Ex w.heap.size none w ((w.alloc o1).alloc o2) := (Ex.new w o1).trans ((Ex.new _ o2).mono (by simp)) (Nat.le_refl _) (by simp)
theorem ex_two_trans {w w' : World} {o1 o2 : Obj} (h : Ex ((w.alloc o1).alloc o2).heap.size none ((w.alloc o1).alloc o2) w') : Ex w.heap.size none w w' := (ex_two0 o1 o2).trans (h.mono (by simp <;> omega)) (Nat.le_refl _) (by simp)
theorem set_far {w : World} {b q o : Nat} {v : Value} {x : Option Obj} (h : b ≠ q) (e : w.heap[b]? = x) : (w.setCell ⟨q, o, none⟩ v).heap[b]? = x := (Below.heap_setCell _ _ _ _ (show b ≠ q from h)).trans e
theorem bcell {W w1 : World} (hb : Below W.heap.size W w1) : (∀ b o, b < W.heap.size → w1.cell? ⟨b, o, none⟩ = W.cell? ⟨b, o, none⟩) ∧ (∀ b o, b < W.heap.size → w1.frozen? ⟨b, o, none⟩ = W.frozen? ⟨b, o, none⟩) :=
  ⟨fun b o h => hb.cell (p := ⟨b, o, none⟩) h, fun b o h => hb.frozen (p := ⟨b, o, none⟩) h⟩
theorem own_ints_sl {w : World} {base : Nat} {ao : Option Addr} {cap : Nat} {xs : List Int} (h : OwnI w base ao cap xs) : Sl intRep (fun b => base ≤ b) w (.slice ao xs.length cap) xs :=
  ints_sl h.v (fun ao' n c e _ a ha => by cases e; exact (h.lt a ha).1)
theorem own_val_sl {α : Type} [Inhabited α] {enc : α → List Value} {k : Nat} {hk : ∀ x, (enc x).length = k} {h1 : ∀ x, ∀ v ∈ enc x, v.oneCell' = true} {w : World} {base : Nat} {e : TypeId} {ao : Option Addr} {cap : Nat} {xs : List α} (h : OwnE enc k e w base ao cap xs) : Sl (valRep enc k hk h1) (fun b => base ≤ b) w (.slice ao xs.length cap) xs := by
  refine ⟨ao, cap, rfl, ?_⟩
  rcases h.cases with ⟨_, _, h0⟩ | ⟨g, rfl, h2, _, _⟩
  · subst h0; exact SlAt.nil _ _ _
  · exact val_sl h2 (h.holds hk)

set_option maxHeartbeats 2000000 in
set_option maxRecDepth 100000 in
theorem copy03_any {P : Nat → Prop} (s : St) (lo po : Option Addr) (ln lc pn pc : Nat) (w : World) (hx1 : Sl intRep P w (.slice lo ln lc) s.list) (hx2 : Sl pinRep P w (.slice po pn pc) s.pins) (hm : s.list.length ≤ 1000000) (hm2 : s.pins.length ≤ 1000000) :
    Calls Tryz.prog 83 #[.agg #[.int .i64 s.author, .int .i64 s.number, .string s.prev, .int .i64 s.time, .int .i64 s.kind, .int .i64 s.a, .int .i64 s.b, .int .i64 s.c, .slice lo ln lc, .slice po pn pc, .string s.body, .int .i64 s.key, .string s.dig]] w fun e w' =>
      ∃ l p : Sv, e = .returned (.agg (stE (s, l, p)).toArray) ∧ Lies (fun b => w.heap.size ≤ b) w' (s, l, p) ∧ Ex w.heap.size none w w' := by
  have HX1 := Lib.hid hx1
  have HX2 := Lib.hid hx2
  obtain ⟨x0, c0, e0, r0⟩ := hx1
  obtain ⟨x1, c1, e1, r1⟩ := hx2
  clear r0 r1
  simp only [Value.slice.injEq] at e0 e1
  obtain ⟨rfl, rfl, rfl⟩ := e0
  obtain ⟨rfl, rfl, rfl⟩ := e1
  go_enter Tryz.func83, Tryz.ntmps83
  go_wp2_with (first
    | (at_builtin; refine wpList_appIs rfl (.const (.slice none 0 0)) (.tmp 4) _ rfl Tryz.underlying22 Tryz.infoInt _ none 0 [] s.list (.slice none 0 0) _ 0 rfl rfl (by rfl) (by rfl) (sl_ints (HX1.out.keep (by decide) (fun b _ hb => (ex_two0 _ _).block b hb (by simp)))) (OwnI.nil _ _) (Ex.refl _ _ _) (by simp; omega) (Nat.le_refl _) ?_; intro la lcap w1 hown1 hex1; obtain ⟨hc1, hf1⟩ := bcell hex1.below; have hz1 := hex1.size; simp at hz1; have hy1 : w.heap.size < w1.heap.size := (by omega); have hx1 : w.heap.size + 1 < w1.heap.size := (by omega); have HE1 : Hid (Ex w.heap.size none w w1) := ex_two_trans hex1; have HO1 := Lib.hid hown1; clear hown1 hex1)
    | (at_builtin
       have _tt := HE1
       refine wpList_appE rfl (.const (.slice none 0 0)) (.tmp 8) _ 153 rfl Tryz.underlying44 (.agg #[.int .i64 0, .int .i64 0, .string ⟨#[]⟩]) 3 32 Tryz.infoPin rfl (by decide) (by decide) pinE pinE_len one_pinE _ none 0 [] s.pins (.slice none 0 0) _ 0 rfl rfl (by rfl) po s.pins.length pc (by rfl) rfl rfl (val_cells (hk := pinE_len) (h1 := one_pinE) (by decide) (HX2.out.keep (by decide) (fun b _ hb => (HE1.out.setCell 8 none _ (Or.inr (Nat.le_refl _))).block b hb (by simp))).at') (OwnE.nil _ _ _ _ _) (Ex.refl _ _ _) (by simp; omega) (Nat.le_refl _) ?_
       intro pa pcap w2 hown2 hex2
       obtain ⟨hc2, hf2⟩ := bcell hex2.below
       have hz2 := hex2.size
       simp at hz2
       have hy2 : w.heap.size < w2.heap.size := (by omega)
       have hx2 : w.heap.size + 1 < w2.heap.size := (by omega)
       have HE2 : Hid (Ex w.heap.size none w w2) := ((HE1.out.setCell (q := w.heap.size) 8 none (.slice la s.list.length lcap) (Or.inr (Nat.le_refl _))).trans (hex2.mono (by simp <;> omega)) (Nat.le_refl _) (by simp))
       have HO2 := Lib.hid hown2
       have HX12 := Lib.hid hex2
       clear hown2 hex2
       have q8 : w2.cell? ⟨w.heap.size, 8, none⟩ = some (.slice la s.list.length lcap) := (hc2 w.heap.size 8 (by simpa using hy1)).trans (World.cell?_setCell_same _ _ _ (show w1.cell? ⟨w.heap.size, 8, none⟩ = some (.slice lo s.list.length lc) from (hc1 w.heap.size 8 (by simp <;> omega)).trans (by go_simp)))
       have qs := fun (o : Nat) (h : o ≠ 8) => ((hc2 w.heap.size o (by simpa using hy1)).trans (World.cell?_setCell_other _ _ _ _ (by simp <;> omega))).trans (hc1 w.heap.size o (by simp <;> omega))
       have qr := fun (o : Nat) => ((hc2 (w.heap.size + 1) o (by simpa using hx1)).trans (World.cell?_setCell_other _ _ _ _ (by simp))).trans (hc1 (w.heap.size + 1) o (by simp <;> omega))
       clear hc1 hc2))
  refine bodyPost_ret (v := .agg #[.int .i64 s.author, .int .i64 s.number, .string s.prev, .int .i64 s.time, .int .i64 s.kind, .int .i64 s.a, .int .i64 s.b, .int .i64 s.c, .slice la s.list.length lcap, .slice pa s.pins.length pcap, .string s.body, .int .i64 s.key, .string s.dig]) (by simp [results, Tryz.results83, go_sem, qr]) rfl ?_
  have hO1 : OwnI w2 (w.heap.size + 2) la lcap s.list := by
    have h1 := HO1.out
    have h2 : Ex w1.heap.size (some w.heap.size) w1 w2 := ((Ex.refl w1.heap.size (some w.heap.size) w1).setCell (q := w.heap.size) 8 none (.slice la s.list.length lcap) (Or.inl rfl)).trans HX12.out (by simp) (by simp)
    have h3 := h1.keep h2 (Nat.le_refl _) (fun q e => by cases e; simp <;> omega)
    simpa using h3
  have hO2 : OwnE pinE 3 153 w2 (w.heap.size + 2) pa pcap s.pins := by
    have h1 := HO2.out
    refine ⟨by simpa using h1.1, ?_⟩
    rcases h1.2 with h | ⟨g, cap, cur, h3, h4, h5⟩
    · exact Or.inl (by simpa using h)
    · exact Or.inr ⟨g, cap, cur, by simpa using h3, by simp at h4; omega, by simpa using h5⟩
  refine ⟨⟨la, s.list.length, lcap⟩, ⟨pa, s.pins.length, pcap⟩, rfl, ?_, ?_⟩
  · refine Lies.mono (P := fun b => w.heap.size + 2 ≤ b) (Lies.keep (w := w2) ⟨own_ints_sl hO1, own_val_sl hO2⟩ fun b hb _ => ?_) (fun b hb _ => by omega)
    iterate 14 refine set_far (by omega) ?_
    rfl
  · iterate 14 refine Ex.setCell ?_ _ none _ (Or.inr (by omega))
    exact HE2.out
end Go.Proofs.YtdgfankkapeclaaGreat

namespace Go.Proofs.YtdgfankkapeclaaGreat
open Go.RowKit

theorem ExW.cellG2 {w : World} (p : ExW w) {b o : Nat} {v : Value} (h : w.cell? ⟨b, o, none⟩ = some v) : p.w'.cell? ⟨b, o, none⟩ = some v :=
  (World.cell?_of_block (w := w) (p.ex.block b (World.block_lt_of_cell? w _ h) (by simp))).trans h
/-- Guardians that are right: the owner, how many are needed, the keys. -/
def validG (o n : Int) (g : List Int) : Bool := decide (0 ≤ o) && decide (o < 64) && decide (g.length ≤ 12) && validI g && !hasI g o && decide (1 ≤ n) && decide (n ≤ (g.length : Int))
/-- How many guardians are among voices. -/
def countG (g vs : List Int) : Nat := g.countP (hasI vs)
def enoughG (o n : Int) (g vs : List Int) : Bool := validG o n g && decide (n ≤ (countG g vs : Int))
theorem countG_len (g vs : List Int) : countG g vs ≤ g.length := List.countP_le_length
theorem countG_take {g vs : List Int} {k : Nat} {y : Int} (hk : k < g.length) (hy : g.getD k 0 = y) : countG (g.take (k + 1)) vs = countG (g.take k) vs + (if hasI vs y then 1 else 0) := by
  have e : g[k]? = some y := by
    have := hy
    simp only [List.getD_eq_getElem?_getD, List.getElem?_eq_getElem hk, Option.getD_some] at this
    rw [List.getElem?_eq_getElem hk, this]
  unfold countG
  rw [List.take_add_one, e, List.countP_append]
  simp

set_option maxHeartbeats 4000000 in
set_option maxRecDepth 100000 in
theorem refValid34_any (o n : Int) (go : Option Addr) (gn gc : Nat) (g : List Int) (w : World) (hg : IntsAt w go g) (hgn : g.length = gn) (hm : gn ≤ 1000000) :
    Calls Tryz.prog 62 #[.agg #[.int .i64 o, .int .i64 n, .slice go gn gc]] w fun e w' => e = .returned (.bool (validG o n g)) ∧ Ex w.heap.size none w w' := by
  have HI := Lib.hid hg
  have HGN := Lib.hid hgn
  clear hg hgn
  by_cases h1 : 0 ≤ o
  case neg =>
    have h1d : decide (0 ≤ o) = false := decide_eq_false h1
    have HK : Hid (validG o n g = false) := by show _ = _; simp [validG, HGN.out, h1]
    go_enter Tryz.func62, Tryz.ntmps62
    go_upto_region 1 with (fail)
    obtain ⟨w1, hw1⟩ : ∃ w1 : World, w1 = w.alloc (.cells #[.int .i64 o, .int .i64 n, .slice go gn gc] 36) := ⟨_, rfl⟩
    have HE1 : Hid (Ex w.heap.size none w w1) := Lib.hid (by rw [hw1]; exact Ex.new _ _)
    have hz1 : w.heap.size + 1 ≤ w1.heap.size := by rw [hw1]; simp
    have HC : Hid (∀ w', Ex w1.heap.size none w1 w' → w'.cell? ⟨w.heap.size, 0, none⟩ = some (.int .i64 o) ∧ w'.cell? ⟨w.heap.size, 1, none⟩ = some (.int .i64 n) ∧ w'.cell? ⟨w.heap.size, 2, none⟩ = some (.slice go gn gc)) := Lib.hid (fun w' h => by
      have k : w'.heap[w.heap.size]? = some (.cells #[.int .i64 o, .int .i64 n, .slice go gn gc] 36 (0, 0)) := (h.block w.heap.size (by omega) (by simp)).trans (by rw [hw1]; exact heap_alloc_new _ _)
      refine ⟨?_, ?_, ?_⟩ <;> (rw [cell_of_row _ _ _ _ _ _ k]; rfl))
    rw [← hw1]
    clear hw1
    obtain ⟨c0, c1, c2⟩ := HC.out _ (Ex.refl _ _ w1)
    go_wp2_with (first | fail)
    go_ret
    exact ⟨by rw [HK.out]; rfl, HE1.out⟩
  have h1d : decide (0 ≤ o) = true := decide_eq_true h1
  by_cases h2 : o < 64
  case neg =>
    have h2d : decide (o < 64) = false := decide_eq_false h2
    have HK : Hid (validG o n g = false) := by show _ = _; simp [validG, HGN.out, h2]
    go_enter Tryz.func62, Tryz.ntmps62
    go_upto_region 1 with (fail)
    obtain ⟨w1, hw1⟩ : ∃ w1 : World, w1 = w.alloc (.cells #[.int .i64 o, .int .i64 n, .slice go gn gc] 36) := ⟨_, rfl⟩
    have HE1 : Hid (Ex w.heap.size none w w1) := Lib.hid (by rw [hw1]; exact Ex.new _ _)
    have hz1 : w.heap.size + 1 ≤ w1.heap.size := by rw [hw1]; simp
    have HC : Hid (∀ w', Ex w1.heap.size none w1 w' → w'.cell? ⟨w.heap.size, 0, none⟩ = some (.int .i64 o) ∧ w'.cell? ⟨w.heap.size, 1, none⟩ = some (.int .i64 n) ∧ w'.cell? ⟨w.heap.size, 2, none⟩ = some (.slice go gn gc)) := Lib.hid (fun w' h => by
      have k : w'.heap[w.heap.size]? = some (.cells #[.int .i64 o, .int .i64 n, .slice go gn gc] 36 (0, 0)) := (h.block w.heap.size (by omega) (by simp)).trans (by rw [hw1]; exact heap_alloc_new _ _)
      refine ⟨?_, ?_, ?_⟩ <;> (rw [cell_of_row _ _ _ _ _ _ k]; rfl))
    rw [← hw1]
    clear hw1
    obtain ⟨c0, c1, c2⟩ := HC.out _ (Ex.refl _ _ w1)
    go_wp2_with (first | fail)
    go_ret
    exact ⟨by rw [HK.out]; rfl, HE1.out⟩
  have h2d : decide (o < 64) = true := decide_eq_true h2
  by_cases h3 : gn ≤ 12
  case neg =>
    have h3d : decide (gn ≤ 12) = false := decide_eq_false h3
    have HK : Hid (validG o n g = false) := by show _ = _; simp [validG, HGN.out, h3]
    go_enter Tryz.func62, Tryz.ntmps62
    go_upto_region 1 with (fail)
    obtain ⟨w1, hw1⟩ : ∃ w1 : World, w1 = w.alloc (.cells #[.int .i64 o, .int .i64 n, .slice go gn gc] 36) := ⟨_, rfl⟩
    have HE1 : Hid (Ex w.heap.size none w w1) := Lib.hid (by rw [hw1]; exact Ex.new _ _)
    have hz1 : w.heap.size + 1 ≤ w1.heap.size := by rw [hw1]; simp
    have HC : Hid (∀ w', Ex w1.heap.size none w1 w' → w'.cell? ⟨w.heap.size, 0, none⟩ = some (.int .i64 o) ∧ w'.cell? ⟨w.heap.size, 1, none⟩ = some (.int .i64 n) ∧ w'.cell? ⟨w.heap.size, 2, none⟩ = some (.slice go gn gc)) := Lib.hid (fun w' h => by
      have k : w'.heap[w.heap.size]? = some (.cells #[.int .i64 o, .int .i64 n, .slice go gn gc] 36 (0, 0)) := (h.block w.heap.size (by omega) (by simp)).trans (by rw [hw1]; exact heap_alloc_new _ _)
      refine ⟨?_, ?_, ?_⟩ <;> (rw [cell_of_row _ _ _ _ _ _ k]; rfl))
    rw [← hw1]
    clear hw1
    obtain ⟨c0, c1, c2⟩ := HC.out _ (Ex.refl _ _ w1)
    go_wp2_with (first | fail)
    go_ret
    exact ⟨by rw [HK.out]; rfl, HE1.out⟩
  have h3d : decide (gn ≤ 12) = true := decide_eq_true h3
  cases h4 : validI g
  case false =>
    have HK : Hid (validG o n g = false) := by show _ = _; simp [validG, HGN.out, h4]
    go_enter Tryz.func62, Tryz.ntmps62
    go_upto_region 1 with (fail)
    obtain ⟨w1, hw1⟩ : ∃ w1 : World, w1 = w.alloc (.cells #[.int .i64 o, .int .i64 n, .slice go gn gc] 36) := ⟨_, rfl⟩
    have HE1 : Hid (Ex w.heap.size none w w1) := Lib.hid (by rw [hw1]; exact Ex.new _ _)
    have hz1 : w.heap.size + 1 ≤ w1.heap.size := by rw [hw1]; simp
    have HC : Hid (∀ w', Ex w1.heap.size none w1 w' → w'.cell? ⟨w.heap.size, 0, none⟩ = some (.int .i64 o) ∧ w'.cell? ⟨w.heap.size, 1, none⟩ = some (.int .i64 n) ∧ w'.cell? ⟨w.heap.size, 2, none⟩ = some (.slice go gn gc)) := Lib.hid (fun w' h => by
      have k : w'.heap[w.heap.size]? = some (.cells #[.int .i64 o, .int .i64 n, .slice go gn gc] 36 (0, 0)) := (h.block w.heap.size (by omega) (by simp)).trans (by rw [hw1]; exact heap_alloc_new _ _)
      refine ⟨?_, ?_, ?_⟩ <;> (rw [cell_of_row _ _ _ _ _ _ k]; rfl))
    rw [← hw1]
    clear hw1
    obtain ⟨c0, c1, c2⟩ := HC.out _ (Ex.refl _ _ w1)
    go_wp2_with (first | (go_at_call 125; refine (asB (refValid24_any _ g w1 ⟨go, gc, by rw [HGN.out], HI.out.keep HE1.out (Nat.le_refl _) (by simp)⟩ (by rw [HGN.out]; exact hm)) h4).mono ?_; rintro e w2 ⟨rfl, hex⟩; have HE2 := Lib.hid hex; have hz2 := hex.size; clear hex c0 c1 c2; obtain ⟨c0, c1, c2⟩ := HC.out _ HE2.out) | fail)
    go_ret
    exact ⟨by rw [HK.out]; rfl, (HE1.out.trans HE2.out (by omega) (by simp))⟩
  cases h5 : hasI g o
  case true =>
    have HK : Hid (validG o n g = false) := by show _ = _; simp [validG, HGN.out, h5]
    go_enter Tryz.func62, Tryz.ntmps62
    go_upto_region 1 with (fail)
    obtain ⟨w1, hw1⟩ : ∃ w1 : World, w1 = w.alloc (.cells #[.int .i64 o, .int .i64 n, .slice go gn gc] 36) := ⟨_, rfl⟩
    have HE1 : Hid (Ex w.heap.size none w w1) := Lib.hid (by rw [hw1]; exact Ex.new _ _)
    have hz1 : w.heap.size + 1 ≤ w1.heap.size := by rw [hw1]; simp
    have HC : Hid (∀ w', Ex w1.heap.size none w1 w' → w'.cell? ⟨w.heap.size, 0, none⟩ = some (.int .i64 o) ∧ w'.cell? ⟨w.heap.size, 1, none⟩ = some (.int .i64 n) ∧ w'.cell? ⟨w.heap.size, 2, none⟩ = some (.slice go gn gc)) := Lib.hid (fun w' h => by
      have k : w'.heap[w.heap.size]? = some (.cells #[.int .i64 o, .int .i64 n, .slice go gn gc] 36 (0, 0)) := (h.block w.heap.size (by omega) (by simp)).trans (by rw [hw1]; exact heap_alloc_new _ _)
      refine ⟨?_, ?_, ?_⟩ <;> (rw [cell_of_row _ _ _ _ _ _ k]; rfl))
    rw [← hw1]
    clear hw1
    obtain ⟨c0, c1, c2⟩ := HC.out _ (Ex.refl _ _ w1)
    go_wp2_with (first | (go_at_call 125; refine (asB (refValid24_any _ g w1 ⟨go, gc, by rw [HGN.out], HI.out.keep HE1.out (Nat.le_refl _) (by simp)⟩ (by rw [HGN.out]; exact hm)) h4).mono ?_; rintro e w2 ⟨rfl, hex⟩; have HE2 := Lib.hid hex; have hz2 := hex.size; clear hex c0 c1 c2; obtain ⟨c0, c1, c2⟩ := HC.out _ HE2.out) | (go_at_call 20; refine (refHas_any _ g o w2 ⟨go, gc, by rw [HGN.out], HI.out.keep (HE1.out.trans HE2.out (by omega) (by simp)) (Nat.le_refl _) (by simp)⟩ (by rw [HGN.out]; omega)).mono ?_; rw [h5]; rintro e w3 ⟨rfl, rfl⟩) | fail)
    go_ret
    exact ⟨by rw [HK.out]; rfl, (HE1.out.trans HE2.out (by omega) (by simp))⟩
  by_cases h6 : 1 ≤ n
  case neg =>
    have h6d : decide (1 ≤ n) = false := decide_eq_false h6
    have HK : Hid (validG o n g = false) := by show _ = _; simp [validG, HGN.out, h6]
    go_enter Tryz.func62, Tryz.ntmps62
    go_upto_region 1 with (fail)
    obtain ⟨w1, hw1⟩ : ∃ w1 : World, w1 = w.alloc (.cells #[.int .i64 o, .int .i64 n, .slice go gn gc] 36) := ⟨_, rfl⟩
    have HE1 : Hid (Ex w.heap.size none w w1) := Lib.hid (by rw [hw1]; exact Ex.new _ _)
    have hz1 : w.heap.size + 1 ≤ w1.heap.size := by rw [hw1]; simp
    have HC : Hid (∀ w', Ex w1.heap.size none w1 w' → w'.cell? ⟨w.heap.size, 0, none⟩ = some (.int .i64 o) ∧ w'.cell? ⟨w.heap.size, 1, none⟩ = some (.int .i64 n) ∧ w'.cell? ⟨w.heap.size, 2, none⟩ = some (.slice go gn gc)) := Lib.hid (fun w' h => by
      have k : w'.heap[w.heap.size]? = some (.cells #[.int .i64 o, .int .i64 n, .slice go gn gc] 36 (0, 0)) := (h.block w.heap.size (by omega) (by simp)).trans (by rw [hw1]; exact heap_alloc_new _ _)
      refine ⟨?_, ?_, ?_⟩ <;> (rw [cell_of_row _ _ _ _ _ _ k]; rfl))
    rw [← hw1]
    clear hw1
    obtain ⟨c0, c1, c2⟩ := HC.out _ (Ex.refl _ _ w1)
    go_wp2_with (first | (go_at_call 125; refine (asB (refValid24_any _ g w1 ⟨go, gc, by rw [HGN.out], HI.out.keep HE1.out (Nat.le_refl _) (by simp)⟩ (by rw [HGN.out]; exact hm)) h4).mono ?_; rintro e w2 ⟨rfl, hex⟩; have HE2 := Lib.hid hex; have hz2 := hex.size; clear hex c0 c1 c2; obtain ⟨c0, c1, c2⟩ := HC.out _ HE2.out) | (go_at_call 20; refine (refHas_any _ g o w2 ⟨go, gc, by rw [HGN.out], HI.out.keep (HE1.out.trans HE2.out (by omega) (by simp)) (Nat.le_refl _) (by simp)⟩ (by rw [HGN.out]; omega)).mono ?_; rw [h5]; rintro e w3 ⟨rfl, rfl⟩) | fail)
    go_ret
    exact ⟨by rw [HK.out]; rfl, (HE1.out.trans HE2.out (by omega) (by simp))⟩
  have h6d : decide (1 ≤ n) = true := decide_eq_true h6
  by_cases h7 : n ≤ (gn : Int)
  case neg =>
    have h7d : decide (n ≤ (gn : Int)) = false := decide_eq_false h7
    have HK : Hid (validG o n g = false) := by show _ = _; simp [validG, HGN.out, h7]
    go_enter Tryz.func62, Tryz.ntmps62
    go_upto_region 1 with (fail)
    obtain ⟨w1, hw1⟩ : ∃ w1 : World, w1 = w.alloc (.cells #[.int .i64 o, .int .i64 n, .slice go gn gc] 36) := ⟨_, rfl⟩
    have HE1 : Hid (Ex w.heap.size none w w1) := Lib.hid (by rw [hw1]; exact Ex.new _ _)
    have hz1 : w.heap.size + 1 ≤ w1.heap.size := by rw [hw1]; simp
    have HC : Hid (∀ w', Ex w1.heap.size none w1 w' → w'.cell? ⟨w.heap.size, 0, none⟩ = some (.int .i64 o) ∧ w'.cell? ⟨w.heap.size, 1, none⟩ = some (.int .i64 n) ∧ w'.cell? ⟨w.heap.size, 2, none⟩ = some (.slice go gn gc)) := Lib.hid (fun w' h => by
      have k : w'.heap[w.heap.size]? = some (.cells #[.int .i64 o, .int .i64 n, .slice go gn gc] 36 (0, 0)) := (h.block w.heap.size (by omega) (by simp)).trans (by rw [hw1]; exact heap_alloc_new _ _)
      refine ⟨?_, ?_, ?_⟩ <;> (rw [cell_of_row _ _ _ _ _ _ k]; rfl))
    rw [← hw1]
    clear hw1
    obtain ⟨c0, c1, c2⟩ := HC.out _ (Ex.refl _ _ w1)
    go_wp2_with (first | (go_at_call 125; refine (asB (refValid24_any _ g w1 ⟨go, gc, by rw [HGN.out], HI.out.keep HE1.out (Nat.le_refl _) (by simp)⟩ (by rw [HGN.out]; exact hm)) h4).mono ?_; rintro e w2 ⟨rfl, hex⟩; have HE2 := Lib.hid hex; have hz2 := hex.size; clear hex c0 c1 c2; obtain ⟨c0, c1, c2⟩ := HC.out _ HE2.out) | (go_at_call 20; refine (refHas_any _ g o w2 ⟨go, gc, by rw [HGN.out], HI.out.keep (HE1.out.trans HE2.out (by omega) (by simp)) (Nat.le_refl _) (by simp)⟩ (by rw [HGN.out]; omega)).mono ?_; rw [h5]; rintro e w3 ⟨rfl, rfl⟩) | fail)
    go_ret
    exact ⟨by rw [HK.out]; rfl, (HE1.out.trans HE2.out (by omega) (by simp))⟩
  have h7d : decide (n ≤ (gn : Int)) = true := decide_eq_true h7
  have HK : Hid (validG o n g = true) := by show _ = _; simp [validG, HGN.out, h1, h2, h3, h4, h5, h6, h7]
  go_enter Tryz.func62, Tryz.ntmps62
  go_upto_region 1 with (fail)
  obtain ⟨w1, hw1⟩ : ∃ w1 : World, w1 = w.alloc (.cells #[.int .i64 o, .int .i64 n, .slice go gn gc] 36) := ⟨_, rfl⟩
  have HE1 : Hid (Ex w.heap.size none w w1) := Lib.hid (by rw [hw1]; exact Ex.new _ _)
  have hz1 : w.heap.size + 1 ≤ w1.heap.size := by rw [hw1]; simp
  have HC : Hid (∀ w', Ex w1.heap.size none w1 w' → w'.cell? ⟨w.heap.size, 0, none⟩ = some (.int .i64 o) ∧ w'.cell? ⟨w.heap.size, 1, none⟩ = some (.int .i64 n) ∧ w'.cell? ⟨w.heap.size, 2, none⟩ = some (.slice go gn gc)) := Lib.hid (fun w' h => by
    have k : w'.heap[w.heap.size]? = some (.cells #[.int .i64 o, .int .i64 n, .slice go gn gc] 36 (0, 0)) := (h.block w.heap.size (by omega) (by simp)).trans (by rw [hw1]; exact heap_alloc_new _ _)
    refine ⟨?_, ?_, ?_⟩ <;> (rw [cell_of_row _ _ _ _ _ _ k]; rfl))
  rw [← hw1]
  clear hw1
  obtain ⟨c0, c1, c2⟩ := HC.out _ (Ex.refl _ _ w1)
  go_wp2_with (first | (go_at_call 125; refine (asB (refValid24_any _ g w1 ⟨go, gc, by rw [HGN.out], HI.out.keep HE1.out (Nat.le_refl _) (by simp)⟩ (by rw [HGN.out]; exact hm)) h4).mono ?_; rintro e w2 ⟨rfl, hex⟩; have HE2 := Lib.hid hex; have hz2 := hex.size; clear hex c0 c1 c2; obtain ⟨c0, c1, c2⟩ := HC.out _ HE2.out) | (go_at_call 20; refine (refHas_any _ g o w2 ⟨go, gc, by rw [HGN.out], HI.out.keep (HE1.out.trans HE2.out (by omega) (by simp)) (Nat.le_refl _) (by simp)⟩ (by rw [HGN.out]; omega)).mono ?_; rw [h5]; rintro e w3 ⟨rfl, rfl⟩) | fail)
  go_ret
  exact ⟨by rw [HK.out]; rfl, (HE1.out.trans HE2.out (by omega) (by simp))⟩

set_option maxHeartbeats 4000000 in
set_option maxRecDepth 100000 in
theorem refVoices34_any (o n : Int) (go : Option Addr) (gn gc : Nat) (g : List Int) (v : Value) (vs : List Int) (w : World) (hg : IntsAt w go g) (hgn : g.length = gn) (hm : gn ≤ 1000000) (hv : Ints w v vs) (hvm : vs.length ≤ 1000000) :
    Calls Tryz.prog 63 #[.agg #[.int .i64 o, .int .i64 n, .slice go gn gc], v] w fun e w' => e = .returned (.int .i64 (countG g vs)) ∧ Ex w.heap.size none w w' := by
  have HGN := Lib.hid hgn
  have HGI : Hid (∀ w', Ex w.heap.size none w w' → IntsAt w' go g) := Lib.hid (fun w' h => hg.keep h (Nat.le_refl _) (by simp))
  have HVI : Hid (∀ w', Ex w.heap.size none w w' → Ints w' v vs) := Lib.hid (fun w' h => hv.keep h (Nat.le_refl _))
  clear hg hgn hv
  go_enter Tryz.func63, Tryz.ntmps63
  go_upto_region 1 with (fail)
  obtain ⟨w1, hw1⟩ : ∃ w1 : World, w1 = w.alloc (.cells #[.int .i64 o, .int .i64 n, .slice go gn gc] 36) := ⟨_, rfl⟩
  have HE1 : Hid (Ex w.heap.size none w w1) := Lib.hid (by rw [hw1]; exact Ex.new _ _)
  have hz1 : w.heap.size + 1 ≤ w1.heap.size := by rw [hw1]; simp
  have HC : Hid (∀ w', Ex w1.heap.size none w1 w' → w'.cell? ⟨w.heap.size, 0, none⟩ = some (.int .i64 o) ∧ w'.cell? ⟨w.heap.size, 1, none⟩ = some (.int .i64 n) ∧ w'.cell? ⟨w.heap.size, 2, none⟩ = some (.slice go gn gc)) := Lib.hid (fun w' h => by
    have k : w'.heap[w.heap.size]? = some (.cells #[.int .i64 o, .int .i64 n, .slice go gn gc] 36 (0, 0)) := (h.block w.heap.size (by omega) (by simp)).trans (by rw [hw1]; exact heap_alloc_new _ _)
    refine ⟨?_, ?_, ?_⟩ <;> (rw [cell_of_row _ _ _ _ _ _ k]; rfl))
  rw [← hw1]
  clear hw1
  obtain ⟨c0, c1, c2⟩ := HC.out _ (Ex.refl _ _ w1)
  go_wp2_with fail
  go_loop [5, 6] (fun c i => ∃ k j : Nat, k ≤ gn ∧ j ≤ k ∧ i = .int .i64 k ∧ c = .int .i64 j ∧ Hid (countG (g.take k) vs = j)) (fun _ i => gn - (intOf i).toNat)
  case atStart => exact ⟨0, 0, Nat.zero_le _, Nat.le_refl _, rfl, rfl, Lib.hid rfl⟩
  case round =>
    obtain ⟨k, j, hk, hj, rfl, rfl, HJ⟩ := hrel
    by_cases hlt : k < gn
    · have hltI : (k : Int) < (gn : Int) := by omega
      obtain ⟨b, off, y, rfl, cy, HY⟩ := (HGI.out _ HE1.out).get k (by rw [HGN.out]; exact hlt)
      have HT := Lib.hid (countG_take (vs := vs) (by rw [HGN.out]; exact hlt) HY.out)
      cases hb : hasI vs y with
      | true =>
        have HN : Hid (countG (g.take (k + 1)) vs = j + 1) := by show _ = _; rw [HT.out, HJ.out, hb]; rfl
        go_wp2_with (first | (go_at_call 20; refine (refHas_any _ vs y w1 (HVI.out _ HE1.out) (by omega)).mono ?_; rw [hb]; rintro e w3 ⟨rfl, rfl⟩) | fail)
        go_round
        case rel => exact ⟨k + 1, j + 1, by omega, by omega, by go_num, by go_num, HN⟩
        case measure => simp [intOf] <;> omega
      | false =>
        have HN : Hid (countG (g.take (k + 1)) vs = j) := by show _ = _; rw [HT.out, HJ.out, hb]; rfl
        go_wp2_with (first | (go_at_call 20; refine (refHas_any _ vs y w1 (HVI.out _ HE1.out) (by omega)).mono ?_; rw [hb]; rintro e w3 ⟨rfl, rfl⟩) | fail)
        go_round
        case rel => exact ⟨k + 1, j, by omega, by omega, by go_num, rfl, HN⟩
        case measure => simp [intOf] <;> omega
    · have hltI : ¬ (k : Int) < (gn : Int) := by omega
      have HR : Hid (countG g vs = j) := by
        have h := HJ.out
        rwa [List.take_of_length_le (by rw [HGN.out]; omega)] at h
      go_wp2
      go_ret
      exact ⟨by rw [HR.out]; rfl, HE1.out⟩

set_option maxHeartbeats 4000000 in
set_option maxRecDepth 100000 in
theorem refEnough_any (o n : Int) (go : Option Addr) (gn gc : Nat) (g : List Int) (v : Value) (vs : List Int) (w : World) (hg : IntsAt w go g) (hgn : g.length = gn) (hm : gn ≤ 1000000) (hv : Ints w v vs) (hvm : vs.length ≤ 1000000) :
    Calls Tryz.prog 16 #[.agg #[.int .i64 o, .int .i64 n, .slice go gn gc], v] w fun e w' => e = .returned (.bool (enoughG o n g vs)) ∧ Ex w.heap.size none w w' := by
  have HGN := Lib.hid hgn
  have HGI : Hid (∀ w', Ex w.heap.size none w w' → IntsAt w' go g) := Lib.hid (fun w' h => hg.keep h (Nat.le_refl _) (by simp))
  have HVI : Hid (∀ w', Ex w.heap.size none w w' → Ints w' v vs) := Lib.hid (fun w' h => hv.keep h (Nat.le_refl _))
  clear hg hgn hv
  obtain ⟨bv, hbv⟩ : ∃ bv, bv = validG o n g := ⟨_, rfl⟩
  obtain ⟨cv, hcv⟩ : ∃ cv, cv = countG g vs := ⟨_, rfl⟩
  have HB := Lib.hid hbv
  have HCV := Lib.hid hcv
  clear hbv hcv
  go_enter Tryz.func16, Tryz.ntmps16
  go_upto_region 1 with (fail)
  obtain ⟨w1, hw1⟩ : ∃ w1 : World, w1 = w.alloc (.cells #[.int .i64 o, .int .i64 n, .slice go gn gc] 36) := ⟨_, rfl⟩
  have HE1 : Hid (Ex w.heap.size none w w1) := Lib.hid (by rw [hw1]; exact Ex.new _ _)
  have hz1 : w.heap.size + 1 ≤ w1.heap.size := by rw [hw1]; simp
  have HC : Hid (∀ w', Ex w1.heap.size none w1 w' → w'.cell? ⟨w.heap.size, 0, none⟩ = some (.int .i64 o) ∧ w'.cell? ⟨w.heap.size, 1, none⟩ = some (.int .i64 n) ∧ w'.cell? ⟨w.heap.size, 2, none⟩ = some (.slice go gn gc)) := Lib.hid (fun w' h => by
    have k : w'.heap[w.heap.size]? = some (.cells #[.int .i64 o, .int .i64 n, .slice go gn gc] 36 (0, 0)) := (h.block w.heap.size (by omega) (by simp)).trans (by rw [hw1]; exact heap_alloc_new _ _)
    refine ⟨?_, ?_, ?_⟩ <;> (rw [cell_of_row _ _ _ _ _ _ k]; rfl))
  rw [← hw1]
  clear hw1
  obtain ⟨c0, c1, c2⟩ := HC.out _ (Ex.refl _ _ w1)
  have H1 : Hid (∀ p : ExW w1, Calls Tryz.prog 62 #[.agg #[.int .i64 o, .int .i64 n, .slice go gn gc]] p.w' fun e w' => e = .returned (.bool bv) ∧ Ex p.w'.heap.size none p.w' w') := Lib.hid (fun p => (refValid34_any o n go gn gc g p.w' (HGI.out _ (HE1.out.trans p.ex (by omega) (by simp))) HGN.out hm).mono fun e w' h => ⟨by rw [h.1, HB.out], h.2⟩)
  have H2 : Hid (∀ p : ExW w1, Calls Tryz.prog 63 #[.agg #[.int .i64 o, .int .i64 n, .slice go gn gc], v] p.w' fun e w' => e = .returned (.int .i64 cv) ∧ Ex p.w'.heap.size none p.w' w') := Lib.hid (fun p => (refVoices34_any o n go gn gc g v vs p.w' (HGI.out _ (HE1.out.trans p.ex (by omega) (by simp))) HGN.out hm (HVI.out _ (HE1.out.trans p.ex (by omega) (by simp))) hvm).mono fun e w' h => ⟨by rw [h.1, HCV.out], h.2⟩)
  have g0 := fun p : ExW w1 => p.cellG2 c0
  have g1 := fun p : ExW w1 => p.cellG2 c1
  have g2 := fun p : ExW w1 => p.cellG2 c2
  clear c0 c1 c2
  cases hbb : bv with
  | false =>
    rw [hbb] at H1
    have HK : Hid (enoughG o n g vs = false) := by show _ = _; rw [enoughG, ← HB.out, hbb]; rfl
    clear hbb
    go_upto_region 1 with (fail)
    refine wp_region_quiet_ex (by kernel_rfl) (by kernel_rfl) ?_
    repeat (go_big_quiet_step (first | (go_at_call 62; refine calls_ex_of (H1.out _)) | (go_at_call 63; refine calls_ex_of (H2.out _)) | fail))
    refine wpQuiet_nil ?_
    intro _ hw'
    obtain ⟨p9, hw''⟩ := hw'
    subst hw''
    clear g0 g1 g2
    go_wp2
    go_ret
    exact ⟨by rw [HK.out]; rfl, HE1.out.trans p9.ex (by omega) (by simp)⟩
  | true =>
    rw [hbb] at H1
    have HK : Hid (enoughG o n g vs = decide (n ≤ (cv : Int))) := by show _ = _; rw [enoughG, ← HB.out, hbb, ← HCV.out]; rfl
    clear hbb
    go_upto_region 1 with (fail)
    refine wp_region_quiet_ex (by kernel_rfl) (by kernel_rfl) ?_
    repeat (go_big_quiet_step (first | (go_at_call 62; refine calls_ex_of (H1.out _)) | (go_at_call 63; refine calls_ex_of (H2.out _)) | fail))
    refine wpQuiet_nil ?_
    intro _ hw'
    obtain ⟨p9, hw''⟩ := hw'
    subst hw''
    clear g0 g1 g2
    go_wp2
    go_ret
    exact ⟨by rw [HK.out]; rfl, HE1.out.trans p9.ex (by omega) (by simp)⟩
end Go.Proofs.YtdgfankkapeclaaGreat

namespace Go.Proofs.YtdgfankkapeclaaGreat
open Go.RowKit Go.Sort

theorem set3g {w : World} {g : Nat} {x y z a b c : Value} {t : TypeId} (h : w.heap[g]? = some (.cells #[x, y, z] t (0, 0))) : (((w.setCell ⟨g, 0, none⟩ a).setCell ⟨g, 1, none⟩ b).setCell ⟨g, 2, none⟩ c).heap[g]? = some (.cells #[a, b, c] t (0, 0)) := by
  rw [heap_setCell_same _ _ _ _ _ _ (heap_setCell_same _ _ _ _ _ _ (heap_setCell_same _ _ _ _ _ _ h))]; rfl
theorem set6g {w : World} {g : Nat} {x0 x1 x2 x3 x4 x5 : Value} {t : TypeId} (h : w.heap[g]? = some (.cells #[x0, x1, x2, x3, x4, x5] t (0, 0))) (a b c d e f : Value) : ((((((w.setCell ⟨g, 0, none⟩ a).setCell ⟨g, 1, none⟩ b).setCell ⟨g, 2, none⟩ c).setCell ⟨g, 3, none⟩ d).setCell ⟨g, 4, none⟩ e).setCell ⟨g, 5, none⟩ f).heap[g]? = some (.cells #[a, b, c, d, e, f] t (0, 0)) := by
  rw [heap_setCell_same _ _ _ _ _ _ (heap_setCell_same _ _ _ _ _ _ (heap_setCell_same _ _ _ _ _ _ (heap_setCell_same _ _ _ _ _ _ (heap_setCell_same _ _ _ _ _ _ (heap_setCell_same _ _ _ _ _ _ h)))))]; rfl
theorem cell_lt {w : World} {g i : Nat} {v : Value} (h : w.cell? ⟨g, i, none⟩ = some v) : g < w.heap.size := World.block_lt_of_cell? w _ h
theorem row_frozen_g {w : World} {g i : Nat} {cs : Array Value} {t : TypeId} (h : w.heap[g]? = some (.cells cs t (0, 0))) : w.frozen? ⟨g, i, none⟩ = false := by
  unfold World.frozen?
  dsimp only
  rw [h]
  simp
end Go.Proofs.YtdgfankkapeclaaGreat

namespace Go.Proofs.YtdgfankkapeclaaGreat
open Go.RowKit Go.Sort

structure LayHeir (P : Program) (k : Nat) : Prop where
  mixed : P.follows .mixedOrders = true
  fS : P.funcs[317]? = some Tryz.f317
  fR : P.funcs[295]? = some Tryz.f295
  fM : P.funcs[269]? = some Tryz.f269
  fT : P.funcs[204]? = some Tryz.f204
  fI : ∀ args w, (callFunc 268 args).run P w = .ok (.enter 268 args) w
  t0 : P.underlying 0 = some (TypeDesc.tuple #[])
  a0 : ∀ w, (isAgg 0).run P w = .ok false w
  z0 : ∀ w, (Go.sizeOf 0).run P w = .ok 1 w
  v0 : ∀ w, (zeroValue 0).run P w = .ok (Value.tuple #[]) w
  t1 : P.underlying 3 = some (TypeDesc.int IntKind.i64)
  a1 : ∀ w, (isAgg 3).run P w = .ok false w
  z1 : ∀ w, (Go.sizeOf 3).run P w = .ok 1 w
  v1 : ∀ w, (zeroValue 3).run P w = .ok (Value.int IntKind.i64 0) w
  t2 : P.underlying 4 = some (TypeDesc.bool)
  a2 : ∀ w, (isAgg 4).run P w = .ok false w
  z2 : ∀ w, (Go.sizeOf 4).run P w = .ok 1 w
  v2 : ∀ w, (zeroValue 4).run P w = .ok (Value.bool false) w
  t3 : P.underlying 163 = some (TypeDesc.int IntKind.u64)
  a3 : ∀ w, (isAgg 163).run P w = .ok false w
  z3 : ∀ w, (Go.sizeOf 163).run P w = .ok 1 w
  v3 : ∀ w, (zeroValue 163).run P w = .ok (Value.int IntKind.u64 0) w
  t4 : P.underlying 31 = some (TypeDesc.slice 34)
  a4 : ∀ w, (isAgg 31).run P w = .ok false w
  z4 : ∀ w, (Go.sizeOf 31).run P w = .ok 1 w
  v4 : ∀ w, (zeroValue 31).run P w = .ok (Value.slice none 0 0) w
  t5 : P.underlying 165 = some (TypeDesc.func #[34, 34] #[3] false)
  a5 : ∀ w, (isAgg 165).run P w = .ok false w
  z5 : ∀ w, (Go.sizeOf 165).run P w = .ok 1 w
  v5 : ∀ w, (zeroValue 165).run P w = .ok (Value.nilFunc) w
  aE : ∀ w, (isAgg 34).run P w = .ok true w
  zE : ∀ w, (Go.sizeOf 34).run P w = .ok k w

theorem layHeir : LayHeir Tryz.prog 2 := {
  mixed := by kernel_rfl
  fS := Tryz.func317
  fR := Tryz.func295
  fM := Tryz.func269
  fT := Tryz.func204
  fI := enters_of Tryz.func268 (by kernel_rfl) rfl
  t0 := Tryz.underlying0
  a0 := Tryz.isAgg0
  z0 := Tryz.sizeOf0
  v0 := Tryz.zeroValue0
  t1 := Tryz.underlying3
  a1 := Tryz.isAgg3
  z1 := Tryz.sizeOf3
  v1 := Tryz.zeroValue3
  t2 := Tryz.underlying4
  a2 := Tryz.isAgg4
  z2 := Tryz.sizeOf4
  v2 := Tryz.zeroValue4
  t3 := Tryz.underlying163
  a3 := Tryz.isAgg163
  z3 := Tryz.sizeOf163
  v3 := Tryz.zeroValue163
  t4 := Tryz.underlying31
  a4 := Tryz.isAgg31
  z4 := Tryz.sizeOf31
  v4 := Tryz.zeroValue31
  t5 := Tryz.underlying165
  a5 := Tryz.isAgg165
  z5 := Tryz.sizeOf165
  v5 := Tryz.zeroValue165
  aE := Tryz.isAgg34
  zE := Tryz.sizeOf34 }
end Go.Proofs.YtdgfankkapeclaaGreat

namespace Go.Proofs.YtdgfankkapeclaaGreat
open Go.RowKit Go.Sort
variable {P : Program} {α : Type} [Inhabited α]

/-- What is asked of a comparing function: with two aggregates it hands back 'cf x y'; it may draw, and lay blocks of its own. -/
def CmpAt (P : Program) (f : Nat) (cb : Array Value) (enc : α → List Value) (cf : α → α → Int) : Prop :=
  ∀ (w : World) (x y : α), Calls P f (#[.agg (enc x).toArray, .agg (enc y).toArray] ++ cb) w fun e w' => e = .returned (.int .i64 (cf x y)) ∧ ∃ q os', w' = grow (w.drewN q) os'
theorem ex_grow' {B : Nat} {w : World} (q : Nat) (os : Array Obj) (p : Option Nat) (hB : B ≤ w.heap.size) : Ex B p w (grow (w.drewN q) os) :=
  ⟨rfl, rfl, rfl, by rw [size_grow]; exact Nat.le_add_right _ _, fun k hk _ => heap_grow_old (w.drewN q) os (by exact Nat.lt_of_lt_of_le hk hB)⟩

set_option maxHeartbeats 8000000 in
set_option maxRecDepth 1000000 in
theorem symOneHeir {k : Nat} (L : LayHeir P k) (enc : α → List Value) (hk : ∀ x, (enc x).length = k) (h1 : ∀ x, ∀ v ∈ enc x, v.oneCell' = true) (cf : α → α → Int) (hS : SWO (ltOf cf)) (f : Nat) (cb : Array Value)
    (ef : ∀ args w, (callFunc f args).run P w = .ok (.enter f args) w) (hcmp : CmpAt P f cb enc cf) (g off cap a m b s : Nat) (A M B : Int) (hA : (a : Int) = A) (hM : (m : Int) = M) (hB : (b : Int) = B) (d : Array α) (w : World) (hH : HoldsK enc k w g off d) (hg : g < w.heap.size) (ham : a < m) (hmb : m < b) (hb : b ≤ d.size) (hsz : d.size < 4611686018427387904) (hs : d.size = s)
    (r1 : SortedIn (ltOf cf) a m d) (r2 : SortedIn (ltOf cf) m b d) (hone : m = a + 1) :
    Calls P 269 #[.slice (some ⟨g, off, none⟩) s cap, .int .i64 A, .int .i64 M, .int .i64 B, .func (.func f) #[] cb] w fun e w' =>
      e = .returned (.tuple #[]) ∧ ∃ d', HoldsK enc k w' g off d' ∧ SM (ltOf cf) a b d d' ∧ SortedIn (ltOf cf) a b d' ∧ Ex w.heap.size (some g) w w' := by
  subst hA hM hB hs
  have mixed := L.mixed; have t0 := L.t0; have a0 := L.a0; have z0 := L.z0; have v0 := L.v0; have t1 := L.t1; have a1 := L.a1; have z1 := L.z1; have v1 := L.v1; have t2 := L.t2; have a2 := L.a2; have z2 := L.z2; have v2 := L.v2; have t3 := L.t3; have a3 := L.a3; have z3 := L.z3; have v3 := L.v3; have t4 := L.t4; have a4 := L.a4; have z4 := L.z4; have v4 := L.v4; have t5 := L.t5; have a5 := L.a5; have z5 := L.z5; have v5 := L.v5; have aE := L.aE; have zE := L.zE
  have u4 := run_underlying L.t4
  have HK := Lib.hid hk
  have H1 := Lib.hid h1
  have HC := Lib.hid hcmp
  have HHw := Lib.hid hH
  have HS := Lib.hid hS
  have HR1 := Lib.hid r1
  have HR2 := Lib.hid r2
  clear hk h1 hcmp hH hS r1 r2
  have hd : (((m : Int) - a) == 1) = true := by simp; omega
  have HO := Lib.hid hone
  clear hone
  have hma : m ≤ a + 1 := by have := HO.out; omega
  go_enter L.fM, Tryz.ntmps269
  go_wp2
  go_loopw [10, 11] (fun vi vj wr => ∃ (i j : Nat), vi = .int .i64 i ∧ vj = .int .i64 j ∧ m ≤ i ∧ i ≤ j ∧ j ≤ b ∧ HoldsK enc k wr g off d ∧ OneLo (ltOf cf) d a i ∧ OneHi (ltOf cf) d a j b ∧ Ex w.heap.size (some g) w wr) (fun vi vj _ => (intOf vj - intOf vi).toNat)
  case atStart => exact ⟨m, b, rfl, rfl, Nat.le_refl _, by omega, Nat.le_refl _, HHw.out, fun h h1 h2 => by omega, fun h h1 h2 => by omega, Ex.refl _ _ _⟩
  case round =>
    obtain ⟨i, j, rfl, rfl, hmi, hij, hjb, hHk, hlo, hhi, hex⟩ := hrel
    have HHk := Lib.hid hHk
    have HLo := Lib.hid hlo
    have HHi := Lib.hid hhi
    clear hHk hlo hhi
    have hsz' := hex.size
    by_cases hlt : (i : Int) < j
    · obtain ⟨h, hh⟩ : ∃ h, h = (i + j) / 2 := ⟨_, rfl⟩
      have h1 : i ≤ h := by omega
      have h2 : h < j := by omega
      have e1 : ((i : Int) + j) / 2 = (h : Int) := by omega
      clear hh
      have hHc : ∀ n' os', HoldsK enc k (grow (wr.drewN n') os') g off d := fun n' os' => holdsK_grow enc k _ os' g off d (by show g < wr.heap.size; omega) (show HoldsK enc k (wr.drewN n') g off d from HHk.out)
      obtain ⟨vh, hvh⟩ : ∃ v, d[h]! = v := ⟨_, rfl⟩
      obtain ⟨va, hva⟩ : ∃ v, d[a]! = v := ⟨_, rfl⟩
      have l1 : ∀ n' os', Sem.run P (loadCellsFrom ⟨g, off + h * k, none⟩ 0 k #[]) (grow (wr.drewN n') os') = .ok (enc vh).toArray (grow (wr.drewN n') os') := fun n' os' => by
        rw [← hvh]; exact run_loadCellsFrom_list P _ _ _ k (HK.out _) (HoldsK.cells (hHc n' os') HK.out (by omega))
      have l2 : ∀ n' os', Sem.run P (loadCellsFrom ⟨g, off + a * k, none⟩ 0 k #[]) (grow (wr.drewN n') os') = .ok (enc va).toArray (grow (wr.drewN n') os') := fun n' os' => by
        rw [← hva]; exact run_loadCellsFrom_list P _ _ _ k (HK.out _) (HoldsK.cells (hHc n' os') HK.out (by omega))
      have hcg : ∀ n' os', Calls P f (#[.agg (enc vh).toArray, .agg (enc va).toArray] ++ cb) (grow (wr.drewN n') os') fun e w' => e = .returned (.int .i64 (cf vh va)) ∧ ∃ q os'', w' = grow ((grow (wr.drewN n') os').drewN q) os'' := fun n' os' => HC.out _ _ _
      have HV : Hid (d[h]! = vh ∧ d[a]! = va) := ⟨hvh, hva⟩
      clear hHc hvh hva
      have b1 : (h : Int) < d.size := by omega
      have b2 : (a : Int) < d.size := by omega
      by_cases hlv : cf vh va < 0
      · go_wp2_with fail
        go_quiet_grown (first | (go_at_fn f; refine Calls.grown_of (hcg _ _)))
        go_wp2
        go_roundw
        case rel => exact ⟨h + 1, j, by go_num, rfl, by omega, by omega, hjb, holdsK_grow enc k _ _ g off d (by show g < wr.heap.size; omega) (show HoldsK enc k (wr.drewN nq) g off d from HHk.out), OneLo.step HS.out (b := b) (by have := HR2.out; rwa [HO.out] at this) (by omega) (by rw [HV.out.1, HV.out.2]; exact decide_eq_true hlv), HHi.out, hex.trans (ex_grow' nq osq none (Nat.le_refl _)) hsz' (by simp)⟩
        case measure => simp [intOf]; omega
      · go_wp2_with fail
        go_quiet_grown (first | (go_at_fn f; refine Calls.grown_of (hcg _ _)))
        go_wp2
        go_roundw
        case rel => exact ⟨i, h, rfl, rfl, hmi, h1, by omega, holdsK_grow enc k _ _ g off d (by show g < wr.heap.size; omega) (show HoldsK enc k (wr.drewN nq) g off d from HHk.out), HLo.out, OneHi.step HS.out (b := b) (by have := HR2.out; rwa [HO.out] at this) (by omega) (by rw [HV.out.1, HV.out.2]; exact decide_eq_false (fun hx => by omega)), hex.trans (ex_grow' nq osq none (Nat.le_refl _)) hsz' (by simp)⟩
        case measure => simp [intOf]; omega
    · obtain rfl : i = j := by omega
      obtain ⟨w0, rfl⟩ : ∃ w0 : World, w0 = wr := ⟨_, rfl⟩
      go_wp2
      go_loopw [13] (fun vk wr => ∃ (t : Nat) (dk : Array α), vk = .int .i64 t ∧ a ≤ t ∧ t + 1 ≤ i ∧ HoldsK enc k wr g off dk ∧ By (rotIx a (a + 1) (t + 1)) d dk ∧ Ex w.heap.size (some g) w wr) (fun vk _ => i - (intOf vk).toNat)
      case atStart => exact ⟨a, d, rfl, Nat.le_refl _, by omega, HHk.out, By.refl _ _ (fun t _ => rotIx_id (by omega) (by omega) (Or.inr rfl)), hex⟩
      case round =>
        clear HHk hex hsz'
        obtain ⟨t, dk, rfl, hat, hti, hHk, hby, hex⟩ := hrel
        have HHk := Lib.hid hHk
        have HBy := Lib.hid hby
        clear hHk hby
        have hsz' := hex.size
        by_cases hlt2 : (t : Int) < (i : Int) - 1
        · have e0 : ((t : Int) + 1).toNat = t + 1 := by omega
          have p0 : (0 : Int) ≤ (t : Int) + 1 := by omega
          have q0 : (t : Int) + 1 < d.size := by omega
          have q1 : (t : Int) < d.size := by omega
          have hHd : HoldsK enc k wr.drew g off dk := HHk.out
          have hds : dk.size = d.size := HBy.out.1
          obtain ⟨vx, hvx⟩ : ∃ v, dk[t]! = v := ⟨_, rfl⟩
          obtain ⟨vy, hvy⟩ : ∃ v, dk[t + 1]! = v := ⟨_, rfl⟩
          have bnd : ∀ x, x < dk.size → x * k + k ≤ dk.size * k := fun x hx => by
            have := Nat.mul_le_mul_right k (show x + 1 ≤ dk.size from hx); rwa [Nat.add_mul, Nat.one_mul] at this
          have lx : Sem.run P (loadCellsFrom ⟨g, off + (t) * k, none⟩ 0 k #[]) wr.drew = .ok (enc vx).toArray wr.drew := by rw [← hvx]; exact run_loadCellsFrom_list P _ _ _ k (HK.out _) (HoldsK.cells hHd HK.out (by omega))
          have ly : Sem.run P (loadCellsFrom ⟨g, off + (t + 1) * k, none⟩ 0 k #[]) wr.drew = .ok (enc vy).toArray wr.drew := by rw [← hvy]; exact run_loadCellsFrom_list P _ _ _ k (HK.out _) (HoldsK.cells hHd HK.out (by omega))
          have s1 : Sem.run P (storeCells ⟨g, off + (t) * k, none⟩ (enc vy) 0) wr.drew = .ok () (wr.drew.setCells g (off + (t) * k) (enc vy)) := stores_of_holds P hHd ((t) * k) _ (by rw [HK.out, size_flatK]; exact bnd (t) (by omega)) (H1.out _)
          have s2 : Sem.run P (storeCells ⟨g, off + (t + 1) * k, none⟩ (enc vx) 0) (wr.drew.setCells g (off + (t) * k) (enc vy)) = .ok () ((wr.drew.setCells g (off + (t) * k) (enc vy)).setCells g (off + (t + 1) * k) (enc vx)) :=
            stores_of_holds P (holds_setCells_c hHd ((t) * k) _ (by rw [HK.out, size_flatK]; exact bnd (t) (by omega))) ((t + 1) * k) _ (by rw [HK.out, size_setMany, size_flatK]; exact bnd (t + 1) (by omega)) (H1.out _)
          have hsX : (enc vx).length = k := HK.out _
          have hsY : (enc vy).length = k := HK.out _
          clear bnd hHd
          obtain ⟨cX, hcX⟩ : ∃ c, c = enc vx := ⟨_, rfl⟩
          obtain ⟨cY, hcY⟩ : ∃ c, c = enc vy := ⟨_, rfl⟩
          rw [← hcX] at lx hsX
          rw [← hcY] at ly hsY
          rw [← hcY] at s1
          rw [← hcX, ← hcY] at s2
          have CC : Hid (cX = enc vx ∧ cY = enc vy ∧ dk[t]! = vx ∧ dk[t + 1]! = vy) := ⟨hcX, hcY, hvx, hvy⟩
          clear hcX hcY hvx hvy hds
          go_wp2_with fail
          go_big_region_o
          all_goals go_wp2
          go_roundw
          case rel =>
            have hds : dk.size = d.size := HBy.out.1
            obtain ⟨k1, k2⟩ := swapWorldK enc k HK.out wr g off dk t (t + 1) HHk.out (by omega) (by omega) (by omega)
            refine ⟨t + 1, swp dk t (t + 1), by go_num, by omega, by omega, ?_, HBy.out.up hat (by omega), ?_⟩
            · rw [CC.out.1, CC.out.2.1, ← CC.out.2.2.1, ← CC.out.2.2.2]; exact k1
            · rw [CC.out.1, CC.out.2.1, ← CC.out.2.2.1, ← CC.out.2.2.2]; exact hex.trans k2 hsz' (fun q e _ => by cases e; rfl)
          case measure => simp [intOf]; omega
        · go_wp2
          refine bodyPost_ret (results_none rfl _ _ _) rfl ?_
          have h0 := HBy.out
          rw [show t + 1 = i by omega] at h0
          obtain ⟨x1, x2⟩ := one_ahead HS.out h0 (by omega) (by omega) hb (by have := HR2.out; rwa [HO.out] at this) HLo.out HHi.out
          exact ⟨rfl, dk, HHk.out, x1, x2, hex⟩
end Go.Proofs.YtdgfankkapeclaaGreat
