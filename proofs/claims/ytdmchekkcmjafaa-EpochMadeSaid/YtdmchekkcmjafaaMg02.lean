/- copy at elements of k cells; a row out of the cells of its elements. For whatever program; no statement of the seat. | Statements as data, and how memory holds them: words, no statement of the seat. -/
import Derived.Test.YtdmchekkcmjafaaRowKG
import Derived.Laws.CopyOwn
import Derived.Test.YtdmchekkcmjafaaRows
import Derived.Test.YtdmchekkcmjafaaMg01
import Derived.Test.YtdmchekkcmjafaaMg00
namespace Go.Proofs.Ytdmchekkcmjafaa
open Go.RowKit Go.Sort

variable {α : Type} [Inhabited α]

/-- The cells of a list of elements, one behind the other. -/
def flatL (enc : α → List Value) (xs : List α) : List Value := xs.flatMap enc
omit [Inhabited α] in
theorem flatL_len {enc : α → List Value} {k : Nat} (hk : ∀ x, (enc x).length = k) (xs : List α) : (flatL enc xs).length = xs.length * k := by
  induction xs with
  | nil => simp [flatL]
  | cons x r ih => simp only [flatL, List.flatMap_cons, List.length_append, hk, List.length_cons, Nat.add_mul, Nat.one_mul] at *; omega
omit [Inhabited α] in
theorem flatL_get {enc : α → List Value} {k : Nat} (hk : ∀ x, (enc x).length = k) : ∀ (xs : List α) (i c : Nat) (h : i < xs.length), c < k → (flatL enc xs)[i * k + c]? = (enc xs[i])[c]?
  | [], i, c, h, _ => by simp at h
  | x :: r, 0, c, h, hc => by
    simp only [flatL, List.flatMap_cons, Nat.zero_mul, Nat.zero_add]
    rw [List.getElem?_append_left (by rw [hk]; exact hc)]; rfl
  | x :: r, i + 1, c, h, hc => by
    simp only [flatL, List.flatMap_cons]
    rw [List.getElem?_append_right (by rw [hk, Nat.add_mul, Nat.one_mul]; omega), hk, show (i + 1) * k + c - k = i * k + c by rw [Nat.add_mul, Nat.one_mul]; omega]
    exact flatL_get hk r i c (by simpa using h) hc
omit [Inhabited α] in
theorem flatL_one {enc : α → List Value} (h1 : ∀ x, ∀ v ∈ enc x, v.oneCell' = true) (xs : List α) : ∀ v ∈ flatL enc xs, v.oneCell' = true := fun v hv => by
  simp only [flatL, List.mem_flatMap] at hv
  obtain ⟨x, _, hv⟩ := hv
  exact h1 x v hv
/-- A row whose cells are those of xs holds xs. -/
theorem holdsK_flat {enc : α → List Value} {k : Nat} (hk : ∀ x, (enc x).length = k) {w : World} {g off : Nat} {xs : List α} (hc : ∀ j v, (flatL enc xs)[j]? = some v → w.cell? ⟨g, off + j, none⟩ = some v) (hf : ∀ j, j < (flatL enc xs).length → w.frozen? ⟨g, off + j, none⟩ = false) : HoldsK enc k w g off xs.toArray :=
  holdsK_of fun i c hi hcc => by
    have hi' : i < xs.length := by simpa using hi
    have e := flatL_get hk xs i c hi' hcc
    have hlen : c < (enc xs[i]).length := by rw [hk]; exact hcc
    rw [List.getElem?_eq_getElem hlen] at e
    have hb : i * k + c < (flatL enc xs).length := (List.getElem?_eq_some_iff.1 e).1
    rw [Nat.add_assoc]
    refine ⟨?_, hf _ hb⟩
    rw [hc _ _ e, getElem!_pos xs.toArray i (by simpa using hi'), List.getElem_toArray, getElem!_pos (enc xs[i]) c hlen]
/-- Stores of all cells of a list over a row that has room. -/
theorem holdsK_setAll {enc : α → List Value} {k : Nat} (hk : ∀ x, (enc x).length = k) {w : World} {g off : Nat} {xs : List α} (hc : ∀ j, j < xs.length * k → (w.cell? ⟨g, off + j, none⟩).isSome = true) (hf : ∀ j, j < xs.length * k → w.frozen? ⟨g, off + j, none⟩ = false) : HoldsK enc k (w.setCells g off (flatL enc xs)) g off xs.toArray :=
  holdsK_flat hk (fun j v hv => by
    obtain ⟨hj, rfl⟩ := List.getElem?_eq_some_iff.1 hv
    exact World.cell?_setCells_in g (flatL enc xs) off w (fun j hj => hc j (by rw [← flatL_len hk]; exact hj)) j hj) (fun j hj => by
    rw [World.frozen?_setCells]; exact hf j (by rw [← flatL_len hk]; exact hj))

/-- 'copy(dst, src)', both of n elements of so many cells each. -/
theorem wpList_copy_k {P : Program} {w : World} {ops : Array Oper} {rest : List Oper} {o : Oper} {a : Act} {Q : Exit → Act → World → Prop} (hgd : o.guard = none) (d s : Operand) (dT sT : TypeId)
    (ho : o.op = .call { callee := .builtin .copy, args := #[d, s], argTypes := #[dT, sT] }) (elem : TypeId) (hu : P.underlying dT = some (.slice elem)) (size : Nat) (hsz : (P.info? elem).map (·.size) = some size)
    (g off n dCap : Nat) (sp : Option Addr) (sCap : Nat) (hd : a.eval d = .slice (some ⟨g, off, none⟩) n dCap) (hs : a.eval s = .slice sp n sCap) (cs : List Value) (hn : cs.length = n * size)
    (hpos : n = 0 ∨ ∃ ad, sp = some ad ∧ ∀ j v, cs[j]? = some v → w.cell? (ad.add j) = some v) (hc : ∀ j, j < cs.length → (w.cell? ⟨g, off + j, none⟩).isSome = true) (hf : ∀ j, j < cs.length → w.frozen? ⟨g, off + j, none⟩ = false) (h1 : ∀ v ∈ cs, v.oneCell' = true)
    (h : wpList P ops Q rest (a.put o.dst (goInt n)) (w.setCells g off cs)) : wpList P ops Q (o :: rest) a w := by
  refine wpList_plain hgd fun K hK => ?_
  have hst := run_storeCells_cells (P := P) g off cs 0 w (by simpa using hc) (by simpa using hf) h1
  simp only [Nat.add_zero] at hst
  cases hq : P.info? elem with
  | none => simp [hq] at hsz
  | some i =>
    have hi : i.size = size := by simpa [hq] using hsz
    have hrun : (Builtin.copy_ #[dT, sT] o.type #[.slice (some ⟨g, off, none⟩) n dCap, .slice sp n sCap]).run P w = .ok (goInt n) (w.setCells g off cs) := by
      rcases hpos with h0 | ⟨ad, rfl, hsrc⟩
      · subst h0
        obtain rfl : cs = [] := List.eq_nil_of_length_eq_zero (by rw [hn, Nat.zero_mul])
        have hl : ∀ (x : Addr), (loadCells x 0).run P w = .ok #[] w := fun x => by simpa using run_loadCells_list (P := P) w x [] (by simp)
        cases sp <;> simp [Builtin.copy_, run_underlying hu, Builtin.lenOf, Builtin.firstCells, sizeOf, typeInfo, hq, hl, storeCells, World.setCells]
      · have hl := run_loadCells_list (P := P) w ad cs hsrc
        rw [hn] at hl
        simp [Builtin.copy_, run_underlying hu, Builtin.lenOf, Builtin.firstCells, sizeOf, typeInfo, hq, hi, hl, hst]
    unfold Oper.wp
    simp [execOp, ho, resolve, invoke, builtin, hd, hs, hrun, Result.andThen]
    exact hK _ _ h
/-- Cells of a row that is owned. -/
theorem own_there {w : World} {base e size n cap : Nat} {xs : List Value} {g o : Nat} (h : w.ownsRow base e size (.slice (some ⟨g, o, none⟩) n cap) n xs) : o = 0 ∧ base ≤ g ∧ g < w.heap.size ∧ n ≤ cap ∧ (∀ (j : Nat) (v : Value), xs[j]? = some v → w.cell? ⟨g, j, none⟩ = some v) ∧ ∀ j, w.frozen? ⟨g, j, none⟩ = false := by
  rcases h.2 with ⟨h1, h2⟩ | ⟨g', cap', cur, hv, hg, hh, hn, hcm, hcur, hpre⟩
  · cases h1
  · cases hv
    refine ⟨rfl, hg, (Array.getElem?_eq_some_iff.1 hh).1, hn, fun j v hj => ?_, fun j => by simp [World.frozen?, hh]⟩
    rw [← hpre] at hj
    have : cur.toList[j]? = some v := by
      rw [List.getElem?_take] at hj
      split at hj
      · exact hj
      · cases hj
    simp only [World.cell?, hh]
    simpa using this
/-- A row of elements that is owned holds them. -/
theorem own_holdsK {enc : α → List Value} {k : Nat} (hk : ∀ x, (enc x).length = k) {w : World} {base e n cap : Nat} {xs : List α} {g o : Nat} (h : w.ownsRow base e k (.slice (some ⟨g, o, none⟩) n cap) n (flatL enc xs)) : HoldsK enc k w g 0 xs.toArray := by
  obtain ⟨_, _, _, _, h1, h2⟩ := own_there h
  exact holdsK_flat hk (fun j v hv => by rw [Nat.zero_add]; exact h1 j v hv) (fun j _ => by rw [Nat.zero_add]; exact h2 j)
theorem own_some {w : World} {base e size n cap : Nat} {xs : List Value} {g o : Nat} (h : w.ownsRow base e size (.slice (some ⟨g, o, none⟩) n cap) n xs) (j : Nat) (hj : j < n * size) : (w.cell? ⟨g, 0 + j, none⟩).isSome = true := by
  obtain ⟨_, _, _, _, h1, _⟩ := own_there h
  have hl : j < xs.length := by rw [h.1]; exact hj
  rw [Nat.zero_add, h1 j xs[j] (by simp [hl])]; rfl
theorem own_frozen {w : World} {base e size n cap : Nat} {xs : List Value} {g o : Nat} (h : w.ownsRow base e size (.slice (some ⟨g, o, none⟩) n cap) n xs) (j : Nat) : w.frozen? ⟨g, 0 + j, none⟩ = false := by
  obtain ⟨_, _, _, _, _, h2⟩ := own_there h
  rw [Nat.zero_add]; exact h2 j
theorem copy_from {w w1 : World} {row : Option Nat} {n : Nat} {ao : Option Addr} {cs : List Value} (h : n = 0 ∨ ∃ ad, ao = some ad ∧ ∀ (j : Nat) (v : Value), cs[j]? = some v → w.cell? (ad.add j) = some v) (hg : w.grownBy w1 row) (hr : ∀ k, row = some k → w.heap.size ≤ k) : n = 0 ∨ ∃ ad, ao = some ad ∧ ∀ (j : Nat) (v : Value), cs[j]? = some v → w1.cell? (ad.add j) = some v :=
  h.imp id fun ⟨ad, e, h⟩ => ⟨ad, e, fun j v hv => hg.cell (h j v hv) fun e' => by
    have a := hr _ e'.symm
    have b := World.block_lt_of_cell? w _ (h j v hv)
    omega⟩

/-- A slice of elements of k cells that the call owns. -/
def OwnE (enc : α → List Value) (k : Nat) (e : TypeId) (w : World) (base : Nat) (ao : Option Addr) (cap : Nat) (xs : List α) : Prop := w.ownsRow base e k (.slice ao xs.length cap) xs.length (flatL enc xs)
omit [Inhabited α] in
theorem OwnE.nil (enc : α → List Value) (k : Nat) (e : TypeId) (w : World) (base : Nat) : OwnE enc k e w base none 0 [] := World.ownsRow_nil w base e k
omit [Inhabited α] in
theorem OwnE.keep {enc : α → List Value} {k : Nat} {e : TypeId} {w w' : World} {base B : Nat} {p : Option Nat} {ao : Option Addr} {cap : Nat} {xs : List α} (h : OwnE enc k e w base ao cap xs) (hx : Ex B p w w') (hB : w.heap.size ≤ B) (hp : ∀ q, p = some q → q < base) : OwnE enc k e w' base ao cap xs := own_keep h hx hB hp
omit [Inhabited α] in
theorem OwnE.lt {enc : α → List Value} {k : Nat} {e : TypeId} {w : World} {base : Nat} {ao : Option Addr} {cap : Nat} {xs : List α} (h : OwnE enc k e w base ao cap xs) : ∀ a, ao = some a → base ≤ a.block ∧ a.block < w.heap.size := by
  intro a e; subst e; exact World.ownsRow.lt h _ rfl
omit [Inhabited α] in
theorem OwnE.cases {enc : α → List Value} {k : Nat} {e : TypeId} {w : World} {base : Nat} {ao : Option Addr} {cap : Nat} {xs : List α} (h : OwnE enc k e w base ao cap xs) : (ao = none ∧ cap = 0 ∧ xs = []) ∨ ∃ g, ao = some ⟨g, 0, none⟩ ∧ base ≤ g ∧ g < w.heap.size ∧ xs.length ≤ cap := by
  rcases h.2 with ⟨h1, h2⟩ | ⟨g, cap', cur, hv, hg, hh, hn, _⟩
  · simp only [Value.slice.injEq] at h1
    obtain ⟨rfl, _, rfl⟩ := h1
    exact Or.inl ⟨rfl, rfl, List.eq_nil_of_length_eq_zero h2⟩
  · cases hv; exact Or.inr ⟨g, rfl, hg, (Array.getElem?_eq_some_iff.1 hh).1, hn⟩
theorem OwnE.holds {enc : α → List Value} {k : Nat} (hk : ∀ x, (enc x).length = k) {e : TypeId} {w : World} {base g o cap : Nat} {xs : List α} (h : OwnE enc k e w base (some ⟨g, o, none⟩) cap xs) : HoldsK enc k w g 0 xs.toArray := own_holdsK hk h

omit [Inhabited α] in
/-- 'append(out, src...)', out a slice of such elements of the call's own, src as many cells as ys says (nil too). -/
theorem wpList_appE {P : Program} {w0 w : World} {ops : Array Oper} {rest : List Oper} {o : Oper} {a : Act} {Q : Exit → Act → World → Prop} (hgd : o.guard = none) (s x : Operand) (t e : TypeId)
    (ho : o.op = .call { callee := .builtin .append, args := #[s, x], argTypes := #[t, t] })
    (ht : P.underlying t = some (.slice e)) (z : Value) (k bytes : Nat) (hinfo : (P.info? e).map (fun i => (i.zero, i.size, i.bytes)) = some (some z, k, bytes)) (hzc : z.cells.size = k) (hk0 : 0 < k) (hb : bytes ≤ 1000)
    (enc : α → List Value) (hk : ∀ x, (enc x).length = k) (h1 : ∀ x, ∀ v ∈ enc x, v.oneCell' = true)
    (base : Nat) (ao : Option Addr) (cap : Nat) (xs ys : List α) (v u : Value) (n : Nat) (hn : n = xs.length) (hv : v = .slice ao n cap) (hs : a.eval s = v) (so : Option Addr) (m sc : Nat) (hx : a.eval x = u) (hu : u = .slice so m sc) (hm : m = ys.length)
    (hsrc : ys.length = 0 ∨ ∃ ad, so = some ad ∧ ∀ (j : Nat) (v : Value), (flatL enc ys)[j]? = some v → w.cell? (ad.add j) = some v)
    (hown : OwnE enc k e w0 base ao cap xs) (hw : Ex w0.heap.size none w0 w) (hlen : xs.length + ys.length ≤ 10000000) (hbase : base ≤ w0.heap.size)
    (h : ∀ ao' cap' w', OwnE enc k e w' base ao' cap' (xs ++ ys) → Ex base none w0 w' → wpList P ops Q rest (a.put o.dst (.slice ao' (xs.length + ys.length) cap')) w') : wpList P ops Q (o :: rest) a w := by
  subst hn hm hu hv
  obtain ⟨i0, hi, hz0, hz1, hz2⟩ := info_parts hinfo
  have hown' : OwnE enc k e w base ao cap xs := hown.keep hw (Nat.le_refl _) (by simp)
  have hsz := hw.size
  have key : ∀ so ad, so = some ad → a.eval x = .slice so ys.length sc → (∀ (j : Nat) (v : Value), (flatL enc ys)[j]? = some v → w.cell? (ad.add j) = some v) → wpList P ops Q (o :: rest) a w := fun so ad e1 hx hsrc => by
    subst e1
    refine wpList_append_own _ hgd s x t ho base e i0 z k bytes ht hi hz0 hz1 hz2 hzc hk0 _ _ _ hs hown' ad ys.length sc (flatL enc ys) hx (flatL_len hk ys) hsrc (flatL_one h1 ys) (by simp only [maxLen]; omega) ?_ (by omega) ?_
    · have := Nat.mul_le_mul hlen hb; omega
    · intro v' w' ho' hg _
      obtain ⟨ao', cap', rfl⟩ := own_shape ho'
      refine h ao' cap' w' ?_ ((hw.mono hbase).grown hg (by omega) ?_)
      · unfold OwnE
        have e1 : flatL enc (xs ++ ys) = flatL enc xs ++ flatL enc ys := by simp [flatL]
        rw [e1, List.length_append]; exact ho'
      · intro q hq
        exact (World.ownsRow.lt hown' q hq).1
  rcases hsrc with h0 | ⟨ad, e1, hc⟩
  · have hy : ys = [] := List.eq_nil_of_length_eq_zero h0
    cases so with
    | some ad => exact key _ ad rfl hx (fun j v hv => by subst hy; simp [flatL] at hv)
    | none =>
      subst hy
      refine wpList_plain hgd fun K hK => ?_
      have hrun := run_append_none (P := P) (w := w) base t o.type e i0 k ht hi _ _ sc _ hown'
      unfold Oper.wp
      simp only [List.length_nil] at hx
      simp [execOp, ho, resolve, invoke, builtin, hs, hx, hrun, Result.andThen]
      exact hK _ _ (by simpa using h ao cap w (by simpa using hown') (hw.mono hbase))
  · exact key so ad e1 hx hc
omit [Inhabited α] in
/-- The one element of a literal. -/
theorem lit_cells {enc : α → List Value} {w : World} {x : α} {t : TypeId} {cs : Array Value} (h : cs.toList = enc x) : ([x] : List α).length = 0 ∨ ∃ ad, some (⟨w.heap.size, 0, none⟩ : Addr) = some ad ∧ ∀ (j : Nat) (v : Value), (flatL enc [x])[j]? = some v → (w.alloc (.cells cs t)).cell? (ad.add j) = some v := by
  refine Or.inr ⟨_, rfl, fun j v hv => ?_⟩
  rw [Addr.add_lit, Nat.zero_add, cell_of_row _ _ _ _ _ _ (heap_alloc_new w _)]
  simp only [flatL, List.flatMap_cons, List.flatMap_nil, List.append_nil] at hv
  rw [← h] at hv
  simpa using hv
end Go.Proofs.Ytdmchekkcmjafaa

namespace Go.Proofs.Ytdmchekkcmjafaa
open Go.RowKit Go.Sort

/-- A pin: author, height, digest. -/
abbrev PinD := Int × Int × ByteArray
def pinE (p : PinD) : List Value := [.int .i64 p.1, .int .i64 p.2.1, .string p.2.2]
theorem pinE_len (p : PinD) : (pinE p).length = 3 := rfl
theorem one_pinE : ∀ p, ∀ v ∈ pinE p, v.oneCell' = true := fun p v hv => by simp [pinE] at hv; rcases hv with rfl | rfl | rfl <;> rfl
/-- Elements that are held by value. -/
def valRep {α : Type} (enc : α → List Value) (k : Nat) (hk : ∀ x, (enc x).length = k) (h1 : ∀ x, ∀ v ∈ enc x, v.oneCell' = true) : Rep α where
  k := k
  R := fun _ _ cs x => cs = enc x
  len := fun h => by subst h; exact hk _
  one := fun h => by subst h; exact h1 _
  keep := fun h _ => h
  mono := fun h _ => h
def pinRep : Rep PinD := valRep pinE 3 pinE_len one_pinE

/-- A statement. -/
structure St where
  author : Int
  number : Int
  prev : ByteArray
  time : Int
  kind : Int
  a : Int
  b : Int
  c : Int
  list : List Int
  pins : List PinD
  body : ByteArray
  key : Int
  dig : ByteArray
instance : Inhabited St := ⟨⟨0, 0, ⟨#[]⟩, 0, 0, 0, 0, 0, [], [], ⟨#[]⟩, 0, ⟨#[]⟩⟩⟩
/-- Equal, field for field. -/
def sameS (s t : St) : Bool :=
  decide (s.author = t.author) && decide (s.number = t.number) && decide (s.prev = t.prev) && decide (s.time = t.time) && decide (s.kind = t.kind) && decide (s.a = t.a) && decide (s.b = t.b) && decide (s.c = t.c) &&
  decide (s.list = t.list) && decide (s.pins = t.pins) && decide (s.body = t.body) && (decide (s.key = t.key) && decide (s.dig = t.dig))
theorem sameS_iff {s t : St} : sameS s t = true ↔ s = t := by
  constructor
  · intro h
    simp only [sameS, Bool.and_eq_true, decide_eq_true_eq] at h
    obtain ⟨⟨⟨⟨⟨⟨⟨⟨⟨⟨⟨h1, h2⟩, h3⟩, h4⟩, h5⟩, h6⟩, h7⟩, h8⟩, h9⟩, h10⟩, h11⟩, h12, h13⟩ := h
    obtain ⟨_, _, _, _, _, _, _, _, _, _, _, _, _⟩ := s
    simp only at h1 h2 h3 h4 h5 h6 h7 h8 h9 h10 h11 h12 h13
    subst h1 h2 h3 h4 h5 h6 h7 h8 h9 h10 h11 h12 h13
    rfl
  · rintro rfl
    simp [sameS]
/-- A slice's header. -/
structure Sv where
  ao : Option Addr
  n : Nat
  c : Nat
instance : Inhabited Sv := ⟨⟨none, 0, 0⟩⟩
def Sv.v (x : Sv) : Value := .slice x.ao x.n x.c
/-- The cells of a statement whose lists lie at l and p. -/
def stE (x : St × Sv × Sv) : List Value :=
  [.int .i64 x.1.author, .int .i64 x.1.number, .string x.1.prev, .int .i64 x.1.time, .int .i64 x.1.kind, .int .i64 x.1.a, .int .i64 x.1.b, .int .i64 x.1.c, x.2.1.v, x.2.2.v, .string x.1.body, .int .i64 x.1.key, .string x.1.dig]
theorem stE_len (x : St × Sv × Sv) : (stE x).length = 13 := rfl
theorem one_stE : ∀ x, ∀ v ∈ stE x, v.oneCell' = true := fun x v hv => by
  simp only [stE, List.mem_cons, List.not_mem_nil, or_false] at hv
  rcases hv with rfl | rfl | rfl | rfl | rfl | rfl | rfl | rfl | rfl | rfl | rfl | rfl | rfl <;> rfl
/-- The lists of a statement lie where its headers say. -/
def Lies (P : Nat → Prop) (w : World) (x : St × Sv × Sv) : Prop := Sl intRep P w x.2.1.v x.1.list ∧ Sl pinRep P w x.2.2.v x.1.pins
theorem Lies.keep {P : Nat → Prop} {w w' : World} {x : St × Sv × Sv} (h : Lies P w x) (hx : ∀ b, P b → b < w.heap.size → w'.heap[b]? = w.heap[b]?) : Lies P w' x := ⟨h.1.keep (by decide) hx, h.2.keep (by decide) hx⟩
theorem Lies.mono {P P' : Nat → Prop} {w : World} {x : St × Sv × Sv} (h : Lies P w x) (hx : ∀ b, P b → b < w.heap.size → P' b) : Lies P' w x := ⟨h.1.mono (by decide) hx, h.2.mono (by decide) hx⟩
def stRep : Rep St where
  k := 13
  R := fun P w cs s => ∃ l p, cs = stE (s, l, p) ∧ Lies P w (s, l, p)
  len := fun ⟨l, p, h, _⟩ => by subst h; exact stE_len _
  one := fun ⟨l, p, h, _⟩ => by subst h; exact one_stE _
  keep := fun ⟨l, p, h, hs⟩ hx => ⟨l, p, h, hs.keep hx⟩
  mono := fun ⟨l, p, h, hs⟩ hx => ⟨l, p, h, hs.mono hx⟩
theorem sl_shape {α : Type} {r : Rep α} {P : Nat → Prop} {w : World} {v : Value} {xs : List α} (h : Sl r P w v xs) : ∃ x : Sv, v = x.v ∧ x.n = xs.length := by
  obtain ⟨ao, cap, e, _⟩ := h
  exact ⟨⟨ao, xs.length, cap⟩, e, rfl⟩
theorem sl_ints {P : Nat → Prop} {w : World} {v : Value} {xs : List Int} (h : Sl intRep P w v xs) : Ints w v xs := by
  obtain ⟨ao, cap, rfl, h⟩ := h
  refine ⟨ao, cap, rfl, fun j hj => ?_⟩
  obtain ⟨b, off, cs, e, hp, hr, hR⟩ := h 0 (by omega)
  refine ⟨b, off, e, fun i hi => ?_⟩
  obtain ⟨b', off', cs', e', hp', hr', hR'⟩ := h i hi
  rw [e] at e'; cases e'
  have := hr' 0 (.int .i64 xs[i]) (by rw [show cs' = _ from hR']; rfl)
  rw [show off + i = off + i * intRep.k + 0 by simp [intRep]]
  rw [this]; simp [List.getD, hi]
theorem ints_sl {P : Nat → Prop} {w : World} {v : Value} {xs : List Int} (h : Ints w v xs) (hP : ∀ ao n c, v = .slice ao n c → xs ≠ [] → ∀ a, ao = some a → P a.block) : Sl intRep P w v xs := by
  obtain ⟨ao, cap, rfl, h⟩ := h
  refine ⟨ao, cap, rfl, fun i hi => ?_⟩
  obtain ⟨b, off, e, hc⟩ := h i hi
  refine ⟨b, off, [.int .i64 xs[i]], e, hP _ _ _ rfl (by intro h0; subst h0; simp at hi) _ e, fun j v hv => ?_, rfl⟩
  match j, hv with
  | 0, hv =>
    simp at hv; subst hv
    have := hc i hi
    rw [show off + i * intRep.k + 0 = off + i by simp [intRep]]
    rw [this]; simp [List.getD, hi]
  | j + 1, hv => simp at hv
/-- The cells of a slice of elements that are held by value. -/
theorem val_cells {α : Type} {enc : α → List Value} {k : Nat} {hk : ∀ x, (enc x).length = k} {h1 : ∀ x, ∀ v ∈ enc x, v.oneCell' = true} (hk0 : 0 < k) {P : Nat → Prop} {w : World} {ao : Option Addr} {xs : List α} (h : SlAt (valRep enc k hk h1) P w ao xs) : xs.length = 0 ∨ ∃ ad, ao = some ad ∧ ∀ (j : Nat) (v : Value), (flatL enc xs)[j]? = some v → w.cell? (ad.add j) = some v := by
  rcases Nat.eq_zero_or_pos xs.length with h0 | h0
  · exact Or.inl h0
  · obtain ⟨b, off, _, e, _, _, _⟩ := h 0 h0
    refine Or.inr ⟨_, e, fun j v hv => ?_⟩
    have hl := flatL_len hk xs
    have hj := (List.getElem?_eq_some_iff.1 hv).1
    have hi : j / k < xs.length := Nat.div_lt_of_lt_mul (by rw [Nat.mul_comm]; omega)
    obtain ⟨b', off', cs, e', _, hr, hR⟩ := h (j / k) hi
    rw [e] at e'; cases e'
    have hm : j / k * k + j % k = j := Nat.div_add_mod' j k
    have hg := flatL_get hk xs (j / k) (j % k) hi (Nat.mod_lt _ hk0)
    rw [hm, hv] at hg
    have hcs : cs = enc xs[j / k] := hR
    have := hr (j % k) v (by rw [hcs]; exact hg.symm)
    rw [Addr.add_lit, ← hm, ← Nat.add_assoc]
    exact this
/-- A row that holds elements by value is a slice of them. -/
theorem val_sl {α : Type} [Inhabited α] {enc : α → List Value} {k : Nat} {hk : ∀ x, (enc x).length = k} {h1 : ∀ x, ∀ v ∈ enc x, v.oneCell' = true} {P : Nat → Prop} {w : World} {g : Nat} {xs : List α} (hP : P g) (h : HoldsK enc k w g 0 xs.toArray) : SlAt (valRep enc k hk h1) P w (some ⟨g, 0, none⟩) xs := fun i hi => by
  refine ⟨g, 0, enc xs[i], rfl, hP, ?_, rfl⟩
  have := holdsK_range hk h i (by simpa using hi)
  rwa [getElem!_pos xs.toArray i hi, List.getElem_toArray] at this
/-- A row that holds statements is a slice of them, if their lists lie somewhere. -/
theorem st_sl {P : Nat → Prop} {w : World} {g : Nat} {xs : List (St × Sv × Sv)} (hP : P g) (h : HoldsK stE 13 w g 0 xs.toArray) (hl : ∀ x ∈ xs, Lies P w x) : SlAt stRep P w (some ⟨g, 0, none⟩) (xs.map (·.1)) := fun i hi => by
  have hi' : i < xs.length := by simpa using hi
  refine ⟨g, 0, stE xs[i], rfl, hP, ?_, xs[i].2.1, xs[i].2.2, by simp, by simpa using hl _ (List.getElem_mem hi')⟩
  have := holdsK_range stE_len h i (by simpa using hi')
  rwa [getElem!_pos xs.toArray i hi', List.getElem_toArray] at this
end Go.Proofs.Ytdmchekkcmjafaa
