/- cmp.Compare at strings: a contract, no statement of the seat. | copy at elements of k cells; a row out of the cells of its elements. For whatever program; no statement of the seat. | The row of int in the table of types: a fact, no statement of the seat. | Statements as data, and how memory holds them: words, no statement of the seat. | Plain Lean functions on lists of ints: what the Go functions of the Quota laws compute. No program in sight. | ref03.SameInts, SamePins: contracts, no statement of the seat. | ref03.Same: words for its contract, no statement of the seat. | A region that draws its order, whose operations read and whose callees may lay blocks of their own: walked once, in the order of the text, at the class of worlds in which no old block has been turned. For whatever program; no statement of the seat. | ref03.Copy: a contract, no statement of the seat. | What the library's CompactFunc at trustflow/chain.link leans on of a program: so that its walks may be made over whatever program and number of cells. No statement of the seat. | slices.CompactFunc at trustflow/chain.link, over whatever program that bears it: a contract, no statement of the seat. | Rows of cells stored, loaded, and laid as the one element of a slice, as one step of a region. No statement of the seat. | What CompactFunc leaves, under a map. Plain, no program in sight. | The library's slices.SortFunc at trustflow/chain.link: its laying by the shelf, in plain words. No statement of the seat. | The keys of the map of losses: a struct of two numbers. No statement of the seat. | What the map of losses holds: of each author the last one named. Plain. No statement of the seat. | A map that holds whatever values, by the kit's own datum 'held': plain facts. No statement of the seat. -/
import Derived.Sort.LotA
import Derived.Test.YtdifcnhhcinonaaGreatRows
import Derived.Test.YtdifcnhhcinonaaGreatMg00
import Derived.Laws.CopyOwn
import Derived.PlainAid
import Derived.Great.BuildSlice
import Derived.Laws.Rows
import Derived.Shelf.SlSortCmp.WholeK
import Derived.Shelf.SlSortCmp.NoneTotal
import Derived.DeepKeys4
import Derived.WideKeyPair
import Derived.Maps.OwnSet
namespace Go.Proofs.YtdifcnhhcinonaaGreat
open Go.RowKit Go.Sort

/-- cmp.Compare of two strings. -/
def lssS (x y : ByteArray) : Bool := Op.bytesLess x.toList y.toList
def cmpS (x y : ByteArray) : Int := if lssS x y then -1 else if x.toList == y.toList then 0 else 1
theorem cmpS_lt (x y : ByteArray) : decide (cmpS x y < 0) = lssS x y := by
  unfold cmpS
  cases lssS x y
  · cases x.toList == y.toList <;> rfl
  · rfl
theorem isNaNS_any (x : ByteArray) (w : World) : Calls Tryz.prog 168 #[.string x] w fun e w' => e = .returned (.bool false) ∧ w = w' := by
  go_enter Tryz.func168, Tryz.ntmps168
  go_wp2
  go_ret
  exact ⟨by simp, rfl⟩
set_option maxHeartbeats 1000000 in
theorem compareS_any (x y : ByteArray) (w : World) : Calls Tryz.prog 114 #[.string x, .string y] w fun e w' => e = .returned (.int .i64 (cmpS x y)) ∧ w = w' := by
  cases h1 : Op.bytesLess x.toList y.toList with
  | true =>
    have HK : Hid (cmpS x y = -1) := Lib.hid (by unfold cmpS lssS; rw [h1]; rfl)
    go_enter Tryz.func114, Tryz.ntmps114
    go_wp2_with (go_at_call 168; refine (isNaNS_any _ _).mono ?_; rintro e w' ⟨rfl, rfl⟩)
    go_ret
    exact ⟨by rw [HK.out]; rfl, rfl⟩
  | false =>
    cases h2 : x.toList == y.toList with
    | false =>
      have HK : Hid (cmpS x y = 1) := Lib.hid (by unfold cmpS lssS; rw [h1, h2]; rfl)
      have h3 : ¬ x.toList = y.toList := by simpa using h2
      go_enter Tryz.func114, Tryz.ntmps114
      go_wp2_with (go_at_call 168; refine (isNaNS_any _ _).mono ?_; rintro e w' ⟨rfl, rfl⟩)
      go_ret
      exact ⟨by rw [HK.out]; rfl, rfl⟩
    | true =>
      have HK : Hid (cmpS x y = 0) := Lib.hid (by unfold cmpS lssS; rw [h1, h2]; rfl)
      have h3 : x.toList = y.toList := by simpa using h2
      have h4 : Op.bytesLess y.toList y.toList = false := by rw [← h3]; rw [← h3] at h1; exact h1
      go_enter Tryz.func114, Tryz.ntmps114
      go_wp2_with (go_at_call 168; refine (isNaNS_any _ _).mono ?_; rintro e w' ⟨rfl, rfl⟩)
      go_ret
      exact ⟨by rw [HK.out]; rfl, rfl⟩
end Go.Proofs.YtdifcnhhcinonaaGreat

namespace Go.Proofs.YtdifcnhhcinonaaGreat
open Go.RowKit Go.Sort

variable {α : Type} [Inhabited α]

/-- The cells of a list of elements, one behind the other. -/
def flatL (enc : α → List Value) (xs : List α) : List Value := xs.flatMap enc
omit [Inhabited α] in
theorem flatL_len {enc : α → List Value} {k : Nat} (hk : ∀ x, (enc x).length = k) (xs : List α) : (flatL enc xs).length = xs.length * k := by
  induction xs with
  | nil => simp [flatL]
  | cons x r ih => simp only [flatL, List.flatMap_cons, List.length_append, hk, List.length_cons, Nat.add_mul, Nat.one_mul] at *; omega
omit [Inhabited α] in
theorem flatL_get {enc : α → List Value} {k : Nat} (hk : ∀ x, (enc x).length = k) : ∀ (xs : List α) (i c : Nat) (h : i < xs.length), c < k → (flatL enc xs)[i * k + c]? = (enc xs[i])[c]?
  | [], i, c, h, _ => by simp at h
  | x :: r, 0, c, h, hc => by
    simp only [flatL, List.flatMap_cons, Nat.zero_mul, Nat.zero_add]
    rw [List.getElem?_append_left (by rw [hk]; exact hc)]; rfl
  | x :: r, i + 1, c, h, hc => by
    simp only [flatL, List.flatMap_cons]
    rw [List.getElem?_append_right (by rw [hk, Nat.add_mul, Nat.one_mul]; omega), hk, show (i + 1) * k + c - k = i * k + c by rw [Nat.add_mul, Nat.one_mul]; omega]
    exact flatL_get hk r i c (by simpa using h) hc
omit [Inhabited α] in
theorem flatL_one {enc : α → List Value} (h1 : ∀ x, ∀ v ∈ enc x, v.oneCell' = true) (xs : List α) : ∀ v ∈ flatL enc xs, v.oneCell' = true := fun v hv => by
  simp only [flatL, List.mem_flatMap] at hv
  obtain ⟨x, _, hv⟩ := hv
  exact h1 x v hv
/-- A row whose cells are those of xs holds xs. -/
theorem holdsK_flat {enc : α → List Value} {k : Nat} (hk : ∀ x, (enc x).length = k) {w : World} {g off : Nat} {xs : List α} (hc : ∀ j v, (flatL enc xs)[j]? = some v → w.cell? ⟨g, off + j, none⟩ = some v) (hf : ∀ j, j < (flatL enc xs).length → w.frozen? ⟨g, off + j, none⟩ = false) : HoldsK enc k w g off xs.toArray :=
  holdsK_of fun i c hi hcc => by
    have hi' : i < xs.length := by simpa using hi
    have e := flatL_get hk xs i c hi' hcc
    have hlen : c < (enc xs[i]).length := by rw [hk]; exact hcc
    rw [List.getElem?_eq_getElem hlen] at e
    have hb : i * k + c < (flatL enc xs).length := (List.getElem?_eq_some_iff.1 e).1
    rw [Nat.add_assoc]
    refine ⟨?_, hf _ hb⟩
    rw [hc _ _ e, getElem!_pos xs.toArray i (by simpa using hi'), List.getElem_toArray, getElem!_pos (enc xs[i]) c hlen]
/-- Cells of a row that is owned. -/
theorem own_there {w : World} {base e size n cap : Nat} {xs : List Value} {g o : Nat} (h : w.ownsRow base e size (.slice (some ⟨g, o, none⟩) n cap) n xs) : o = 0 ∧ base ≤ g ∧ g < w.heap.size ∧ n ≤ cap ∧ (∀ (j : Nat) (v : Value), xs[j]? = some v → w.cell? ⟨g, j, none⟩ = some v) ∧ ∀ j, w.frozen? ⟨g, j, none⟩ = false := by
  rcases h.2 with ⟨h1, h2⟩ | ⟨g', cap', cur, hv, hg, hh, hn, hcm, hcur, hpre⟩
  · cases h1
  · cases hv
    refine ⟨rfl, hg, (Array.getElem?_eq_some_iff.1 hh).1, hn, fun j v hj => ?_, fun j => by simp [World.frozen?, hh]⟩
    rw [← hpre] at hj
    have : cur.toList[j]? = some v := by
      rw [List.getElem?_take] at hj
      split at hj
      · exact hj
      · cases hj
    simp only [World.cell?, hh]
    simpa using this
/-- A row of elements that is owned holds them. -/
theorem own_holdsK {enc : α → List Value} {k : Nat} (hk : ∀ x, (enc x).length = k) {w : World} {base e n cap : Nat} {xs : List α} {g o : Nat} (h : w.ownsRow base e k (.slice (some ⟨g, o, none⟩) n cap) n (flatL enc xs)) : HoldsK enc k w g 0 xs.toArray := by
  obtain ⟨_, _, _, _, h1, h2⟩ := own_there h
  exact holdsK_flat hk (fun j v hv => by rw [Nat.zero_add]; exact h1 j v hv) (fun j _ => by rw [Nat.zero_add]; exact h2 j)
theorem own_frozen {w : World} {base e size n cap : Nat} {xs : List Value} {g o : Nat} (h : w.ownsRow base e size (.slice (some ⟨g, o, none⟩) n cap) n xs) (j : Nat) : w.frozen? ⟨g, 0 + j, none⟩ = false := by
  obtain ⟨_, _, _, _, _, h2⟩ := own_there h
  rw [Nat.zero_add]; exact h2 j
/-- A slice of elements of k cells that the call owns. -/
def OwnE (enc : α → List Value) (k : Nat) (e : TypeId) (w : World) (base : Nat) (ao : Option Addr) (cap : Nat) (xs : List α) : Prop := w.ownsRow base e k (.slice ao xs.length cap) xs.length (flatL enc xs)
omit [Inhabited α] in
theorem OwnE.nil (enc : α → List Value) (k : Nat) (e : TypeId) (w : World) (base : Nat) : OwnE enc k e w base none 0 [] := World.ownsRow_nil w base e k
omit [Inhabited α] in
theorem OwnE.keep {enc : α → List Value} {k : Nat} {e : TypeId} {w w' : World} {base B : Nat} {p : Option Nat} {ao : Option Addr} {cap : Nat} {xs : List α} (h : OwnE enc k e w base ao cap xs) (hx : Ex B p w w') (hB : w.heap.size ≤ B) (hp : ∀ q, p = some q → q < base) : OwnE enc k e w' base ao cap xs := own_keep h hx hB hp
omit [Inhabited α] in
theorem OwnE.lt {enc : α → List Value} {k : Nat} {e : TypeId} {w : World} {base : Nat} {ao : Option Addr} {cap : Nat} {xs : List α} (h : OwnE enc k e w base ao cap xs) : ∀ a, ao = some a → base ≤ a.block ∧ a.block < w.heap.size := by
  intro a e; subst e; exact World.ownsRow.lt h _ rfl
omit [Inhabited α] in
theorem OwnE.cases {enc : α → List Value} {k : Nat} {e : TypeId} {w : World} {base : Nat} {ao : Option Addr} {cap : Nat} {xs : List α} (h : OwnE enc k e w base ao cap xs) : (ao = none ∧ cap = 0 ∧ xs = []) ∨ ∃ g, ao = some ⟨g, 0, none⟩ ∧ base ≤ g ∧ g < w.heap.size ∧ xs.length ≤ cap := by
  rcases h.2 with ⟨h1, h2⟩ | ⟨g, cap', cur, hv, hg, hh, hn, _⟩
  · simp only [Value.slice.injEq] at h1
    obtain ⟨rfl, _, rfl⟩ := h1
    exact Or.inl ⟨rfl, rfl, List.eq_nil_of_length_eq_zero h2⟩
  · cases hv; exact Or.inr ⟨g, rfl, hg, (Array.getElem?_eq_some_iff.1 hh).1, hn⟩
theorem OwnE.holds {enc : α → List Value} {k : Nat} (hk : ∀ x, (enc x).length = k) {e : TypeId} {w : World} {base g o cap : Nat} {xs : List α} (h : OwnE enc k e w base (some ⟨g, o, none⟩) cap xs) : HoldsK enc k w g 0 xs.toArray := own_holdsK hk h

omit [Inhabited α] in
/-- 'append(out, src...)', out a slice of such elements of the call's own, src as many cells as ys says (nil too). -/
theorem wpList_appE {P : Program} {w0 w : World} {ops : Array Oper} {rest : List Oper} {o : Oper} {a : Act} {Q : Exit → Act → World → Prop} (hgd : o.guard = none) (s x : Operand) (t e : TypeId)
    (ho : o.op = .call { callee := .builtin .append, args := #[s, x], argTypes := #[t, t] })
    (ht : P.underlying t = some (.slice e)) (z : Value) (k bytes : Nat) (hinfo : (P.info? e).map (fun i => (i.zero, i.size, i.bytes)) = some (some z, k, bytes)) (hzc : z.cells.size = k) (hk0 : 0 < k) (hb : bytes ≤ 1000)
    (enc : α → List Value) (hk : ∀ x, (enc x).length = k) (h1 : ∀ x, ∀ v ∈ enc x, v.oneCell' = true)
    (base : Nat) (ao : Option Addr) (cap : Nat) (xs ys : List α) (v u : Value) (n : Nat) (hn : n = xs.length) (hv : v = .slice ao n cap) (hs : a.eval s = v) (so : Option Addr) (m sc : Nat) (hx : a.eval x = u) (hu : u = .slice so m sc) (hm : m = ys.length)
    (hsrc : ys.length = 0 ∨ ∃ ad, so = some ad ∧ ∀ (j : Nat) (v : Value), (flatL enc ys)[j]? = some v → w.cell? (ad.add j) = some v)
    (hown : OwnE enc k e w0 base ao cap xs) (hw : Ex w0.heap.size none w0 w) (hlen : xs.length + ys.length ≤ 10000000) (hbase : base ≤ w0.heap.size)
    (h : ∀ ao' cap' w', OwnE enc k e w' base ao' cap' (xs ++ ys) → Ex base none w0 w' → wpList P ops Q rest (a.put o.dst (.slice ao' (xs.length + ys.length) cap')) w') : wpList P ops Q (o :: rest) a w := by
  subst hn hm hu hv
  obtain ⟨i0, hi, hz0, hz1, hz2⟩ := info_parts hinfo
  have hown' : OwnE enc k e w base ao cap xs := hown.keep hw (Nat.le_refl _) (by simp)
  have hsz := hw.size
  have key : ∀ so ad, so = some ad → a.eval x = .slice so ys.length sc → (∀ (j : Nat) (v : Value), (flatL enc ys)[j]? = some v → w.cell? (ad.add j) = some v) → wpList P ops Q (o :: rest) a w := fun so ad e1 hx hsrc => by
    subst e1
    refine wpList_append_own _ hgd s x t ho base e i0 z k bytes ht hi hz0 hz1 hz2 hzc hk0 _ _ _ hs hown' ad ys.length sc (flatL enc ys) hx (flatL_len hk ys) hsrc (flatL_one h1 ys) (by simp only [maxLen]; omega) ?_ (by omega) ?_
    · have := Nat.mul_le_mul hlen hb; omega
    · intro v' w' ho' hg _
      obtain ⟨ao', cap', rfl⟩ := own_shape ho'
      refine h ao' cap' w' ?_ ((hw.mono hbase).grown hg (by omega) ?_)
      · unfold OwnE
        have e1 : flatL enc (xs ++ ys) = flatL enc xs ++ flatL enc ys := by simp [flatL]
        rw [e1, List.length_append]; exact ho'
      · intro q hq
        exact (World.ownsRow.lt hown' q hq).1
  rcases hsrc with h0 | ⟨ad, e1, hc⟩
  · have hy : ys = [] := List.eq_nil_of_length_eq_zero h0
    cases so with
    | some ad => exact key _ ad rfl hx (fun j v hv => by subst hy; simp [flatL] at hv)
    | none =>
      subst hy
      refine wpList_plain hgd fun K hK => ?_
      have hrun := run_append_none (P := P) (w := w) base t o.type e i0 k ht hi _ _ sc _ hown'
      unfold Oper.wp
      simp only [List.length_nil] at hx
      simp [execOp, ho, resolve, invoke, builtin, hs, hx, hrun, Result.andThen]
      exact hK _ _ (by simpa using h ao cap w (by simpa using hown') (hw.mono hbase))
  · exact key so ad e1 hx hc
omit [Inhabited α] in
/-- The one element of a literal. -/
theorem lit_cells {enc : α → List Value} {w : World} {x : α} {t : TypeId} {cs : Array Value} (h : cs.toList = enc x) : ([x] : List α).length = 0 ∨ ∃ ad, some (⟨w.heap.size, 0, none⟩ : Addr) = some ad ∧ ∀ (j : Nat) (v : Value), (flatL enc [x])[j]? = some v → (w.alloc (.cells cs t)).cell? (ad.add j) = some v := by
  refine Or.inr ⟨_, rfl, fun j v hv => ?_⟩
  rw [Addr.add_lit, Nat.zero_add, cell_of_row _ _ _ _ _ _ (heap_alloc_new w _)]
  simp only [flatL, List.flatMap_cons, List.flatMap_nil, List.append_nil] at hv
  rw [← h] at hv
  simpa using hv
end Go.Proofs.YtdifcnhhcinonaaGreat

namespace Go.Proofs.YtdifcnhhcinonaaGreat
open Go.RowKit

theorem Tryz.infoInt : (Tryz.prog.info? 3).map (fun i => (i.zero, i.size, i.bytes)) = some (some (.int .i64 0), 1, 8) := by kernel_rfl
end Go.Proofs.YtdifcnhhcinonaaGreat

namespace Go.Proofs.YtdifcnhhcinonaaGreat
open Go.RowKit Go.Sort

/-- A pin: author, height, digest. -/
abbrev PinD := Int × Int × ByteArray
def pinE (p : PinD) : List Value := [.int .i64 p.1, .int .i64 p.2.1, .string p.2.2]
theorem pinE_len (p : PinD) : (pinE p).length = 3 := rfl
theorem one_pinE : ∀ p, ∀ v ∈ pinE p, v.oneCell' = true := fun p v hv => by simp [pinE] at hv; rcases hv with rfl | rfl | rfl <;> rfl
/-- Elements that are held by value. -/
def valRep {α : Type} (enc : α → List Value) (k : Nat) (hk : ∀ x, (enc x).length = k) (h1 : ∀ x, ∀ v ∈ enc x, v.oneCell' = true) : Rep α where
  k := k
  R := fun _ _ cs x => cs = enc x
  len := fun h => by subst h; exact hk _
  one := fun h => by subst h; exact h1 _
  keep := fun h _ => h
  mono := fun h _ => h
def pinRep : Rep PinD := valRep pinE 3 pinE_len one_pinE

/-- A statement. -/
structure St where
  author : Int
  number : Int
  prev : ByteArray
  time : Int
  kind : Int
  a : Int
  b : Int
  c : Int
  list : List Int
  pins : List PinD
  body : ByteArray
  key : Int
  dig : ByteArray
instance : Inhabited St := ⟨⟨0, 0, ⟨#[]⟩, 0, 0, 0, 0, 0, [], [], ⟨#[]⟩, 0, ⟨#[]⟩⟩⟩
/-- Equal, field for field. -/
def sameS (s t : St) : Bool :=
  decide (s.author = t.author) && decide (s.number = t.number) && decide (s.prev = t.prev) && decide (s.time = t.time) && decide (s.kind = t.kind) && decide (s.a = t.a) && decide (s.b = t.b) && decide (s.c = t.c) &&
  decide (s.list = t.list) && decide (s.pins = t.pins) && decide (s.body = t.body) && (decide (s.key = t.key) && decide (s.dig = t.dig))
/-- A slice's header. -/
structure Sv where
  ao : Option Addr
  n : Nat
  c : Nat
instance : Inhabited Sv := ⟨⟨none, 0, 0⟩⟩
def Sv.v (x : Sv) : Value := .slice x.ao x.n x.c
/-- The cells of a statement whose lists lie at l and p. -/
def stE (x : St × Sv × Sv) : List Value :=
  [.int .i64 x.1.author, .int .i64 x.1.number, .string x.1.prev, .int .i64 x.1.time, .int .i64 x.1.kind, .int .i64 x.1.a, .int .i64 x.1.b, .int .i64 x.1.c, x.2.1.v, x.2.2.v, .string x.1.body, .int .i64 x.1.key, .string x.1.dig]
theorem stE_len (x : St × Sv × Sv) : (stE x).length = 13 := rfl
theorem one_stE : ∀ x, ∀ v ∈ stE x, v.oneCell' = true := fun x v hv => by
  simp only [stE, List.mem_cons, List.not_mem_nil, or_false] at hv
  rcases hv with rfl | rfl | rfl | rfl | rfl | rfl | rfl | rfl | rfl | rfl | rfl | rfl | rfl <;> rfl
/-- The lists of a statement lie where its headers say. -/
def Lies (P : Nat → Prop) (w : World) (x : St × Sv × Sv) : Prop := Sl intRep P w x.2.1.v x.1.list ∧ Sl pinRep P w x.2.2.v x.1.pins
theorem Lies.keep {P : Nat → Prop} {w w' : World} {x : St × Sv × Sv} (h : Lies P w x) (hx : ∀ b, P b → b < w.heap.size → w'.heap[b]? = w.heap[b]?) : Lies P w' x := ⟨h.1.keep (by decide) hx, h.2.keep (by decide) hx⟩
theorem Lies.mono {P P' : Nat → Prop} {w : World} {x : St × Sv × Sv} (h : Lies P w x) (hx : ∀ b, P b → b < w.heap.size → P' b) : Lies P' w x := ⟨h.1.mono (by decide) hx, h.2.mono (by decide) hx⟩
def stRep : Rep St where
  k := 13
  R := fun P w cs s => ∃ l p, cs = stE (s, l, p) ∧ Lies P w (s, l, p)
  len := fun ⟨l, p, h, _⟩ => by subst h; exact stE_len _
  one := fun ⟨l, p, h, _⟩ => by subst h; exact one_stE _
  keep := fun ⟨l, p, h, hs⟩ hx => ⟨l, p, h, hs.keep hx⟩
  mono := fun ⟨l, p, h, hs⟩ hx => ⟨l, p, h, hs.mono hx⟩
theorem sl_ints {P : Nat → Prop} {w : World} {v : Value} {xs : List Int} (h : Sl intRep P w v xs) : Ints w v xs := by
  obtain ⟨ao, cap, rfl, h⟩ := h
  refine ⟨ao, cap, rfl, fun j hj => ?_⟩
  obtain ⟨b, off, cs, e, hp, hr, hR⟩ := h 0 (by omega)
  refine ⟨b, off, e, fun i hi => ?_⟩
  obtain ⟨b', off', cs', e', hp', hr', hR'⟩ := h i hi
  rw [e] at e'; cases e'
  have := hr' 0 (.int .i64 xs[i]) (by rw [show cs' = _ from hR']; rfl)
  rw [show off + i = off + i * intRep.k + 0 by simp [intRep]]
  rw [this]; simp [List.getD, hi]
theorem ints_sl {P : Nat → Prop} {w : World} {v : Value} {xs : List Int} (h : Ints w v xs) (hP : ∀ ao n c, v = .slice ao n c → xs ≠ [] → ∀ a, ao = some a → P a.block) : Sl intRep P w v xs := by
  obtain ⟨ao, cap, rfl, h⟩ := h
  refine ⟨ao, cap, rfl, fun i hi => ?_⟩
  obtain ⟨b, off, e, hc⟩ := h i hi
  refine ⟨b, off, [.int .i64 xs[i]], e, hP _ _ _ rfl (by intro h0; subst h0; simp at hi) _ e, fun j v hv => ?_, rfl⟩
  match j, hv with
  | 0, hv =>
    simp at hv; subst hv
    have := hc i hi
    rw [show off + i * intRep.k + 0 = off + i by simp [intRep]]
    rw [this]; simp [List.getD, hi]
  | j + 1, hv => simp at hv
/-- The cells of a slice of elements that are held by value. -/
theorem val_cells {α : Type} {enc : α → List Value} {k : Nat} {hk : ∀ x, (enc x).length = k} {h1 : ∀ x, ∀ v ∈ enc x, v.oneCell' = true} (hk0 : 0 < k) {P : Nat → Prop} {w : World} {ao : Option Addr} {xs : List α} (h : SlAt (valRep enc k hk h1) P w ao xs) : xs.length = 0 ∨ ∃ ad, ao = some ad ∧ ∀ (j : Nat) (v : Value), (flatL enc xs)[j]? = some v → w.cell? (ad.add j) = some v := by
  rcases Nat.eq_zero_or_pos xs.length with h0 | h0
  · exact Or.inl h0
  · obtain ⟨b, off, _, e, _, _, _⟩ := h 0 h0
    refine Or.inr ⟨_, e, fun j v hv => ?_⟩
    have hl := flatL_len hk xs
    have hj := (List.getElem?_eq_some_iff.1 hv).1
    have hi : j / k < xs.length := Nat.div_lt_of_lt_mul (by rw [Nat.mul_comm]; omega)
    obtain ⟨b', off', cs, e', _, hr, hR⟩ := h (j / k) hi
    rw [e] at e'; cases e'
    have hm : j / k * k + j % k = j := Nat.div_add_mod' j k
    have hg := flatL_get hk xs (j / k) (j % k) hi (Nat.mod_lt _ hk0)
    rw [hm, hv] at hg
    have hcs : cs = enc xs[j / k] := hR
    have := hr (j % k) v (by rw [hcs]; exact hg.symm)
    rw [Addr.add_lit, ← hm, ← Nat.add_assoc]
    exact this
/-- A row that holds elements by value is a slice of them. -/
theorem val_sl {α : Type} [Inhabited α] {enc : α → List Value} {k : Nat} {hk : ∀ x, (enc x).length = k} {h1 : ∀ x, ∀ v ∈ enc x, v.oneCell' = true} {P : Nat → Prop} {w : World} {g : Nat} {xs : List α} (hP : P g) (h : HoldsK enc k w g 0 xs.toArray) : SlAt (valRep enc k hk h1) P w (some ⟨g, 0, none⟩) xs := fun i hi => by
  refine ⟨g, 0, enc xs[i], rfl, hP, ?_, rfl⟩
  have := holdsK_range hk h i (by simpa using hi)
  rwa [getElem!_pos xs.toArray i hi, List.getElem_toArray] at this
/-- A row that holds statements is a slice of them, if their lists lie somewhere. -/
theorem st_sl {P : Nat → Prop} {w : World} {g : Nat} {xs : List (St × Sv × Sv)} (hP : P g) (h : HoldsK stE 13 w g 0 xs.toArray) (hl : ∀ x ∈ xs, Lies P w x) : SlAt stRep P w (some ⟨g, 0, none⟩) (xs.map (·.1)) := fun i hi => by
  have hi' : i < xs.length := by simpa using hi
  refine ⟨g, 0, stE xs[i], rfl, hP, ?_, xs[i].2.1, xs[i].2.2, by simp, by simpa using hl _ (List.getElem_mem hi')⟩
  have := holdsK_range stE_len h i (by simpa using hi')
  rwa [getElem!_pos xs.toArray i hi', List.getElem_toArray] at this
end Go.Proofs.YtdifcnhhcinonaaGreat

namespace Go.Proofs.YtdifcnhhcinonaaGreat

def hasI (xs : List Int) (x : Int) : Bool := xs.contains x
/-- 0 .. n-1 for which c holds. -/
def keysTo (c : Int → Bool) : Nat → List Int
  | 0 => []
  | k + 1 => keysTo c k ++ (if c k then [(k : Int)] else [])
def joinI (a b : List Int) : List Int := keysTo (fun k => hasI a k || hasI b k) 64
def minusI (a b : List Int) : List Int := keysTo (fun k => hasI a k && !hasI b k) 64

/-- n modulo m, from 0 on. -/
def modI (n m : Int) : Int := if m < 1 then 0 else n % m
/-- Dice: the numbers that are left. -/
def dVal (d : List Int) (n : Int) : Int := match d with | [] => 0 | x :: _ => modI x n
def someTo (d : List Int) : Nat → List Int × List Int
  | 0 => ([], d)
  | k + 1 => ((someTo d k).1 ++ (if dVal (someTo d k).2 3 = 0 then [(k : Int)] else []), (someTo d k).2.tail)
/-- Some keys below n, at least one: the keys, and what is left of the dice. -/
def keysD (d : List Int) (n : Int) : List Int × List Int :=
  if (someTo d n.toNat).1 = [] then ([dVal (someTo d n.toNat).2 n], (someTo d n.toNat).2.tail) else someTo d n.toNat

/-- The first newcomers of an order. -/
def newcTo (xs old : List Int) (q : Int) : Nat → List Int
  | 0 => []
  | k + 1 => if ((newcTo xs old q k).length : Int) < q ∧ hasI old (xs.getD k 0) = false ∧ hasI (newcTo xs old q k) (xs.getD k 0) = false then newcTo xs old q k ++ [xs.getD k 0] else newcTo xs old q k
def newc (xs old : List Int) (q : Int) : List Int := newcTo xs old q xs.length
def fitsI (old next : List Int) (q : Int) : Bool := decide (((newc next old next.length).length : Int) ≤ q)
def thereTo (g ks : List Int) : Nat → Nat
  | 0 => 0
  | k + 1 => thereTo g ks k + (if hasI g (ks.getD k 0) then 1 else 0)
def mostI (g ks : List Int) (e q : Int) : Int := min (ks.length : Int) (thereTo g ks ks.length + e * q)
end Go.Proofs.YtdifcnhhcinonaaGreat

namespace Go.Proofs.YtdifcnhhcinonaaGreat
open Go.RowKit Go.Sort

theorem bytes_inj {a b : ByteArray} : a.toList = b.toList ↔ a = b := by
  constructor
  · intro h
    rw [ByteArray.toList_eq, ByteArray.toList_eq] at h
    obtain ⟨⟨x⟩⟩ := a
    obtain ⟨⟨y⟩⟩ := b
    simp at h; subst h; rfl
  · rintro rfl; rfl
end Go.Proofs.YtdifcnhhcinonaaGreat

namespace Go.Proofs.YtdifcnhhcinonaaGreat
open Go.RowKit Go.Sort

theorem seal_eql (k l : Int) (d e : ByteArray) : ∀ w, (binOp .eql 26 (.agg #[.int .i64 k, .string d]) (.agg #[.int .i64 l, .string e])).run Tryz.prog w = .ok (.bool (decide (k = l) && decide (d = e))) w := fun w => by
  simp [go_sem, bytes_inj]
  by_cases h1 : k = l <;> by_cases h2 : d = e <;> simp [h1, h2]
theorem bytes_beq {a b : ByteArray} (h : a = b) : (a == b) = true ∧ (a.toList == b.toList) = true := by
  subst h
  refine ⟨?_, by simp⟩
  rw [beq_toListBytes]; simp
theorem bytes_nbeq {a b : ByteArray} (h : ¬ a = b) : (a == b) = false ∧ (a.toList == b.toList) = false := by
  have h2 : (a.toList == b.toList) = false := by
    rw [Bool.eq_false_iff]; intro h'
    exact h (bytes_inj.1 (by simpa using h'))
  exact ⟨by rw [beq_toListBytes]; exact h2, h2⟩
end Go.Proofs.YtdifcnhhcinonaaGreat

namespace Go.Proofs.YtdifcnhhcinonaaGreat
open Go.RowKit Go.Sort

/-- A world in which no block of w has been turned. -/
structure ExW (w : World) where
  w' : World
  ex : Ex w.heap.size none w w'
instance (w : World) : Inhabited (ExW w) := ⟨⟨w, Ex.refl _ _ _⟩⟩
theorem wp_region_quiet_ex {P : Program} {id : Nat} {Q : Exit → Act → World → Prop} {a : Act} {w : World} {l : List Oper} (hm : P.follows .mixedOrders = true) (hB : Region.lexB .any l.toArray = true)
    (h : wpQuiet P l.toArray (fun v => ∃ p : ExW w, v = p.w') (fun a' => ∀ v, (∃ p : ExW w, v = p.w') → Q .normal a' v) l a) : (Code.region id l.toArray true).wp P Q a w :=
  wp_region_quiet (C := fun v => ∃ p : ExW w, v = p.w') hm hB ⟨⟨w.drew, (Ex.refl _ _ _).drew⟩, rfl⟩ (by simpa using h)
theorem calls_ex_of {P : Program} {f : FuncId} {args : Array Value} {w : World} {p : ExW w} {v : Value} (h : Calls P f args p.w' fun e w' => e = .returned v ∧ Ex p.w'.heap.size none p.w' w') : Calls P f args p.w' fun e w'' => e = .returned v ∧ ∃ q : ExW w, w'' = q.w' :=
  h.mono fun _ _ ⟨he, hx⟩ => ⟨he, ⟨_, p.ex.trans hx p.ex.size (by simp)⟩, rfl⟩
/-- The cells of a statement, one by one. -/
theorem st_at {w : World} {b o : Nat} {x : St × Sv × Sv} (h : w.rangeAt b o (stE x)) :
    w.cell? ⟨b, o, none⟩ = some (.int .i64 x.1.author) ∧ w.cell? ⟨b, o + 1, none⟩ = some (.int .i64 x.1.number) ∧ w.cell? ⟨b, o + 2, none⟩ = some (.string x.1.prev) ∧ w.cell? ⟨b, o + 3, none⟩ = some (.int .i64 x.1.time) ∧
    w.cell? ⟨b, o + 4, none⟩ = some (.int .i64 x.1.kind) ∧ w.cell? ⟨b, o + 5, none⟩ = some (.int .i64 x.1.a) ∧ w.cell? ⟨b, o + 6, none⟩ = some (.int .i64 x.1.b) ∧ w.cell? ⟨b, o + 7, none⟩ = some (.int .i64 x.1.c) ∧
    w.cell? ⟨b, o + 8, none⟩ = some x.2.1.v ∧ w.cell? ⟨b, o + 9, none⟩ = some x.2.2.v ∧ w.cell? ⟨b, o + 10, none⟩ = some (.string x.1.body) ∧ w.cell? ⟨b, o + 11, none⟩ = some (.int .i64 x.1.key) ∧ w.cell? ⟨b, o + 12, none⟩ = some (.string x.1.dig) :=
  ⟨h 0 _ rfl, h 1 _ rfl, h 2 _ rfl, h 3 _ rfl, h 4 _ rfl, h 5 _ rfl, h 6 _ rfl, h 7 _ rfl, h 8 _ rfl, h 9 _ rfl, h 10 _ rfl, h 11 _ rfl, h 12 _ rfl⟩
end Go.Proofs.YtdifcnhhcinonaaGreat

namespace Go.Proofs.YtdifcnhhcinonaaGreat
open Go.RowKit Go.Sort

theorem Tryz.infoPin : (Tryz.prog.info? 125).map (fun i => (i.zero, i.size, i.bytes)) = some (some (.agg #[.int .i64 0, .int .i64 0, .string ⟨#[]⟩]), 3, 32) := by kernel_rfl
theorem ex_two0 {w : World} (o1 o2 : Obj) : Ex w.heap.size none w ((w.alloc o1).alloc o2) := (Ex.new w o1).trans ((Ex.new _ o2).mono (by simp)) (Nat.le_refl _) (by simp)
theorem ex_two_trans {w w' : World} {o1 o2 : Obj} (h : Ex ((w.alloc o1).alloc o2).heap.size none ((w.alloc o1).alloc o2) w') : Ex w.heap.size none w w' := (ex_two0 o1 o2).trans (h.mono (by simp <;> omega)) (Nat.le_refl _) (by simp)
theorem set_far {w : World} {b q o : Nat} {v : Value} {x : Option Obj} (h : b ≠ q) (e : w.heap[b]? = x) : (w.setCell ⟨q, o, none⟩ v).heap[b]? = x := (Below.heap_setCell _ _ _ _ (show b ≠ q from h)).trans e
theorem bcell {W w1 : World} (hb : Below W.heap.size W w1) : (∀ b o, b < W.heap.size → w1.cell? ⟨b, o, none⟩ = W.cell? ⟨b, o, none⟩) ∧ (∀ b o, b < W.heap.size → w1.frozen? ⟨b, o, none⟩ = W.frozen? ⟨b, o, none⟩) :=
  ⟨fun b o h => hb.cell (p := ⟨b, o, none⟩) h, fun b o h => hb.frozen (p := ⟨b, o, none⟩) h⟩
theorem own_ints_sl {w : World} {base : Nat} {ao : Option Addr} {cap : Nat} {xs : List Int} (h : OwnI w base ao cap xs) : Sl intRep (fun b => base ≤ b) w (.slice ao xs.length cap) xs :=
  ints_sl h.v (fun ao' n c e _ a ha => by cases e; exact (h.lt a ha).1)
theorem own_val_sl {α : Type} [Inhabited α] {enc : α → List Value} {k : Nat} {hk : ∀ x, (enc x).length = k} {h1 : ∀ x, ∀ v ∈ enc x, v.oneCell' = true} {w : World} {base : Nat} {e : TypeId} {ao : Option Addr} {cap : Nat} {xs : List α} (h : OwnE enc k e w base ao cap xs) : Sl (valRep enc k hk h1) (fun b => base ≤ b) w (.slice ao xs.length cap) xs := by
  refine ⟨ao, cap, rfl, ?_⟩
  rcases h.cases with ⟨_, _, h0⟩ | ⟨g, rfl, h2, _, _⟩
  · subst h0; exact SlAt.nil _ _ _
  · exact val_sl h2 (h.holds hk)

set_option maxHeartbeats 2000000 in
set_option maxRecDepth 100000 in
theorem copy03_any {P : Nat → Prop} (s : St) (lo po : Option Addr) (ln lc pn pc : Nat) (w : World) (hx1 : Sl intRep P w (.slice lo ln lc) s.list) (hx2 : Sl pinRep P w (.slice po pn pc) s.pins) (hm : s.list.length ≤ 1000000) (hm2 : s.pins.length ≤ 1000000) :
    Calls Tryz.prog 44 #[.agg #[.int .i64 s.author, .int .i64 s.number, .string s.prev, .int .i64 s.time, .int .i64 s.kind, .int .i64 s.a, .int .i64 s.b, .int .i64 s.c, .slice lo ln lc, .slice po pn pc, .string s.body, .int .i64 s.key, .string s.dig]] w fun e w' =>
      ∃ l p : Sv, e = .returned (.agg (stE (s, l, p)).toArray) ∧ Lies (fun b => w.heap.size ≤ b) w' (s, l, p) ∧ Ex w.heap.size none w w' := by
  have HX1 := Lib.hid hx1
  have HX2 := Lib.hid hx2
  obtain ⟨x0, c0, e0, r0⟩ := hx1
  obtain ⟨x1, c1, e1, r1⟩ := hx2
  clear r0 r1
  simp only [Value.slice.injEq] at e0 e1
  obtain ⟨rfl, rfl, rfl⟩ := e0
  obtain ⟨rfl, rfl, rfl⟩ := e1
  go_enter Tryz.func44, Tryz.ntmps44
  go_wp2_with (first
    | (at_builtin; refine wpList_appIs rfl (.const (.slice none 0 0)) (.tmp 4) _ rfl Tryz.underlying23 Tryz.infoInt _ none 0 [] s.list (.slice none 0 0) _ 0 rfl rfl (by rfl) (by rfl) (sl_ints (HX1.out.keep (by decide) (fun b _ hb => (ex_two0 _ _).block b hb (by simp)))) (OwnI.nil _ _) (Ex.refl _ _ _) (by simp; omega) (Nat.le_refl _) ?_; intro la lcap w1 hown1 hex1; obtain ⟨hc1, hf1⟩ := bcell hex1.below; have hz1 := hex1.size; simp at hz1; have hy1 : w.heap.size < w1.heap.size := (by omega); have hx1 : w.heap.size + 1 < w1.heap.size := (by omega); have HE1 : Hid (Ex w.heap.size none w w1) := ex_two_trans hex1; have HO1 := Lib.hid hown1; clear hown1 hex1)
    | (at_builtin
       have _tt := HE1
       refine wpList_appE rfl (.const (.slice none 0 0)) (.tmp 8) _ 125 rfl Tryz.underlying24 (.agg #[.int .i64 0, .int .i64 0, .string ⟨#[]⟩]) 3 32 Tryz.infoPin rfl (by decide) (by decide) pinE pinE_len one_pinE _ none 0 [] s.pins (.slice none 0 0) _ 0 rfl rfl (by rfl) po s.pins.length pc (by rfl) rfl rfl (val_cells (hk := pinE_len) (h1 := one_pinE) (by decide) (HX2.out.keep (by decide) (fun b _ hb => (HE1.out.setCell 8 none _ (Or.inr (Nat.le_refl _))).block b hb (by simp))).at') (OwnE.nil _ _ _ _ _) (Ex.refl _ _ _) (by simp; omega) (Nat.le_refl _) ?_
       intro pa pcap w2 hown2 hex2
       obtain ⟨hc2, hf2⟩ := bcell hex2.below
       have hz2 := hex2.size
       simp at hz2
       have hy2 : w.heap.size < w2.heap.size := (by omega)
       have hx2 : w.heap.size + 1 < w2.heap.size := (by omega)
       have HE2 : Hid (Ex w.heap.size none w w2) := ((HE1.out.setCell (q := w.heap.size) 8 none (.slice la s.list.length lcap) (Or.inr (Nat.le_refl _))).trans (hex2.mono (by simp <;> omega)) (Nat.le_refl _) (by simp))
       have HO2 := Lib.hid hown2
       have HX12 := Lib.hid hex2
       clear hown2 hex2
       have q8 : w2.cell? ⟨w.heap.size, 8, none⟩ = some (.slice la s.list.length lcap) := (hc2 w.heap.size 8 (by simpa using hy1)).trans (World.cell?_setCell_same _ _ _ (show w1.cell? ⟨w.heap.size, 8, none⟩ = some (.slice lo s.list.length lc) from (hc1 w.heap.size 8 (by simp <;> omega)).trans (by go_simp)))
       have qs := fun (o : Nat) (h : o ≠ 8) => ((hc2 w.heap.size o (by simpa using hy1)).trans (World.cell?_setCell_other _ _ _ _ (by simp <;> omega))).trans (hc1 w.heap.size o (by simp <;> omega))
       have qr := fun (o : Nat) => ((hc2 (w.heap.size + 1) o (by simpa using hx1)).trans (World.cell?_setCell_other _ _ _ _ (by simp))).trans (hc1 (w.heap.size + 1) o (by simp <;> omega))
       clear hc1 hc2))
  refine bodyPost_ret (v := .agg #[.int .i64 s.author, .int .i64 s.number, .string s.prev, .int .i64 s.time, .int .i64 s.kind, .int .i64 s.a, .int .i64 s.b, .int .i64 s.c, .slice la s.list.length lcap, .slice pa s.pins.length pcap, .string s.body, .int .i64 s.key, .string s.dig]) (by simp [results, Tryz.results44, go_sem, qr]) rfl ?_
  have hO1 : OwnI w2 (w.heap.size + 2) la lcap s.list := by
    have h1 := HO1.out
    have h2 : Ex w1.heap.size (some w.heap.size) w1 w2 := ((Ex.refl w1.heap.size (some w.heap.size) w1).setCell (q := w.heap.size) 8 none (.slice la s.list.length lcap) (Or.inl rfl)).trans HX12.out (by simp) (by simp)
    have h3 := h1.keep h2 (Nat.le_refl _) (fun q e => by cases e; simp <;> omega)
    simpa using h3
  have hO2 : OwnE pinE 3 125 w2 (w.heap.size + 2) pa pcap s.pins := by
    have h1 := HO2.out
    refine ⟨by simpa using h1.1, ?_⟩
    rcases h1.2 with h | ⟨g, cap, cur, h3, h4, h5⟩
    · exact Or.inl (by simpa using h)
    · exact Or.inr ⟨g, cap, cur, by simpa using h3, by simp at h4; omega, by simpa using h5⟩
  refine ⟨⟨la, s.list.length, lcap⟩, ⟨pa, s.pins.length, pcap⟩, rfl, ?_, ?_⟩
  · refine Lies.mono (P := fun b => w.heap.size + 2 ≤ b) (Lies.keep (w := w2) ⟨own_ints_sl hO1, own_val_sl hO2⟩ fun b hb _ => ?_) (fun b hb _ => by omega)
    iterate 14 refine set_far (by omega) ?_
    rfl
  · iterate 14 refine Ex.setCell ?_ _ none _ (Or.inr (by omega))
    exact HE2.out
end Go.Proofs.YtdifcnhhcinonaaGreat

namespace Go.Proofs.YtdifcnhhcinonaaGreat
open Go.RowKit Go.Sort

structure CLayLink (P : Program) (k : Nat) : Prop where
  mixed : P.follows .mixedOrders = true
  t0 : P.underlying 0 = some (TypeDesc.tuple #[])
  a0 : ∀ w, (isAgg 0).run P w = .ok false w
  z0 : ∀ w, (Go.sizeOf 0).run P w = .ok 1 w
  v0 : ∀ w, (zeroValue 0).run P w = .ok (Value.tuple #[]) w
  t1 : P.underlying 3 = some (TypeDesc.int IntKind.i64)
  a1 : ∀ w, (isAgg 3).run P w = .ok false w
  z1 : ∀ w, (Go.sizeOf 3).run P w = .ok 1 w
  v1 : ∀ w, (zeroValue 3).run P w = .ok (Value.int IntKind.i64 0) w
  t2 : P.underlying 4 = some (TypeDesc.bool)
  a2 : ∀ w, (isAgg 4).run P w = .ok false w
  z2 : ∀ w, (Go.sizeOf 4).run P w = .ok 1 w
  v2 : ∀ w, (zeroValue 4).run P w = .ok (Value.bool false) w
  t3 : P.underlying 146 = some (TypeDesc.int IntKind.u64)
  a3 : ∀ w, (isAgg 146).run P w = .ok false w
  z3 : ∀ w, (Go.sizeOf 146).run P w = .ok 1 w
  v3 : ∀ w, (zeroValue 146).run P w = .ok (Value.int IntKind.u64 0) w
  t4 : P.underlying 189 = some (TypeDesc.slice 192)
  a4 : ∀ w, (isAgg 189).run P w = .ok false w
  z4 : ∀ w, (Go.sizeOf 189).run P w = .ok 1 w
  v4 : ∀ w, (zeroValue 189).run P w = .ok (Value.slice none 0 0) w
  t5 : P.underlying 234 = some (TypeDesc.func #[192, 192] #[3] false)
  a5 : ∀ w, (isAgg 234).run P w = .ok false w
  z5 : ∀ w, (Go.sizeOf 234).run P w = .ok 1 w
  v5 : ∀ w, (zeroValue 234).run P w = .ok (Value.nilFunc) w
  aE : ∀ w, (isAgg 192).run P w = .ok true w
  zE : ∀ w, (Go.sizeOf 192).run P w = .ok k w

theorem clayLink : CLayLink Tryz.prog 14 := {
  mixed := by kernel_rfl
  t0 := Tryz.underlying0
  a0 := Tryz.isAgg0
  z0 := Tryz.sizeOf0
  v0 := Tryz.zeroValue0
  t1 := Tryz.underlying3
  a1 := Tryz.isAgg3
  z1 := Tryz.sizeOf3
  v1 := Tryz.zeroValue3
  t2 := Tryz.underlying4
  a2 := Tryz.isAgg4
  z2 := Tryz.sizeOf4
  v2 := Tryz.zeroValue4
  t3 := Tryz.underlying146
  a3 := Tryz.isAgg146
  z3 := Tryz.sizeOf146
  v3 := Tryz.zeroValue146
  t4 := Tryz.underlying189
  a4 := Tryz.isAgg189
  z4 := Tryz.sizeOf189
  v4 := Tryz.zeroValue189
  t5 := Tryz.underlying234
  a5 := Tryz.isAgg234
  z5 := Tryz.sizeOf234
  v5 := Tryz.zeroValue234
  aE := Tryz.isAgg192
  zE := Tryz.sizeOf192 }
end Go.Proofs.YtdifcnhhcinonaaGreat

namespace Go.Proofs.YtdifcnhhcinonaaGreat
open Go.RowKit Go.Sort
variable {P : Program} {α : Type} [Inhabited α]

/-- What is asked of a function that tells whether two elements are the same. -/
def EqAtLink (P : Program) (f : Nat) (cb : Array Value) (enc : α → List Value) (eq : α → α → Bool) : Prop :=
  ∀ (w : World) (x y : α), Calls P f (#[.agg (enc x).toArray, .agg (enc y).toArray] ++ cb) w fun e w' => e = .returned (.bool (eq x y)) ∧ ∃ q os', w' = grow (w.drewN q) os'
set_option maxHeartbeats 8000000 in
set_option maxRecDepth 1000000 in
theorem compactLink_any {k : Nat} (L : CLayLink P k) (enc : α → List Value) (hk : ∀ x, (enc x).length = k) (h1 : ∀ x, ∀ v ∈ enc x, v.oneCell' = true) (eq : α → α → Bool) (f : Nat) (cb : Array Value)
    (ef : ∀ args w, (callFunc f args).run P w = .ok (.enter f args) w) (hcmp : EqAtLink P f cb enc eq)
    (fC : P.funcs[218]? = some Tryz.f218)
    (z : Array Value) (hv : ∀ w, (zeroValue 192).run P w = .ok (.agg z) w) (hz : z.size = k) (hz1 : ∀ v ∈ z, v.oneCell' = true)
    (_t6 : P.underlying 193 = some (TypeDesc.func #[192, 192] #[4] false))
    (_a6 : ∀ w, (isAgg 193).run P w = .ok false w) (_z6 : ∀ w, (Go.sizeOf 193).run P w = .ok 1 w)
    (g off cap s : Nat) (d : Array α) (w : World) (hH : HoldsK enc k w g off d) (hg : g < w.heap.size) (hsz : d.size < 1000000000000) (hcap : d.size ≤ cap) (hs : d.size = s) :
    Calls P 218 #[.slice (some ⟨g, off, none⟩) s cap, .func (.func f) #[] cb] w fun e w' =>
      e = .returned (.slice (some ⟨g, off, none⟩) (cpt eq d s).length cap) ∧ HoldsK enc k w' g off (cpt eq d s).toArray ∧ Ex w.heap.size (some g) w w' := by
  subst hs
  have mixed := L.mixed; have t0 := L.t0; have a0 := L.a0; have z0 := L.z0; have v0 := L.v0; have t1 := L.t1; have a1 := L.a1; have z1 := L.z1; have v1 := L.v1; have t2 := L.t2; have a2 := L.a2; have z2 := L.z2; have v2 := L.v2; have t3 := L.t3; have a3 := L.a3; have z3 := L.z3; have v3 := L.v3; have t4 := L.t4; have a4 := L.a4; have z4 := L.z4; have v4 := L.v4; have t5 := L.t5; have a5 := L.a5; have z5 := L.z5; have v5 := L.v5; have aE := L.aE; have zE := L.zE
  have u4 := run_underlying L.t4
  have HK := Lib.hid hk
  have H1 := Lib.hid h1
  have HC := Lib.hid hcmp
  have HHw := Lib.hid hH
  have HZ := Lib.hid (And.intro hv (And.intro hz hz1))
  have same : ∀ wr, (∀ j, j < d.size → stays eq d j = true) → HoldsK enc k wr g off d → (cpt eq d d.size).length = d.size ∧ HoldsK enc k wr g off (cpt eq d d.size).toArray := fun wr hall h => by
    have e := cpt_all hall (Nat.le_refl _)
    rw [e, List.take_of_length_le (by simp)]
    exact ⟨by simp, by simpa using h⟩
  have SAME := Lib.hid same
  clear hk h1 hcmp hH hv hz hz1 same
  by_cases h2 : d.size < 2
  · go_enter fC, Tryz.ntmps218
    go_wp2
    go_ret
    obtain ⟨e1, e2⟩ := SAME.out w (fun j hj => by obtain rfl : j = 0 := (by omega); rfl) HHw.out
    exact ⟨by rw [e1]; rfl, e2, Ex.refl _ _ _⟩
  · go_enter fC, Tryz.ntmps218
    go_wp2
    go_loopw [5] (fun s3 wr => ∃ i : Nat, s3 = .int .i64 i ∧ 1 ≤ i ∧ i ≤ d.size ∧ (∀ j, j < i → stays eq d j = true) ∧ HoldsK enc k wr g off d ∧ Ex w.heap.size (some g) w wr) (fun s3 _ => d.size - (intOf s3).toNat)
    case atStart => exact ⟨1, rfl, Nat.le_refl _, by omega, fun j hj => by obtain rfl : j = 0 := (by omega); rfl, HHw.out, Ex.refl _ _ _⟩
    case round =>
      obtain ⟨i, rfl, hi1, hi, hall, hHk, hex⟩ := hrel
      have HHk := Lib.hid hHk
      have HA := Lib.hid hall
      clear hHk hall
      have hsz' := hex.size
      by_cases hlt : i < d.size
      · obtain ⟨ip, hip⟩ : ∃ ip, ip = i - 1 := ⟨_, rfl⟩
        have hwp : IntKind.i64.wrap ((i : Int) - 1) = (ip : Int) := by rw [IntKind.wrap_i64]; omega
        have b1 : (i : Int) < d.size := by omega
        have b2 : (ip : Int) < d.size := by omega
        have HIP := Lib.hid hip
        clear hip
        have hHc : ∀ n' os', HoldsK enc k (grow (wr.drewN n') os') g off d := fun n' os' => holdsK_grow enc k _ os' g off d (by show g < wr.heap.size; omega) (show HoldsK enc k (wr.drewN n') g off d from HHk.out)
        obtain ⟨v1, hv1⟩ : ∃ v, d[i]! = v := ⟨_, rfl⟩
        obtain ⟨v2, hv2⟩ : ∃ v, d[ip]! = v := ⟨_, rfl⟩
        have l1 : ∀ n' os', Sem.run P (loadCellsFrom ⟨g, off + i * k, none⟩ 0 k #[]) (grow (wr.drewN n') os') = .ok (enc v1).toArray (grow (wr.drewN n') os') := fun n' os' => by
          rw [← hv1, show off + i * k = off + (i) * k by rfl]; exact run_loadCellsFrom_list P _ _ _ k (HK.out _) (HoldsK.cells (hHc n' os') HK.out (by omega))
        have l2 : ∀ n' os', Sem.run P (loadCellsFrom ⟨g, off + ip * k, none⟩ 0 k #[]) (grow (wr.drewN n') os') = .ok (enc v2).toArray (grow (wr.drewN n') os') := fun n' os' => by
          rw [← hv2, show off + ip * k = off + (ip) * k by rfl]; exact run_loadCellsFrom_list P _ _ _ k (HK.out _) (HoldsK.cells (hHc n' os') HK.out (by omega))
        have hcg : ∀ n' os', Calls P f (#[.agg (enc v1).toArray, .agg (enc v2).toArray] ++ cb) (grow (wr.drewN n') os') fun e w' => e = .returned (.bool (eq v1 v2)) ∧ ∃ q os'', w' = grow ((grow (wr.drewN n') os').drewN q) os'' := fun n' os' => HC.out _ _ _
        have HV : Hid (d[i]! = v1 ∧ d[ip]! = v2) := ⟨hv1, hv2⟩
        clear hHc hv1 hv2
        by_cases hlv : eq v1 v2 = true
        · simp only [hlv] at hcg
          go_wp2_with fail
          go_quiet_grown (first | (go_at_fn f; refine Calls.grown_of (hcg _ _)))
          have hc0 : i ≤ cap := by omega
          by_cases hce : cap = i
          · omega
          go_wp2
          obtain ⟨wo, hwo⟩ : ∃ wo : World, wo = grow (wr.drewN nq) osq := ⟨_, rfl⟩
          have hHo : HoldsK enc k wo g off d := by rw [hwo]; exact holdsK_grow enc k _ _ g off d (by show g < wr.heap.size; omega) (show HoldsK enc k (wr.drewN nq) g off d from HHk.out)
          have hexo : Ex w.heap.size (some g) w wo := by rw [hwo]; exact hex.trans (exGrowK nq osq none (Nat.le_refl _)) hsz' (by simp)
          rw [← hwo]
          have HHo := Lib.hid hHo
          have HD0 : Hid (stays eq d i = false) := by
            have := stays_of (eq := eq) (d := d) (n := i) (by omega) true (by rw [← HIP.out, HV.out.1, HV.out.2]; exact hlv)
            exact this
          clear hHo hwo l1 l2 hcg hlv
          go_loopw [5, 7] (fun s3 s5 wr => ∃ (kk k2 : Nat) (dk : Array α), s3 = .int .i64 kk ∧ s5 = .int .i64 k2 ∧ 1 ≤ k2 ∧ i + k2 ≤ d.size ∧ CInv eq d (i + k2) kk dk ∧ HoldsK enc k wr g off dk ∧ Ex w.heap.size (some g) w wr) (fun _ s5 _ => d.size - (intOf s5).toNat)
          case atStart => exact ⟨i, 1, d, rfl, rfl, Nat.le_refl _, by omega, CInv.start HA.out HD0.out hlt, HHo.out, hexo⟩
          case round =>
            clear HHk HHo HD0 hex hexo hsz' HV
            obtain ⟨kk, k2, dk, rfl, rfl, h1, hle, hI, hHk, hex⟩ := hrel
            have hkk := hI.lt
            have hds := hI.size
            have HI := Lib.hid hI
            have HHk := Lib.hid hHk
            have HDS := Lib.hid hds
            clear hI hHk hds
            have hsz' := hex.size
            by_cases hlt2 : i + k2 < d.size
            · obtain ⟨mp, hmp⟩ : ∃ mp, mp = k2 - 1 := ⟨_, rfl⟩
              have hwp2 : IntKind.i64.wrap ((k2 : Int) - 1) = (mp : Int) := by rw [IntKind.wrap_i64]; omega
              have hl2 : ((d.size - i : Nat) : Int) = (d.size : Int) - i := by omega
              have b3 : (k2 : Int) < (d.size : Int) - i := by omega
              have b4 : (mp : Int) < (d.size : Int) - i := by omega
              have b5 : k2 < d.size - i := by omega
              have b6 : mp < d.size - i := by omega
              have hdz : dk.size = d.size := HDS.out
              have HMP := Lib.hid hmp
              have HDZ := Lib.hid hdz
              clear hmp hdz
              have hHc : ∀ n' os', HoldsK enc k (grow (wr.drewN n') os') g off dk := fun n' os' => holdsK_grow enc k _ os' g off dk (by show g < wr.heap.size; omega) (show HoldsK enc k (wr.drewN n') g off dk from HHk.out)
              obtain ⟨v1, hv1⟩ : ∃ v, dk[i + k2]! = v := ⟨_, rfl⟩
              obtain ⟨v2, hv2⟩ : ∃ v, dk[i + mp]! = v := ⟨_, rfl⟩
              have l1 : ∀ n' os', Sem.run P (loadCellsFrom ⟨g, off + i * k + k2 * k, none⟩ 0 k #[]) (grow (wr.drewN n') os') = .ok (enc v1).toArray (grow (wr.drewN n') os') := fun n' os' => by
                rw [← hv1, show off + i * k + k2 * k = off + (i + k2) * k by exact shiftAtK _ _ _ _]; exact run_loadCellsFrom_list P _ _ _ k (HK.out _) (HoldsK.cells (hHc n' os') HK.out (by have := HDZ.out; omega))
              have l2 : ∀ n' os', Sem.run P (loadCellsFrom ⟨g, off + i * k + mp * k, none⟩ 0 k #[]) (grow (wr.drewN n') os') = .ok (enc v2).toArray (grow (wr.drewN n') os') := fun n' os' => by
                rw [← hv2, show off + i * k + mp * k = off + (i + mp) * k by exact shiftAtK _ _ _ _]; exact run_loadCellsFrom_list P _ _ _ k (HK.out _) (HoldsK.cells (hHc n' os') HK.out (by have := HDZ.out; omega))
              have hcg : ∀ n' os', Calls P f (#[.agg (enc v1).toArray, .agg (enc v2).toArray] ++ cb) (grow (wr.drewN n') os') fun e w' => e = .returned (.bool (eq v1 v2)) ∧ ∃ q os'', w' = grow ((grow (wr.drewN n') os').drewN q) os'' := fun n' os' => HC.out _ _ _
              have HV : Hid (dk[i + k2]! = v1 ∧ dk[i + mp]! = v2) := ⟨hv1, hv2⟩
              clear hHc hv1 hv2
              by_cases hlv : eq v1 v2 = true
              · simp only [hlv] at hcg
                go_wp2_with fail
                go_quiet_grown (first | (go_at_fn f; refine Calls.grown_of (hcg _ _)))
                go_wp2
                go_roundw
                case rel => exact ⟨kk, k2 + 1, dk, rfl, by go_num, by omega, by omega, HI.out.skip (stays_of (by omega) true (by
                  have e1 := HI.out.rest (i + k2) (by omega)
                  have e2 := HI.out.rest (i + mp) (by have := HMP.out; omega)
                  rw [show i + k2 - 1 = i + mp by have := HMP.out; omega, ← e1, ← e2, HV.out.1, HV.out.2]; exact hlv)), holdsK_grow enc k _ _ g off dk (by show g < wr.heap.size; omega) (show HoldsK enc k (wr.drewN nq) g off dk from HHk.out), hex.trans (exGrowK nq osq none (Nat.le_refl _)) hsz' (by simp)⟩
                case measure => simp [intOf]; omega
              · have hlv' : eq v1 v2 = false := by simpa using hlv
                simp only [hlv'] at hcg
                go_wp2_with fail
                go_quiet_grown (first | (go_at_fn f; refine Calls.grown_of (hcg _ _)))
                obtain ⟨wq, hwq⟩ : ∃ wq : World, wq = grow (wr.drewN nq) osq := ⟨_, rfl⟩
                have hHq : HoldsK enc k wq g off dk := by rw [hwq]; exact holdsK_grow enc k _ _ g off dk (by show g < wr.heap.size; omega) (show HoldsK enc k (wr.drewN nq) g off dk from HHk.out)
                have hexq : Ex w.heap.size (some g) w wq := by rw [hwq]; exact hex.trans (exGrowK nq osq none (Nat.le_refl _)) hsz' (by simp)
                have lq : Sem.run P (loadCellsFrom ⟨g, off + i * k + k2 * k, none⟩ 0 k #[]) wq = .ok (enc v1).toArray wq := by rw [hwq]; exact l1 nq osq
                rw [← hwq]
                have sq : Sem.run P (storeCells ⟨g, off + kk * k, none⟩ (enc v1) 0) wq = .ok () (wq.setCells g (off + kk * k) (enc v1)) := stores_of_holds P hHq (kk * k) _ (by
                  rw [HK.out, size_flatK]
                  have := Nat.mul_le_mul_right k (show kk + 1 ≤ dk.size by have := HDZ.out; omega); rwa [Nat.add_mul, Nat.one_mul] at this) (H1.out _)
                have hsV : (enc v1).length = k := HK.out _
                have HQ := Lib.hid hHq
                have hszq := hexq.size
                clear l1 l2 hcg hwq hHq
                obtain ⟨cV, hcV⟩ : ∃ c, c = enc v1 := ⟨_, rfl⟩
                rw [← hcV] at lq sq hsV
                have CC := Lib.hid hcV
                clear hcV
                have b7 : (kk : Int) < d.size := by omega
                go_wp2
                go_roundw
                case rel =>
                  have e1 := HI.out.rest (i + k2) (by omega)
                  have e2 := HI.out.rest (i + mp) (by have := HMP.out; omega)
                  have hk := HI.out.keep (stays_of (by omega) false (by
                    rw [show i + k2 - 1 = i + mp by have := HMP.out; omega, ← e1, ← e2, HV.out.1, HV.out.2]; exact hlv')) hlt2
                  rw [← e1, HV.out.1] at hk
                  refine ⟨kk + 1, k2 + 1, dk.setIfInBounds kk v1, by go_num, by go_num, by omega, by omega, hk, ?_, hexq.trans (ex_setCells wq g (off + kk * k) cV) hszq (fun q e _ => by cases e; rfl)⟩
                  rw [CC.out]
                  exact holdsK_set HK.out HQ.out kk v1 (by have := HDZ.out; omega)
                case measure => simp [intOf]; omega
            · obtain ⟨n, hn⟩ : ∃ n, n = d.size := ⟨_, rfl⟩
              have hend : i + k2 = d.size := by omega
              have hdz : dk.size = d.size := HDS.out
              have hcl : ∀ ty, (Builtin.clear_ #[189] ty #[.slice (some ⟨g, off + kk * k, none⟩) (d.size - kk) (cap - kk)]).run P wr = .ok (.tuple #[]) (wr.setCells g (off + kk * k) (Builtin.zeroCells z (d.size - kk)).toList) :=
                fun ty => runClearK wr _ _ ty (.agg z) k L.t4 HZ.out.1 HZ.out.2.1 HZ.out.2.2 g (off + kk * k) _ _ (by omega) (fun j hj => by
                  have := (HHk.out (kk * k + j) (by rw [size_flatK, hdz]; have := Nat.add_mul kk (d.size - kk) k; rw [show kk + (d.size - kk) = d.size by omega] at this; omega)).1
                  rw [Nat.add_assoc, this]; rfl) (fun j hj => by
                  have := (HHk.out (kk * k + j) (by rw [size_flatK, hdz]; have := Nat.add_mul kk (d.size - kk) k; rw [show kk + (d.size - kk) = d.size by omega] at this; omega)).2
                  rw [Nat.add_assoc]; exact this)
              have hexc := hex.trans (ex_setCells wr g (off + kk * k) (Builtin.zeroCells z (d.size - kk)).toList) hsz' (fun q e _ => by cases e; rfl)
              have hfin : HoldsK enc k (wr.setCells g (off + kk * k) (Builtin.zeroCells z (d.size - kk)).toList) g off (cpt eq d d.size).toArray := by
                have hI := HI.out
                rw [hend] at hI
                obtain ⟨h1, h2⟩ := hI.head (Nat.le_refl _)
                exact holdsK_behind (holdsK_first HHk.out h1 h2) _ _ (by simp [hI.len])
              have hlen : (cpt eq d d.size).length = kk := by have := HI.out.len; rwa [hend] at this
              have FIN := Lib.hid (And.intro hexc (And.intro hfin hlen))
              have b7 : (kk : Int) ≤ d.size := by omega
              have b8 : ¬ (k2 : Int) < (d.size : Int) - i := by omega
              have b9 : ¬ k2 < d.size - i := by omega
              have b10 : (kk : Int) ≤ cap := by omega
              have b11 : kk ≤ cap := by omega
              have b12 : kk ≤ d.size := by omega
              have b13 : ¬ cap = kk := by omega
              clear hexc hfin hlen hend hdz hn
              go_wp2
              go_ret
              exact ⟨by rw [FIN.out.2.2]; rfl, FIN.out.2.1, FIN.out.1⟩
        · have hlv' : eq v1 v2 = false := by simpa using hlv
          simp only [hlv'] at hcg
          go_wp2_with fail
          go_quiet_grown (first | (go_at_fn f; refine Calls.grown_of (hcg _ _)))
          go_wp2
          go_roundw
          case rel => exact ⟨i + 1, by go_num, by omega, by omega, fun j hj => by
            by_cases e : j = i
            · subst e
              exact stays_of (by omega) false (by rw [← HIP.out, HV.out.1, HV.out.2]; exact hlv')
            · exact HA.out j (by omega), holdsK_grow enc k _ _ g off d (by show g < wr.heap.size; omega) (show HoldsK enc k (wr.drewN nq) g off d from HHk.out), hex.trans (exGrowK nq osq none (Nat.le_refl _)) hsz' (by simp)⟩
          case measure => simp [intOf]; omega
      · obtain rfl : i = d.size := by omega
        go_wp2
        go_ret
        obtain ⟨e1, e2⟩ := SAME.out wr HA.out HHk.out
        exact ⟨by rw [e1]; rfl, e2, hex⟩
end Go.Proofs.YtdifcnhhcinonaaGreat

namespace Go.Proofs.YtdifcnhhcinonaaGreat
open Go.RowKit

/-- A store of a whole value, as a word that the walk does not open. -/
def rowStore (t : TypeId) (a : Addr) (v : Value) : Sem Unit := storeVar t a v
theorem run_rowStore {P : Program} (w : World) (g : Nat) (t ty : TypeId) (old cells : Array Value) (hg : w.heap[g]? = some (.cells old t (0, 0))) (hi : (P.info? ty).map (·.size) = some cells.size)
    (ho : old.size = cells.size) (h1 : cells.all (·.oneCell') = true) : (rowStore ty ⟨g, 0, none⟩ (.agg cells)).run P w = .ok () (w.setRow g cells) := run_storeVar_row w g t ty old cells hg hi ho h1
/-- A load of a whole value, as a word that the walk does not open. -/
def rowLoad (t : TypeId) (a : Addr) : Sem Value := loadVar t a
theorem run_rowLoad {P : Program} (w : World) (g : Nat) (t ty : TypeId) (cs : Array Value) (fr : Nat × Nat) (d : TypeDesc) (hg : w.heap[g]? = some (.cells cs t fr))
    (hu : P.underlying ty = some d) (hd : (match d with | .struct _ | .array _ _ => true | _ => false) = true) (hi : (P.info? ty).map (·.size) = some cs.size) :
    (rowLoad ty ⟨g, 0, none⟩).run P w = .ok (.agg cs) w := run_loadVar_row w g t ty cs fr d hg hu hd hi
/-- A slice of given values, as a word that the walk does not open. -/
def rowBuild (t : TypeId) (n : Nat) (ps : Array (Nat × Value)) : Sem Value := Instr.buildSlice t n ps
theorem fill_one (n : Nat) (zs cs : Array Value) (hz : zs.size = n) (hc : cs.size = n) (hp : 0 < n) : Instr.fill (fun i => some (i * n, n)) zs [(0, .agg cs)] = some cs := by
  obtain ⟨r, h1, h2, h3⟩ := Great.fill_dense hp [.agg cs] 0 zs (by intro v hv; simp only [List.mem_singleton] at hv; subst hv; exact hc) (by simp; omega)
  have e : r = cs := by
    apply Array.ext_getElem?
    intro k
    rw [h3 k]
    by_cases hk : k < n
    · rw [if_pos (by simp; exact hk)]
      simp [Nat.div_eq_of_lt hk, Nat.mod_eq_of_lt hk, Value.cells]
    · rw [if_neg (by simp; omega), Array.getElem?_eq_none (by omega), Array.getElem?_eq_none (by omega)]
  rw [e] at h1
  exact h1
theorem run_rowBuild {P : Program} (w : World) (t e : TypeId) (cs : Array Value) (n bytes : Nat) (z : Value) (hu : P.underlying t = some (.slice e)) (hi : (P.info? e).map (fun i => (i.zero, i.size, i.bytes)) = some (some z, n, bytes))
    (hn : 0 < n) (hb : n ≤ 1000) (hc : cs.size = n) : (rowBuild t 1 #[(0, .agg cs)]).run P w = .ok (.slice (some ⟨w.heap.size, 0, none⟩) 1 1) (w.alloc (.cells cs e)) := by
  cases hq : P.info? e with
  | none => rw [hq] at hi; cases hi
  | some ie =>
    rw [hq] at hi
    simp only [Option.map_some, Option.some.injEq, Prod.mk.injEq] at hi
    obtain ⟨h1, h2, _⟩ := hi
    refine run_buildSlice w t e 1 _ cs ie z hu hq h1 (by rw [h2]; omega) (by rw [h2]; omega) ?_
    rw [h2]
    exact fill_one n _ cs (by simp) hc hn
theorem box_cell {w : World} {g : Nat} {v : Value} {t : TypeId} (h : w.heap[g]? = some (.cells #[v] t (0, 0))) : w.cell? ⟨g, 0, none⟩ = some v := by rw [cell_of_row _ _ _ _ _ _ h]; rfl
end Go.Proofs.YtdifcnhhcinonaaGreat

namespace Go.Proofs.YtdifcnhhcinonaaGreat
open Go.Sort
variable {α β : Type} [Inhabited α] [Inhabited β]

theorem map_get! (f : α → β) (d : Array α) (i : Nat) (h : i < d.size) : (d.map f)[i]! = f d[i]! := by
  rw [getElem!_pos (d.map f) i (by simpa using h), getElem!_pos d i h]; simp
theorem stays_map (f : α → β) {eq : α → α → Bool} {eq' : β → β → Bool} (h : ∀ x y, eq x y = eq' (f x) (f y)) (d : Array α) (j : Nat) (hj : j < d.size) : stays eq d j = stays eq' (d.map f) j := by
  unfold stays
  rw [map_get! f d j hj, map_get! f d (j - 1) (by omega), h]
theorem cpt_map (f : α → β) {eq : α → α → Bool} {eq' : β → β → Bool} (h : ∀ x y, eq x y = eq' (f x) (f y)) (d : Array α) : ∀ n, n ≤ d.size → (cpt eq d n).map f = cpt eq' (d.map f) n := by
  intro n
  induction n with
  | zero => exact fun _ => rfl
  | succ n ih =>
    intro hn
    have e := stays_map f h d n (by omega)
    cases hs : stays eq d n with
    | true => rw [cpt_yes hs, cpt_yes (by rw [← e]; exact hs), List.map_append, ih (by omega), List.map_cons, List.map_nil, map_get! f d n (by omega)]
    | false => rw [cpt_no hs, cpt_no (by rw [← e]; exact hs), ih (by omega)]
theorem cpt_mem {eq : α → α → Bool} {d : Array α} {x : α} : ∀ n, n ≤ d.size → x ∈ cpt eq d n → x ∈ d.toList := by
  intro n
  induction n with
  | zero => exact fun _ h => by cases h
  | succ n ih =>
    intro hn h
    cases hs : stays eq d n with
    | true =>
      rw [cpt_yes hs, List.mem_append, List.mem_singleton] at h
      rcases h with h | h
      · exact ih (by omega) h
      · subst h
        rw [getElem!_pos d n (by omega)]
        simp
    | false => rw [cpt_no hs] at h; exact ih (by omega) h
/-- A permutation of a whole row, as lists. -/
theorem permIn_list {d d' : Array α} (h : PermIn 0 d.size d d') : d'.toList.Perm d.toList := by
  obtain ⟨hs, _, hp⟩ := h
  have e : d'.extract 0 d.size = d' := by rw [← hs]; exact Array.extract_size
  rw [e, Array.extract_size] at hp
  exact hp
end Go.Proofs.YtdifcnhhcinonaaGreat

namespace Go.Proofs
open Go.Shelf
def Tryz.pdqLink_ren : Go.Shelf.Ren := ⟨fun | 6 => 216 | 15 => 111 | 14 => 236 | 28 => 165 | 29 => 166 | 20 => 254 | 21 => 255 | 22 => 256 | 23 => 257 | 24 => 258 | 25 => 259 | 26 => 260 | 27 => 261 | 46 => 268 | 47 => 212 | 48 => 213 | 49 => 269 | 50 => 270 | 57 => 273 | n => n, fun | 22 => 189 | 24 => 192 | 25 => 234 | 3 => 3 | 39 => 146 | 0 => 0 | 53 => 168 | 55 => 170 | 4 => 4 | 46 => 180 | 45 => 179 | 50 => 140 | 5 => 5 | 9 => 9 | 66 => 227 | 70 => 231 | 76 => 243 | 77 => 244 | n => n, fun | n => n⟩
theorem Tryz.pdqLink : Go.Proofs.SlLaysF0.n6 Tryz.prog Tryz.pdqLink_ren := {
  mixed := by kernel_rfl
  f6 := ⟨Tryz.f216.name, by decide, Tryz.func216.trans (congrArg some (by kernel_rfl))⟩
  f14 := ⟨Tryz.f236.name, by decide, Tryz.func236.trans (congrArg some (by kernel_rfl))⟩
  f15 := Tryz.func111.trans (congrArg some (by kernel_rfl))
  f20 := ⟨Tryz.f254.name, by decide, Tryz.func254.trans (congrArg some (by kernel_rfl))⟩
  f21 := ⟨Tryz.f255.name, by decide, Tryz.func255.trans (congrArg some (by kernel_rfl))⟩
  f22 := ⟨Tryz.f256.name, by decide, Tryz.func256.trans (congrArg some (by kernel_rfl))⟩
  f23 := ⟨Tryz.f257.name, by decide, Tryz.func257.trans (congrArg some (by kernel_rfl))⟩
  f24 := ⟨Tryz.f258.name, by decide, Tryz.func258.trans (congrArg some (by kernel_rfl))⟩
  f25 := ⟨Tryz.f259.name, by decide, Tryz.func259.trans (congrArg some (by kernel_rfl))⟩
  f26 := ⟨Tryz.f260.name, by decide, Tryz.func260.trans (congrArg some (by kernel_rfl))⟩
  f27 := ⟨Tryz.f261.name, by decide, Tryz.func261.trans (congrArg some (by kernel_rfl))⟩
  f28 := Tryz.func165.trans (congrArg some (by kernel_rfl))
  f29 := Tryz.func166.trans (congrArg some (by kernel_rfl))
  f46 := ⟨Tryz.f268.name, by decide, Tryz.func268.trans (congrArg some (by kernel_rfl))⟩
  f47 := Tryz.func212.trans (congrArg some (by kernel_rfl))
  f48 := Tryz.func213.trans (congrArg some (by kernel_rfl))
  f49 := ⟨Tryz.f269.name, by decide, Tryz.func269.trans (congrArg some (by kernel_rfl))⟩
  f50 := ⟨Tryz.f270.name, by decide, Tryz.func270.trans (congrArg some (by kernel_rfl))⟩
  f57 := ⟨Tryz.f273.name, by decide, Tryz.func273.trans (congrArg some (by kernel_rfl))⟩
  t0 := Tryz.underlying0
  a0 := Tryz.isAgg0
  z0 := Tryz.sizeOf0
  v0 := Tryz.zeroValue0
  t3 := Tryz.underlying3
  a3 := Tryz.isAgg3
  z3 := Tryz.sizeOf3
  v3 := Tryz.zeroValue3
  t4 := Tryz.underlying4
  a4 := Tryz.isAgg4
  z4 := Tryz.sizeOf4
  v4 := Tryz.zeroValue4
  t5 := Tryz.underlying5
  a5 := Tryz.isAgg5
  z5 := Tryz.sizeOf5
  v5 := Tryz.zeroValue5
  t9 := Tryz.underlying9
  a9 := Tryz.isAgg9
  z9 := Tryz.sizeOf9
  v9 := Tryz.zeroValue9
  t22 := Tryz.underlying189
  a22 := Tryz.isAgg189
  z22 := Tryz.sizeOf189
  v22 := Tryz.zeroValue189
  t25 := Tryz.underlying234
  a25 := Tryz.isAgg234
  z25 := Tryz.sizeOf234
  v25 := Tryz.zeroValue234
  t39 := Tryz.underlying146
  a39 := Tryz.isAgg146
  z39 := Tryz.sizeOf146
  v39 := Tryz.zeroValue146
  t45 := Tryz.underlying179
  a45 := Tryz.isAgg179
  z45 := Tryz.sizeOf179
  v45 := Tryz.zeroValue179
  t46 := Tryz.underlying180
  a46 := Tryz.isAgg180
  z46 := Tryz.sizeOf180
  v46 := Tryz.zeroValue180
  t50 := Tryz.underlying140
  a50 := Tryz.isAgg140
  z50 := Tryz.sizeOf140
  v50 := Tryz.zeroValue140
  t53 := Tryz.underlying168
  a53 := Tryz.isAgg168
  z53 := Tryz.sizeOf168
  v53 := Tryz.zeroValue168
  t55 := Tryz.underlying170
  a55 := Tryz.isAgg170
  z55 := Tryz.sizeOf170
  v55 := Tryz.zeroValue170
  t66 := Tryz.underlying227
  a66 := Tryz.isAgg227
  z66 := Tryz.sizeOf227
  v66 := Tryz.zeroValue227
  t70 := Tryz.underlying231
  a70 := Tryz.isAgg231
  z70 := Tryz.sizeOf231
  v70 := Tryz.zeroValue231
  t76 := Tryz.underlying243
  a76 := Tryz.isAgg243
  z76 := Tryz.sizeOf243
  v76 := Tryz.zeroValue243
  t77 := Tryz.underlying244
  a77 := Tryz.isAgg244
  z77 := Tryz.sizeOf244
  v77 := Tryz.zeroValue244 }
end Go.Proofs

namespace Go.Proofs.YtdifcnhhcinonaaGreat
open Go.RowKit Go.Maps

/-- What a key reads as. -/
def keyL (k a : Int) : Lit := .string (keyBytes [.int .i64 k, .int .i64 a])
end Go.Proofs.YtdifcnhhcinonaaGreat

namespace Go.Proofs.YtdifcnhhcinonaaGreat
open Go.RowKit Go.Maps

theorem snoc_ind {α : Type} {motive : List α → Prop} (nil : motive []) (snoc : ∀ l x, motive l → motive (l ++ [x])) (l : List α) : motive l := by
  have h : ∀ r : List α, motive r.reverse := by
    intro r
    induction r with
    | nil => simpa using nil
    | cons x r ih => simpa using snoc _ x ih
  simpa using h l.reverse
/-- The map behind the votes l (author, heir) on one lost key. -/
def mapD (a : Int) (l : List (Int × Int)) : DataW Unit := l.foldl (fun D p => D.put (keyL p.1 a) (.lit (.int .i64 p.2))) (.map [])
/-- Whom an author named last. -/
def lastOf (l : List (Int × Int)) (k : Int) : Option Int := ((l.filter fun p => decide (p.1 = k)).getLast?).map (·.2)
/-- Who has named 'next' last, of the first n keys. -/
def voicesL (l : List (Int × Int)) (next : Int) (n : Nat) : List Int := ((List.range n).filter fun (k : Nat) => decide (lastOf l (k : Int) = some next)).map fun (k : Nat) => (k : Int)
end Go.Proofs.YtdifcnhhcinonaaGreat

namespace Go.Proofs.YtdifcnhhcinonaaGreat
open Go.RowKit Go.Maps

/-- How a value of whatever type reads: as itself. -/
def valElem (v : Value) : Option (DataW Value × List MemPlace) := some (.held v, [])
/-- The map behind stores. -/
def mapV (l : List (Lit × Value)) : DataW Value := l.foldl (fun D p => D.put p.1 (.held p.2)) (.map [])
theorem mapV_snoc (l : List (Lit × Value)) (p : Lit × Value) : mapV (l ++ [p]) = (mapV l).put p.1 (.held p.2) := by
  unfold mapV; rw [List.foldl_append]; rfl
open Classical in
/-- What was stored last at a key. -/
noncomputable def lastV (l : List (Lit × Value)) (k : Lit) : Option Value := l.foldl (fun r p => if p.1 = k then some p.2 else r) none
open Classical in
theorem lastV_snoc (l : List (Lit × Value)) (p : Lit × Value) (k : Lit) : lastV (l ++ [p]) k = if p.1 = k then some p.2 else lastV l k := by
  unfold lastV; rw [List.foldl_append]; rfl
theorem mapV_isMap (l : List (Lit × Value)) : IsMap (mapV l) := by
  induction l using snoc_ind with
  | nil => exact isMap_empty
  | snoc l p ih => rw [mapV_snoc]; exact ih.put _ _
theorem mapV_has {l : List (Lit × Value)} {k : Lit} (hk : WideAt.IsKeyLit k) : Maps.has (mapV l) k = (lastV l k).isSome := by
  induction l using snoc_ind with
  | nil => rfl
  | snoc l p ih =>
    rw [mapV_snoc, lastV_snoc]
    by_cases h : p.1 = k
    · rw [if_pos h, h, has_put_same (mapV_isMap l) hk]; rfl
    · rw [if_neg h, has_put_other (fun e => h e.symm), ih]
theorem mapV_at {l : List (Lit × Value)} {k : Lit} (z : Value) (hk : WideAt.IsKeyLit k) : (mapV l).atKey k (.held z) = .held ((lastV l k).getD z) := by
  induction l using snoc_ind with
  | nil => rfl
  | snoc l p ih =>
    rw [mapV_snoc, lastV_snoc]
    by_cases h : p.1 = k
    · rw [if_pos h, h, atKey_put_same (mapV_isMap l) hk]; rfl
    · rw [if_neg h, atKey_put_other (fun e => h e.symm), ih]
theorem valElem_inv {v : Value} {d : DataW Value} {ps : List MemPlace} (h : valElem v = some (d, ps)) : d = .held v := by
  unfold valElem at h; cases h; rfl
/-- 'v, ok := m[k]' at a map of whatever values, at the operation. -/
theorem wpList_lookV {P : Program} (w : World) {ops : Array Oper} {rest : List Oper} {o : Oper} {a : Act} {Q : Exit → Act → World → Prop}
    (hg : o.guard = none) (m x : Operand) (t : TypeId) (hop : o.op = Op.lookup t m x true)
    (k e : TypeId) (K : Keyed P k) (ht : P.underlying t = some (.map k e)) (z : Value) (hz : (zeroValue e).run P w = .ok z w) (b n : Nat) (l : List (Lit × Value))
    (hm : a.eval m = .map (some b)) (hown : w.ownsMap P k valElem b n (mapV l)) (key : Value) (kl : Lit) (hx : a.eval x = key) (hkey : keyOf P k key = some kl) (hkl : WideAt.IsKeyLit kl)
    (v : Value) (ok : Bool) (hv : (lastV l kl).getD z = v) (hok : (lastV l kl).isSome = ok)
    (hK : wpList P ops Q rest (a.put o.dst (.tuple #[v, .bool ok])) w) :
    wpList P ops Q (o :: rest) a w := by
  refine wpList_plain hg fun K' hK' => ?_
  obtain ⟨u, ps, hrun, hr⟩ := hown.look_ok K ht hz (zd := .held z) (zp := []) rfl hkey
  have h1 := valElem_inv hr
  rw [mapV_at z hkl, hv] at h1
  cases h1
  rw [mapV_has hkl, hok] at hrun
  unfold Oper.wp
  simp [execOp, hop, hm, hx, hrun, Result.andThen]
  exact hK' _ _ hK
end Go.Proofs.YtdifcnhhcinonaaGreat
