/- Statements as data, and how memory holds them: words, no statement of the seat. -/
import Derived.Test.YtdmchekkcmjafaaRows
import Derived.Test.YtdmchekkcmjafaaRep
import Derived.Test.YtdmchekkcmjafaaMemK
import Derived.Test.YtdmchekkcmjafaaInfo
namespace Go.Proofs.Ytdmchekkcmjafaa
open Go.RowKit Go.Sort

/-- A pin: author, height, digest. -/
abbrev PinD := Int × Int × ByteArray
def pinE (p : PinD) : List Value := [.int .i64 p.1, .int .i64 p.2.1, .string p.2.2]
theorem pinE_len (p : PinD) : (pinE p).length = 3 := rfl
theorem one_pinE : ∀ p, ∀ v ∈ pinE p, v.oneCell' = true := fun p v hv => by simp [pinE] at hv; rcases hv with rfl | rfl | rfl <;> rfl
/-- Elements that are held by value. -/
def valRep {α : Type} (enc : α → List Value) (k : Nat) (hk : ∀ x, (enc x).length = k) (h1 : ∀ x, ∀ v ∈ enc x, v.oneCell' = true) : Rep α where
  k := k
  R := fun _ _ cs x => cs = enc x
  len := fun h => by subst h; exact hk _
  one := fun h => by subst h; exact h1 _
  keep := fun h _ => h
  mono := fun h _ => h
def pinRep : Rep PinD := valRep pinE 3 pinE_len one_pinE

/-- A statement. -/
structure St where
  author : Int
  number : Int
  prev : ByteArray
  time : Int
  kind : Int
  a : Int
  b : Int
  c : Int
  list : List Int
  pins : List PinD
  body : ByteArray
  key : Int
  dig : ByteArray
instance : Inhabited St := ⟨⟨0, 0, ⟨#[]⟩, 0, 0, 0, 0, 0, [], [], ⟨#[]⟩, 0, ⟨#[]⟩⟩⟩
/-- Equal, field for field. -/
def sameS (s t : St) : Bool :=
  decide (s.author = t.author) && decide (s.number = t.number) && decide (s.prev = t.prev) && decide (s.time = t.time) && decide (s.kind = t.kind) && decide (s.a = t.a) && decide (s.b = t.b) && decide (s.c = t.c) &&
  decide (s.list = t.list) && decide (s.pins = t.pins) && decide (s.body = t.body) && (decide (s.key = t.key) && decide (s.dig = t.dig))
theorem sameS_iff {s t : St} : sameS s t = true ↔ s = t := by
  constructor
  · intro h
    simp only [sameS, Bool.and_eq_true, decide_eq_true_eq] at h
    obtain ⟨⟨⟨⟨⟨⟨⟨⟨⟨⟨⟨h1, h2⟩, h3⟩, h4⟩, h5⟩, h6⟩, h7⟩, h8⟩, h9⟩, h10⟩, h11⟩, h12, h13⟩ := h
    obtain ⟨_, _, _, _, _, _, _, _, _, _, _, _, _⟩ := s
    simp only at h1 h2 h3 h4 h5 h6 h7 h8 h9 h10 h11 h12 h13
    subst h1 h2 h3 h4 h5 h6 h7 h8 h9 h10 h11 h12 h13
    rfl
  · rintro rfl
    simp [sameS]
/-- A slice's header. -/
structure Sv where
  ao : Option Addr
  n : Nat
  c : Nat
instance : Inhabited Sv := ⟨⟨none, 0, 0⟩⟩
def Sv.v (x : Sv) : Value := .slice x.ao x.n x.c
/-- The cells of a statement whose lists lie at l and p. -/
def stE (x : St × Sv × Sv) : List Value :=
  [.int .i64 x.1.author, .int .i64 x.1.number, .string x.1.prev, .int .i64 x.1.time, .int .i64 x.1.kind, .int .i64 x.1.a, .int .i64 x.1.b, .int .i64 x.1.c, x.2.1.v, x.2.2.v, .string x.1.body, .int .i64 x.1.key, .string x.1.dig]
theorem stE_len (x : St × Sv × Sv) : (stE x).length = 13 := rfl
theorem one_stE : ∀ x, ∀ v ∈ stE x, v.oneCell' = true := fun x v hv => by
  simp only [stE, List.mem_cons, List.not_mem_nil, or_false] at hv
  rcases hv with rfl | rfl | rfl | rfl | rfl | rfl | rfl | rfl | rfl | rfl | rfl | rfl | rfl <;> rfl
/-- The lists of a statement lie where its headers say. -/
def Lies (P : Nat → Prop) (w : World) (x : St × Sv × Sv) : Prop := Sl intRep P w x.2.1.v x.1.list ∧ Sl pinRep P w x.2.2.v x.1.pins
theorem Lies.keep {P : Nat → Prop} {w w' : World} {x : St × Sv × Sv} (h : Lies P w x) (hx : ∀ b, P b → b < w.heap.size → w'.heap[b]? = w.heap[b]?) : Lies P w' x := ⟨h.1.keep (by decide) hx, h.2.keep (by decide) hx⟩
theorem Lies.mono {P P' : Nat → Prop} {w : World} {x : St × Sv × Sv} (h : Lies P w x) (hx : ∀ b, P b → b < w.heap.size → P' b) : Lies P' w x := ⟨h.1.mono (by decide) hx, h.2.mono (by decide) hx⟩
def stRep : Rep St where
  k := 13
  R := fun P w cs s => ∃ l p, cs = stE (s, l, p) ∧ Lies P w (s, l, p)
  len := fun ⟨l, p, h, _⟩ => by subst h; exact stE_len _
  one := fun ⟨l, p, h, _⟩ => by subst h; exact one_stE _
  keep := fun ⟨l, p, h, hs⟩ hx => ⟨l, p, h, hs.keep hx⟩
  mono := fun ⟨l, p, h, hs⟩ hx => ⟨l, p, h, hs.mono hx⟩
theorem sl_shape {α : Type} {r : Rep α} {P : Nat → Prop} {w : World} {v : Value} {xs : List α} (h : Sl r P w v xs) : ∃ x : Sv, v = x.v ∧ x.n = xs.length := by
  obtain ⟨ao, cap, e, _⟩ := h
  exact ⟨⟨ao, xs.length, cap⟩, e, rfl⟩
theorem sl_ints {P : Nat → Prop} {w : World} {v : Value} {xs : List Int} (h : Sl intRep P w v xs) : Ints w v xs := by
  obtain ⟨ao, cap, rfl, h⟩ := h
  refine ⟨ao, cap, rfl, fun j hj => ?_⟩
  obtain ⟨b, off, cs, e, hp, hr, hR⟩ := h 0 (by omega)
  refine ⟨b, off, e, fun i hi => ?_⟩
  obtain ⟨b', off', cs', e', hp', hr', hR'⟩ := h i hi
  rw [e] at e'; cases e'
  have := hr' 0 (.int .i64 xs[i]) (by rw [show cs' = _ from hR']; rfl)
  rw [show off + i = off + i * intRep.k + 0 by simp [intRep]]
  rw [this]; simp [List.getD, hi]
theorem ints_sl {P : Nat → Prop} {w : World} {v : Value} {xs : List Int} (h : Ints w v xs) (hP : ∀ ao n c, v = .slice ao n c → xs ≠ [] → ∀ a, ao = some a → P a.block) : Sl intRep P w v xs := by
  obtain ⟨ao, cap, rfl, h⟩ := h
  refine ⟨ao, cap, rfl, fun i hi => ?_⟩
  obtain ⟨b, off, e, hc⟩ := h i hi
  refine ⟨b, off, [.int .i64 xs[i]], e, hP _ _ _ rfl (by intro h0; subst h0; simp at hi) _ e, fun j v hv => ?_, rfl⟩
  match j, hv with
  | 0, hv =>
    simp at hv; subst hv
    have := hc i hi
    rw [show off + i * intRep.k + 0 = off + i by simp [intRep]]
    rw [this]; simp [List.getD, hi]
  | j + 1, hv => simp at hv
/-- The cells of a slice of elements that are held by value. -/
theorem val_cells {α : Type} {enc : α → List Value} {k : Nat} {hk : ∀ x, (enc x).length = k} {h1 : ∀ x, ∀ v ∈ enc x, v.oneCell' = true} (hk0 : 0 < k) {P : Nat → Prop} {w : World} {ao : Option Addr} {xs : List α} (h : SlAt (valRep enc k hk h1) P w ao xs) : xs.length = 0 ∨ ∃ ad, ao = some ad ∧ ∀ (j : Nat) (v : Value), (flatL enc xs)[j]? = some v → w.cell? (ad.add j) = some v := by
  rcases Nat.eq_zero_or_pos xs.length with h0 | h0
  · exact Or.inl h0
  · obtain ⟨b, off, _, e, _, _, _⟩ := h 0 h0
    refine Or.inr ⟨_, e, fun j v hv => ?_⟩
    have hl := flatL_len hk xs
    have hj := (List.getElem?_eq_some_iff.1 hv).1
    have hi : j / k < xs.length := Nat.div_lt_of_lt_mul (by rw [Nat.mul_comm]; omega)
    obtain ⟨b', off', cs, e', _, hr, hR⟩ := h (j / k) hi
    rw [e] at e'; cases e'
    have hm : j / k * k + j % k = j := Nat.div_add_mod' j k
    have hg := flatL_get hk xs (j / k) (j % k) hi (Nat.mod_lt _ hk0)
    rw [hm, hv] at hg
    have hcs : cs = enc xs[j / k] := hR
    have := hr (j % k) v (by rw [hcs]; exact hg.symm)
    rw [Addr.add_lit, ← hm, ← Nat.add_assoc]
    exact this
/-- A row that holds elements by value is a slice of them. -/
theorem val_sl {α : Type} [Inhabited α] {enc : α → List Value} {k : Nat} {hk : ∀ x, (enc x).length = k} {h1 : ∀ x, ∀ v ∈ enc x, v.oneCell' = true} {P : Nat → Prop} {w : World} {g : Nat} {xs : List α} (hP : P g) (h : HoldsK enc k w g 0 xs.toArray) : SlAt (valRep enc k hk h1) P w (some ⟨g, 0, none⟩) xs := fun i hi => by
  refine ⟨g, 0, enc xs[i], rfl, hP, ?_, rfl⟩
  have := holdsK_range hk h i (by simpa using hi)
  rwa [getElem!_pos xs.toArray i hi, List.getElem_toArray] at this
/-- A row that holds statements is a slice of them, if their lists lie somewhere. -/
theorem st_sl {P : Nat → Prop} {w : World} {g : Nat} {xs : List (St × Sv × Sv)} (hP : P g) (h : HoldsK stE 13 w g 0 xs.toArray) (hl : ∀ x ∈ xs, Lies P w x) : SlAt stRep P w (some ⟨g, 0, none⟩) (xs.map (·.1)) := fun i hi => by
  have hi' : i < xs.length := by simpa using hi
  refine ⟨g, 0, stE xs[i], rfl, hP, ?_, xs[i].2.1, xs[i].2.2, by simp, by simpa using hl _ (List.getElem_mem hi')⟩
  have := holdsK_range stE_len h i (by simpa using hi')
  rwa [getElem!_pos xs.toArray i hi', List.getElem_toArray] at this
end Go.Proofs.Ytdmchekkcmjafaa
