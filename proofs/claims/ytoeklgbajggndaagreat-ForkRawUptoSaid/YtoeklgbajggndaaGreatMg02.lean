/- ref03.Same: a contract, no statement of the seat. | ref03.SameList: a contract, no statement of the seat. | ref05.before: by author, number and the digest's bytes. No statement of the seat. | A slice of statements that the call owns, their lists too: words; ref03.Copy in plain cells. No statement of the seat. | ref09.Until, Window: contracts, no statement of the seat. | append of statements to a slice of statements that the call owns, one or many, in a plain region or in one that draws its order. No statement of the seat. | Small functions of the epochs: contracts, no statement of the seat. | An order that keeps what is equal is unique; the reference's order by insertion is such a one. Plain, no program in sight. | slices.Clone at numbers and at pins: contracts, no statement of the seat. | append of statements, as AppT has it, with whatever predicate on the blocks that the lists lie in. No statement of the seat. | Slices of bytes, and appends of elements held by value in whatever region. For whatever program; no statement of the seat. | ref02.Int, Text, Ints: contracts, no statement of the seat. -/
import Derived.Test.YtoeklgbajggndaaGreatSameAG
import Derived.Test.YtoeklgbajggndaaGreatSameBG
import Derived.Test.YtoeklgbajggndaaGreatSameCG
import Derived.Test.YtoeklgbajggndaaGreatSameDG
import Derived.Test.YtoeklgbajggndaaGreatMg00
import Derived.Maps.AppendAt
import Derived.Deep.RegionLaw
import Derived.Sort.Grow
import Derived.Test.YtoeklgbajggndaaGreatMg01
import Derived.WalkSpells
import Derived.Lib.AppendStr
import Derived.Laws.BytesArg
import Derived.Laws.BitsLemmas
import Derived.Outline
namespace Go.Proofs.YtoeklgbajggndaaGreat
open Go.RowKit Go.Sort

theorem sameS_no {s t : St} (h : ¬ s = t) : sameS s t = false := by
  rw [Bool.eq_false_iff]; intro h'; exact h (sameS_iff.1 h')
theorem same_any {P Q : Nat → Prop} (x y : St × Sv × Sv) (w : World) (hx : Lies P w x) (hy : Lies Q w y) (hm : x.1.list.length ≤ 9223372036854775807) (hm2 : x.1.pins.length ≤ 9223372036854775807) :
    Calls Tryz.prog 56 #[.agg (stE x).toArray, .agg (stE y).toArray] w fun e w' => e = .returned (.bool (sameS x.1 y.1)) ∧ Ex w.heap.size none w w' := by
  obtain ⟨s, ⟨lo, ln, lc⟩, ⟨po, pn, pc⟩⟩ := x
  obtain ⟨t, ⟨lo', ln', lc'⟩, ⟨po', pn', pc'⟩⟩ := y
  by_cases hauthor : s.author = t.author
  case neg =>
    have := same_ne_author s t lo lo' po po' ln lc ln' lc' pn pc pn' pc' w hx.1 hx.2 hy.1 hy.2 ⟨hm, hm2⟩ hauthor
    rw [sameS_no (by rintro rfl; exact hauthor rfl)]
    exact this
  by_cases hnumber : s.number = t.number
  case neg =>
    have := same_ne_number s t lo lo' po po' ln lc ln' lc' pn pc pn' pc' w hx.1 hx.2 hy.1 hy.2 ⟨hm, hm2⟩ hauthor hnumber
    rw [sameS_no (by rintro rfl; exact hnumber rfl)]
    exact this
  by_cases hprev : s.prev = t.prev
  case neg =>
    have := same_ne_prev s t lo lo' po po' ln lc ln' lc' pn pc pn' pc' w hx.1 hx.2 hy.1 hy.2 ⟨hm, hm2⟩ hauthor hnumber hprev
    rw [sameS_no (by rintro rfl; exact hprev rfl)]
    exact this
  by_cases htime : s.time = t.time
  case neg =>
    have := same_ne_time s t lo lo' po po' ln lc ln' lc' pn pc pn' pc' w hx.1 hx.2 hy.1 hy.2 ⟨hm, hm2⟩ hauthor hnumber hprev htime
    rw [sameS_no (by rintro rfl; exact htime rfl)]
    exact this
  by_cases hkind : s.kind = t.kind
  case neg =>
    have := same_ne_kind s t lo lo' po po' ln lc ln' lc' pn pc pn' pc' w hx.1 hx.2 hy.1 hy.2 ⟨hm, hm2⟩ hauthor hnumber hprev htime hkind
    rw [sameS_no (by rintro rfl; exact hkind rfl)]
    exact this
  by_cases ha : s.a = t.a
  case neg =>
    have := same_ne_a s t lo lo' po po' ln lc ln' lc' pn pc pn' pc' w hx.1 hx.2 hy.1 hy.2 ⟨hm, hm2⟩ hauthor hnumber hprev htime hkind ha
    rw [sameS_no (by rintro rfl; exact ha rfl)]
    exact this
  by_cases hb : s.b = t.b
  case neg =>
    have := same_ne_b s t lo lo' po po' ln lc ln' lc' pn pc pn' pc' w hx.1 hx.2 hy.1 hy.2 ⟨hm, hm2⟩ hauthor hnumber hprev htime hkind ha hb
    rw [sameS_no (by rintro rfl; exact hb rfl)]
    exact this
  by_cases hc : s.c = t.c
  case neg =>
    have := same_ne_c s t lo lo' po po' ln lc ln' lc' pn pc pn' pc' w hx.1 hx.2 hy.1 hy.2 ⟨hm, hm2⟩ hauthor hnumber hprev htime hkind ha hb hc
    rw [sameS_no (by rintro rfl; exact hc rfl)]
    exact this
  by_cases hlist : s.list = t.list
  case neg =>
    have := same_ne_list s t lo lo' po po' ln lc ln' lc' pn pc pn' pc' w hx.1 hx.2 hy.1 hy.2 ⟨hm, hm2⟩ hauthor hnumber hprev htime hkind ha hb hc hlist
    rw [sameS_no (by rintro rfl; exact hlist rfl)]
    exact this
  by_cases hpins : s.pins = t.pins
  case neg =>
    have := same_ne_pins s t lo lo' po po' ln lc ln' lc' pn pc pn' pc' w hx.1 hx.2 hy.1 hy.2 ⟨hm, hm2⟩ hauthor hnumber hprev htime hkind ha hb hc hlist hpins
    rw [sameS_no (by rintro rfl; exact hpins rfl)]
    exact this
  by_cases hbody : s.body = t.body
  case neg =>
    have := same_ne_body s t lo lo' po po' ln lc ln' lc' pn pc pn' pc' w hx.1 hx.2 hy.1 hy.2 ⟨hm, hm2⟩ hauthor hnumber hprev htime hkind ha hb hc hlist hpins hbody
    rw [sameS_no (by rintro rfl; exact hbody rfl)]
    exact this
  by_cases hseal : (s.key = t.key ∧ s.dig = t.dig)
  case neg =>
    have := same_ne_seal s t lo lo' po po' ln lc ln' lc' pn pc pn' pc' w hx.1 hx.2 hy.1 hy.2 ⟨hm, hm2⟩ hauthor hnumber hprev htime hkind ha hb hc hlist hpins hbody hseal
    rw [sameS_no (by rintro rfl; exact hseal ⟨rfl, rfl⟩)]
    exact this
  have := same_eq s t lo lo' po po' ln lc ln' lc' pn pc pn' pc' w hx.1 hx.2 hy.1 hy.2 ⟨hm, hm2⟩ hauthor hnumber hprev htime hkind ha hb hc hlist hpins hbody hseal
  have he : sameS s t = true := by simp [sameS, hauthor, hnumber, hprev, htime, hkind, ha, hb, hc, hlist, hpins, hbody, hseal.1, hseal.2]
  rw [he]
  exact this
end Go.Proofs.YtoeklgbajggndaaGreat

namespace Go.Proofs.YtoeklgbajggndaaGreat
open Go.RowKit Go.Sort

/-- All statements of a list have lists of no more than so many elements. -/
def LightL (m : Nat) (l : List St) : Prop := ∀ s ∈ l, s.list.length ≤ m ∧ s.pins.length ≤ m
theorem LightL.get {m : Nat} {l : List St} (h : LightL m l) {i : Nat} {s : St} (hi : l[i]? = some s) : s.list.length ≤ m ∧ s.pins.length ≤ m := h s (List.mem_of_getElem? hi)
/-- A statement of a slice: its cells. -/
theorem st_get {P : Nat → Prop} {w : World} {ao : Option Addr} {xs : List St} (h : SlAt stRep P w ao xs) (i : Nat) (hi : i < xs.length) : ∃ b off s l p, ao = some ⟨b, off, none⟩ ∧ P b ∧ Lies P w (s, l, p) ∧ w.rangeAt b (off + i * 13) (stE (s, l, p)) ∧ Hid (xs[i]? = some s) := by
  obtain ⟨b, off, cs, s, e, hp, hr, ⟨l, p, rfl, hl⟩, hx⟩ := h.get i hi
  exact ⟨b, off, s, l, p, e, hp, hl, hr, hx⟩

end Go.Proofs.YtoeklgbajggndaaGreat

namespace Go.Proofs.YtoeklgbajggndaaGreat
open Go.RowKit Go.Sort

def before05B (s t : St) : Bool := if s.author = t.author then (if s.number = t.number then Op.bytesLess s.dig.toList t.dig.toList else decide (s.number < t.number)) else decide (s.author < t.author)
set_option maxHeartbeats 1000000 in
set_option maxRecDepth 100000 in
theorem before05_any (x y : St × Sv × Sv) (w : World) : Calls Tryz.prog 127 #[.agg (stE x).toArray, .agg (stE y).toArray] w fun e w' => e = .returned (.bool (before05B x.1 y.1)) ∧ Ex w.heap.size none w w' := by
  obtain ⟨s, ⟨lo, ln, lc⟩, ⟨po, pn, pc⟩⟩ := x
  obtain ⟨t, ⟨lo', ln', lc'⟩, ⟨po', pn', pc'⟩⟩ := y
  simp only [stE, Sv.v]
  by_cases h1 : s.author = t.author
  · have d1 : (s.author != t.author) = false := by simp [h1]
    by_cases h2 : s.number = t.number
    · have d2 : (s.number != t.number) = false := by simp [h2]
      have HK : Hid (before05B s t = Op.bytesLess s.dig.toList t.dig.toList) := by show _ = _; simp [before05B, h1, h2]
      clear h1 h2
      go_enter Tryz.func127, Tryz.ntmps127
      go_wp2
      go_ret
      exact ⟨by rw [HK.out]; rfl, ex_two _ _⟩
    · have d2 : (s.number != t.number) = true := by simp [h2]
      have HK : Hid (before05B s t = decide (s.number < t.number)) := by show _ = _; simp [before05B, h1, h2]
      clear h1 h2
      go_enter Tryz.func127, Tryz.ntmps127
      go_wp2
      go_ret
      exact ⟨by rw [HK.out]; rfl, ex_two _ _⟩
  · have d1 : (s.author != t.author) = true := by simp [h1]
    have HK : Hid (before05B s t = decide (s.author < t.author)) := by show _ = _; simp [before05B, h1]
    clear h1
    go_enter Tryz.func127, Tryz.ntmps127
    go_wp2
    go_ret
    exact ⟨by rw [HK.out]; rfl, ex_two _ _⟩
end Go.Proofs.YtoeklgbajggndaaGreat

namespace Go.Proofs.YtoeklgbajggndaaGreat
open Go.RowKit Go.Sort

theorem Tryz.infoSt : (Tryz.prog.info? 27).map (fun i => (i.zero, i.size, i.bytes)) = some (some (.agg #[.int .i64 0, .int .i64 0, .string ⟨#[]⟩, .int .i64 0, .int .i64 0, .int .i64 0, .int .i64 0, .int .i64 0, .slice none 0 0, .slice none 0 0, .string ⟨#[]⟩, .int .i64 0, .string ⟨#[]⟩]), 13, 160) := by kernel_rfl

/-- The block of a slice's row. -/
def rowOf (ao : Option Addr) : Option Nat := ao.map (·.block)
/-- The slice at ao owns the statements l, and all that their lists lie in (not in the row itself), from 'base' on. -/
def OwnS (w : World) (base : Nat) (ao : Option Addr) (cap : Nat) (l : List St) : Prop :=
  ∃ xs : List (St × Sv × Sv), xs.map (·.1) = l ∧ OwnE stE 13 27 w base ao cap xs ∧ ∀ x ∈ xs, Lies (fun b => base ≤ b ∧ rowOf ao ≠ some b) w x
theorem OwnS.nil (w : World) (base : Nat) : OwnS w base none 0 [] := ⟨[], rfl, OwnE.nil _ _ _ _ _, fun x hx => by simp at hx⟩
theorem OwnS.keep {w w' : World} {base B : Nat} {ao : Option Addr} {cap : Nat} {l : List St} (h : OwnS w base ao cap l) (hx : Ex B none w w') (hB : w.heap.size ≤ B) : OwnS w' base ao cap l := by
  obtain ⟨xs, e, h1, h2⟩ := h
  exact ⟨xs, e, h1.keep hx hB (by simp), fun x hxx => (h2 x hxx).keep fun b _ hb => hx.block b (by omega) (by simp)⟩
theorem OwnS.sl {w : World} {base : Nat} {ao : Option Addr} {cap : Nat} {l : List St} (h : OwnS w base ao cap l) : Sl stRep (fun b => base ≤ b) w (.slice ao l.length cap) l := by
  obtain ⟨xs, rfl, h1, h2⟩ := h
  refine ⟨ao, cap, by simp, ?_⟩
  rcases h1.cases with ⟨_, _, h0⟩ | ⟨g, rfl, hb, _, _⟩
  · subst h0; exact SlAt.nil _ _ _
  · exact st_sl hb (h1.holds stE_len) (fun x hx => (h2 x hx).mono fun b hb _ => hb.1)

/-- The cells of a statement, written out. -/
def cellsS (s : St) (lo : Option Addr) (ln lc : Nat) (po : Option Addr) (pn pc : Nat) : List Value :=
  [.int .i64 s.author, .int .i64 s.number, .string s.prev, .int .i64 s.time, .int .i64 s.kind, .int .i64 s.a, .int .i64 s.b, .int .i64 s.c, .slice lo ln lc, .slice po pn pc, .string s.body, .int .i64 s.key, .string s.dig]
theorem copy03_lit {P : Nat → Prop} (s : St) (lo po : Option Addr) (ln lc pn pc : Nat) (w : World) (hx : Lies P w (s, ⟨lo, ln, lc⟩, ⟨po, pn, pc⟩)) (hm : s.list.length ≤ 1000000 ∧ s.pins.length ≤ 1000000) :
    Calls Tryz.prog 17 #[.agg #[.int .i64 s.author, .int .i64 s.number, .string s.prev, .int .i64 s.time, .int .i64 s.kind, .int .i64 s.a, .int .i64 s.b, .int .i64 s.c, .slice lo ln lc, .slice po pn pc, .string s.body, .int .i64 s.key, .string s.dig]] w fun e w' =>
      ∃ (la : Option Addr) (na ca : Nat) (pa : Option Addr) (np cp : Nat), e = .returned (.agg #[.int .i64 s.author, .int .i64 s.number, .string s.prev, .int .i64 s.time, .int .i64 s.kind, .int .i64 s.a, .int .i64 s.b, .int .i64 s.c, .slice la na ca, .slice pa np cp, .string s.body, .int .i64 s.key, .string s.dig]) ∧
        Lies (fun b => w.heap.size ≤ b) w' (s, ⟨la, na, ca⟩, ⟨pa, np, cp⟩) ∧ Ex w.heap.size none w w' :=
  (copy03_any s lo po ln lc pn pc w hx.1 hx.2 hm.1 hm.2).mono fun _ _ ⟨⟨la, na, ca⟩, ⟨pa, np, cp⟩, he, hl, hex⟩ => ⟨la, na, ca, pa, np, cp, he, hl, hex⟩

end Go.Proofs.YtoeklgbajggndaaGreat

namespace Go.Proofs.YtoeklgbajggndaaGreat
open Go.RowKit Go.Sort

theorem filter_yes {p : St → Bool} {l : List St} {k : Nat} {s : St} (h : l[k]? = some s) (hp : p s = true) : (l.take (k + 1)).filter p = (l.take k).filter p ++ [s] := by
  rw [List.take_add_one, h, List.filter_append]; simp [hp]
theorem filter_no {p : St → Bool} {l : List St} {k : Nat} {s : St} (h : l[k]? = some s) (hp : p s = false) : (l.take (k + 1)).filter p = (l.take k).filter p := by
  rw [List.take_add_one, h, List.filter_append]; simp [hp]
end Go.Proofs.YtoeklgbajggndaaGreat

namespace Go.Proofs.YtoeklgbajggndaaGreat
open Go.RowKit Go.Sort

/-- The slice at ao owns the statements l: its row lies from rb on; what their lists lie in, from 'base' on, not in the row. -/
def OwnT (w : World) (rb base : Nat) (ao : Option Addr) (cap : Nat) (l : List St) : Prop :=
  ∃ xs : List (St × Sv × Sv), xs.map (·.1) = l ∧ OwnE stE 13 27 w rb ao cap xs ∧ ∀ x ∈ xs, Lies (fun b => base ≤ b ∧ rowOf ao ≠ some b) w x
theorem OwnS.t {w : World} {base : Nat} {ao : Option Addr} {cap : Nat} {l : List St} (h : OwnS w base ao cap l) : OwnT w base base ao cap l := h
theorem OwnE.lower {α : Type} {enc : α → List Value} {k : Nat} {e : TypeId} {w : World} {base base' : Nat} {ao : Option Addr} {cap : Nat} {xs : List α} (h : OwnE enc k e w base ao cap xs) (hb : base' ≤ base) : OwnE enc k e w base' ao cap xs := by
  refine ⟨h.1, ?_⟩
  rcases h.2 with h | ⟨g, c, cur, e1, e2, e3⟩
  · exact .inl h
  · exact .inr ⟨g, c, cur, e1, by omega, e3⟩
theorem flatL_cut (xs : List (St × Sv × Sv)) (j : Nat) : flatL stE xs = flatL stE (xs.take j) ++ flatL stE (xs.drop j) := by
  unfold flatL
  rw [← List.flatMap_append, List.take_append_drop]
theorem add_block (a : Addr) (j : Nat) : (a.add j).block = a.block := by unfold Addr.add; split <;> rfl
theorem OwnT.row {w : World} {rb base : Nat} {ao : Option Addr} {cap : Nat} {l : List St} (h : OwnT w rb base ao cap l) (b : Nat) (hb : rowOf ao = some b) : b < w.heap.size := by
  obtain ⟨xs, _, h1, _⟩ := h
  cases ao with
  | none => cases hb
  | some ad => simp [rowOf] at hb; subst hb; exact (h1.lt _ rfl).2
/-- Cells of statements by value, to be appended. -/
def Src (w : World) (so : Option Addr) (ys : List (St × Sv × Sv)) : Prop := ys.length = 0 ∨ ∃ ad, so = some ad ∧ ∀ (j : Nat) (v : Value), (flatL stE ys)[j]? = some v → w.cell? (ad.add j) = some v
theorem Src.keep {w w' : World} {so : Option Addr} {ys : List (St × Sv × Sv)} (h : Src w so ys) (hx : ∀ b, rowOf so = some b → b < w.heap.size → w'.heap[b]? = w.heap[b]?) : Src w' so ys := by
  rcases h with h | ⟨ad, e, h⟩
  · exact .inl h
  · refine .inr ⟨ad, e, fun j v hv => ?_⟩
    have h1 := h j v hv
    have hb : (ad.add j).block = ad.block := add_block _ _
    have h2 := World.block_lt_of_cell? w _ h1
    exact (World.cell?_of_block (w := w) (by rw [hb]; exact hx _ (by rw [e]; rfl) (by rw [← hb]; exact h2))).trans h1
end Go.Proofs.YtoeklgbajggndaaGreat

namespace Go.Proofs.YtoeklgbajggndaaGreat
open Go.RowKit Go.Sort

def ofI (t n : Int) : Int := if t < 0 ∨ n < 1 then -1 else t / n
/-- By time, author, number. -/
def beforeB (s t : St) : Bool := decide (s.time < t.time) || (decide (s.time = t.time) && (decide (s.author < t.author) || (decide (s.author = t.author) && decide (s.number < t.number))))
end Go.Proofs.YtoeklgbajggndaaGreat

namespace Go.Proofs.YtoeklgbajggndaaGreat
open Go.Sort

section
variable {α : Type}
def Rises (lt : α → α → Bool) (l : List α) : Prop := l.Pairwise (fun a b => lt b a = false)
/-- Where an element is put: behind the last one that it does not come before. -/
def posI (lt : α → α → Bool) (l : List α) (x : α) : Nat → Nat
  | 0 => 0
  | k + 1 => match l[k]? with | some y => if lt x y then posI lt l x k else k + 1 | none => k + 1
def insI (lt : α → α → Bool) (l : List α) (x : α) : List α := l.take (posI lt l x l.length) ++ x :: l.drop (posI lt l x l.length)
def orderI (lt : α → α → Bool) (l : List α) : List α := l.foldl (insI lt) []
end

end Go.Proofs.YtoeklgbajggndaaGreat

namespace Go.Proofs.YtoeklgbajggndaaGreat
open Go.RowKit Go.Sort

theorem sl_none {α : Type} {r : Rep α} {P : Nat → Prop} {w : World} {xs : List α} (h : SlAt r P w none xs) : xs = [] := by
  rcases Nat.eq_zero_or_pos xs.length with h0 | h0
  · exact List.eq_nil_of_length_eq_zero h0
  · obtain ⟨b, off, _, e, _⟩ := h 0 h0
    cases e

set_option maxHeartbeats 1000000 in
theorem cloneInts_any {P : Nat → Prop} (ao : Option Addr) (n cap : Nat) (xs : List Int) (w : World) (hv : Sl intRep P w (.slice ao n cap) xs) (hm : xs.length ≤ 1000000) :
    Calls Tryz.prog 66 #[.slice ao n cap] w fun e w' => ∃ (ao' : Option Addr) (n' c' : Nat), e = .returned (.slice ao' n' c') ∧ Sl intRep (fun b => w.heap.size ≤ b) w' (.slice ao' n' c') xs ∧ Ex w.heap.size none w w' := by
  have q : ∀ (w : World) (a : Option Addr) (n c n' c' : Nat), (binOp .eql 22 (.slice a n c) (.slice none n' c')).run Tryz.prog w = .ok (.bool a.isNone) w := fun w a n c n' c' => Lib.run_eql_slice_nil w _ _ a n c n' c' Tryz.underlying22
  obtain ⟨ao', cap', e, hx⟩ := hv
  simp only [Value.slice.injEq] at e
  obtain ⟨rfl, rfl, rfl⟩ := e
  cases ao with
  | none =>
    obtain rfl := sl_none hx
    go_enter Tryz.func66, Tryz.ntmps66
    go_wp2
    go_ret
    exact ⟨none, 0, 0, rfl, Sl.nil _ _, Ex.refl _ _ _⟩
  | some ad =>
    have HX : Hid (Sl intRep P w (.slice (some ad) xs.length cap) xs) := ⟨_, _, rfl, hx⟩
    clear hx
    go_enter Tryz.func66, Tryz.ntmps66
    go_wp2_with (at_builtin; refine wpList_appIs (w0 := w.alloc (.cells #[] 3)) rfl (.tmp 5) (.tmp 6) _ rfl Tryz.underlying22 Tryz.infoInt w.heap.size (some ⟨w.heap.size, 0, none⟩) 0 [] xs (.slice (some ⟨w.heap.size, 0, none⟩) 0 0) _ 0 rfl rfl (by rfl) (by rfl) (sl_ints (HX.out.keep (by decide) (fun b _ hb => (Ex.new w _).block b hb (by simp)))) (World.ownsRow_lit w #[] 0 (Nat.le_refl _) (by decide) rfl) (Ex.refl _ _ _) (by simp; omega) (by simp) ?_; intro la lcap w1 hown1 hex1)
    go_ret
    refine ⟨la, xs.length, lcap, by simp, by simpa using own_ints_sl hown1, (Ex.new w (.cells #[] 3)).trans hex1 (Nat.le_refl _) (by simp)⟩

set_option maxHeartbeats 1000000 in
theorem clonePins_any {P : Nat → Prop} (ao : Option Addr) (n cap : Nat) (xs : List PinD) (w : World) (hv : Sl pinRep P w (.slice ao n cap) xs) (hm : xs.length ≤ 1000000) :
    Calls Tryz.prog 67 #[.slice ao n cap] w fun e w' => ∃ (ao' : Option Addr) (n' c' : Nat), e = .returned (.slice ao' n' c') ∧ Sl pinRep (fun b => w.heap.size ≤ b) w' (.slice ao' n' c') xs ∧ Ex w.heap.size none w w' := by
  have q : ∀ (w : World) (a : Option Addr) (n c n' c' : Nat), (binOp .eql 23 (.slice a n c) (.slice none n' c')).run Tryz.prog w = .ok (.bool a.isNone) w := fun w a n c n' c' => Lib.run_eql_slice_nil w _ _ a n c n' c' Tryz.underlying23
  obtain ⟨ao', cap', e, hx⟩ := hv
  simp only [Value.slice.injEq] at e
  obtain ⟨rfl, rfl, rfl⟩ := e
  cases ao with
  | none =>
    obtain rfl := sl_none hx
    go_enter Tryz.func67, Tryz.ntmps67
    go_wp2
    go_ret
    exact ⟨none, 0, 0, rfl, Sl.nil _ _, Ex.refl _ _ _⟩
  | some ad =>
    have HX : Hid (Sl pinRep P w (.slice (some ad) xs.length cap) xs) := ⟨_, _, rfl, hx⟩
    clear hx
    go_enter Tryz.func67, Tryz.ntmps67
    go_wp2_with (at_builtin; refine wpList_appE (w0 := w.alloc (.cells #[] 92)) rfl (.tmp 5) (.tmp 6) _ 92 rfl Tryz.underlying23 (.agg #[.int .i64 0, .int .i64 0, .string ⟨#[]⟩]) 3 32 Tryz.infoPin rfl (by decide) (by decide) pinE pinE_len one_pinE w.heap.size (some ⟨w.heap.size, 0, none⟩) 0 [] xs (.slice (some ⟨w.heap.size, 0, none⟩) 0 0) _ 0 rfl rfl (by rfl) (some ad) xs.length cap (by rfl) rfl rfl (val_cells (hk := pinE_len) (h1 := one_pinE) (by decide) (HX.out.keep (by decide) (fun b _ hb => (Ex.new w _).block b hb (by simp))).at') (World.ownsRow_lit w #[] 0 (Nat.le_refl _) (by decide) rfl) (Ex.refl _ _ _) (by simp; omega) (by simp) ?_; intro la lcap w1 hown1 hex1)
    go_ret
    exact ⟨la, xs.length, lcap, by simp, by
      have h := own_val_sl (hk := pinE_len) (h1 := one_pinE) hown1
      simp only [List.nil_append] at h
      exact h, (Ex.new w (.cells #[] 92)).trans hex1 (Nat.le_refl _) (by simp)⟩
end Go.Proofs.YtoeklgbajggndaaGreat

namespace Go.Proofs.YtoeklgbajggndaaGreat
open Go.RowKit Go.Sort

/-- The slice at ao owns the statements l: its row lies from rb on; what their lists lie in, from 'base' on, not in the row. -/
def OwnG (w : World) (rb : Nat) (G : Nat → Prop) (ao : Option Addr) (cap : Nat) (l : List St) : Prop :=
  ∃ xs : List (St × Sv × Sv), xs.map (·.1) = l ∧ OwnE stE 13 27 w rb ao cap xs ∧ ∀ x ∈ xs, Lies (fun b => G b ∧ rowOf ao ≠ some b) w x
theorem OwnG.nil (w : World) (rb : Nat) (G : Nat → Prop) : OwnG w rb G none 0 [] := ⟨[], rfl, OwnE.nil _ _ _ _ _, fun x hx => by simp at hx⟩
theorem OwnG.keep {w w' : World} {rb B : Nat} {G : Nat → Prop} {ao : Option Addr} {cap : Nat} {l : List St} (h : OwnG w rb G ao cap l) (hx : Ex B none w w') (hB : w.heap.size ≤ B) : OwnG w' rb G ao cap l := by
  obtain ⟨xs, e, h1, h2⟩ := h
  exact ⟨xs, e, h1.keep hx hB (by simp), fun x hxx => (h2 x hxx).keep fun b _ hb => hx.block b (by omega) (by simp)⟩
theorem OwnG.len {w : World} {rb : Nat} {G : Nat → Prop} {ao : Option Addr} {cap : Nat} {l : List St} (h : OwnG w rb G ao cap l) : l.length ≤ cap := by
  obtain ⟨xs, rfl, h1, _⟩ := h
  rcases h1.cases with ⟨_, rfl, h0⟩ | ⟨g, _, _, _, hc⟩
  · subst h0; exact Nat.le_refl _
  · simpa using hc
theorem OwnG.row {w : World} {rb : Nat} {G : Nat → Prop} {ao : Option Addr} {cap : Nat} {l : List St} (h : OwnG w rb G ao cap l) (b : Nat) (hb : rowOf ao = some b) : b < w.heap.size := by
  obtain ⟨xs, _, h1, _⟩ := h
  cases ao with
  | none => cases hb
  | some ad => simp [rowOf] at hb; subst hb; exact (h1.lt _ rfl).2
theorem OwnG.row_ge {w : World} {rb : Nat} {G : Nat → Prop} {ao : Option Addr} {cap : Nat} {l : List St} (h : OwnG w rb G ao cap l) (b : Nat) (hb : rowOf ao = some b) : rb ≤ b := by
  obtain ⟨xs, _, h1, _⟩ := h
  cases ao with
  | none => cases hb
  | some ad => simp [rowOf] at hb; subst hb; exact (h1.lt _ rfl).1
/-- The slices of a row. -/
theorem OwnG.parts {w : World} {rb : Nat} {G : Nat → Prop} {ao : Option Addr} {cap : Nat} {l : List St} (h : OwnG w rb G ao cap l) (j : Nat) (hj : j ≤ l.length) :
    ∃ (xs : List (St × Sv × Sv)) (a2 : Option Addr), xs.map (·.1) = l ∧ (∀ x ∈ xs, Lies (fun b => G b ∧ rowOf ao ≠ some b) w x) ∧ Src w ao (xs.take j) ∧ (if cap = j then ao else ao.map (fun x => x.add (j * 13))) = a2 ∧ Src w a2 (xs.drop j) ∧ rowOf a2 = rowOf ao ∧ ∀ b, rowOf ao = some b → b < w.heap.size := by
  obtain ⟨xs, rfl, h1, h2⟩ := h
  have hj' : j ≤ xs.length := by simpa using hj
  refine ⟨xs, _, rfl, h2, ?_, rfl, ?_, ?_, ?_⟩
  · rcases h1.cases with ⟨_, _, h0⟩ | ⟨g, rfl, hb, _, _⟩
    · subst h0; exact .inl (by simp)
    · refine .inr ⟨_, rfl, fun i v hv => ?_⟩
      obtain ⟨_, _, _, _, hc, _⟩ := own_there h1
      rw [Addr.add_lit, Nat.zero_add]
      refine hc i v ?_
      have e : flatL stE xs = flatL stE (xs.take j) ++ flatL stE (xs.drop j) := flatL_cut xs j
      rw [e, List.getElem?_append_left (List.getElem?_eq_some_iff.1 hv).1]
      exact hv
  · by_cases hc : cap = j
    · rw [if_pos hc]
      refine .inl ?_
      rcases h1.cases with ⟨_, _, h0⟩ | ⟨g, _, _, _, hl⟩
      · subst h0; simp
      · simp; omega
    · rw [if_neg hc]
      rcases h1.cases with ⟨_, _, h0⟩ | ⟨g, rfl, hb, _, _⟩
      · subst h0; exact .inl (by simp)
      · refine .inr ⟨_, rfl, fun i v hv => ?_⟩
        obtain ⟨_, _, _, _, hc, _⟩ := own_there h1
        show w.cell? (((⟨g, 0, none⟩ : Addr).add (j * 13)).add i) = some v
        rw [Addr.add_lit, Addr.add_lit, Nat.zero_add]
        refine hc (j * 13 + i) v ?_
        have e : flatL stE xs = flatL stE (xs.take j) ++ flatL stE (xs.drop j) := flatL_cut xs j
        have hl : (flatL stE (xs.take j)).length = j * 13 := by rw [flatL_len stE_len, List.length_take, Nat.min_eq_left hj']
        rw [e, List.getElem?_append_right (by omega), hl, Nat.add_sub_cancel_left]
        exact hv
  · by_cases hc : cap = j
    · rw [if_pos hc]
    · rw [if_neg hc]; cases ao with
      | none => rfl
      | some ad => exact congrArg some (add_block _ _)
  · intro b hb
    cases ao with
    | none => cases hb
    | some ad => simp [rowOf] at hb; subst hb; exact (h1.lt _ rfl).2

/-- append at the operation. -/
theorem wp_appG {P : Program} {w : World} {o : Oper} {a : Act} {K : Act → World → Prop} {Q : Exit → Act → World → Prop} (s u : Operand) (t : TypeId)
    (ho : o.op = .call { callee := .builtin .append, args := #[s, u], argTypes := #[t, t] }) (ht : P.underlying t = some (.slice 27))
    (hinfo : (P.info? 27).map (fun i => (i.zero, i.size, i.bytes)) = some (some (.agg #[.int .i64 0, .int .i64 0, .string ⟨#[]⟩, .int .i64 0, .int .i64 0, .int .i64 0, .int .i64 0, .int .i64 0, .slice none 0 0, .slice none 0 0, .string ⟨#[]⟩, .int .i64 0, .string ⟨#[]⟩]), 13, 160))
    (rb : Nat) (G : Nat → Prop) (ao : Option Addr) (cap n : Nat) (l : List St) (hn : l.length = n) (hs : a.eval s = .slice ao n cap) (so : Option Addr) (m sc : Nat) (hu : a.eval u = .slice so m sc) (ys : List (St × Sv × Sv)) (hm : ys.length = m)
    (hown : OwnG w rb G ao cap l) (hsrc : Src w so ys) (hx : ∀ x ∈ ys, Lies (fun b => G b ∧ rowOf ao ≠ some b) w x) (hlen : n + m ≤ 10000000) (hbase : rb ≤ w.heap.size) (r : Nat) (hr : n + m = r)
    (h : ∀ ao' cap' w', OwnG w' rb G ao' cap' (l ++ ys.map (·.1)) → Ex rb none w w' → (∀ b, b < w.heap.size → rowOf ao ≠ some b → w'.heap[b]? = w.heap[b]?) → (rowOf ao' = rowOf ao ∨ rowOf ao' = some w.heap.size) → K (a.put o.dst (.slice ao' r cap')) w') : o.wp P a w K Q := by
  subst hr hn hm
  obtain ⟨i0, hi, hz0, hz1, hz2⟩ := info_parts hinfo
  obtain ⟨xs, rfl, h1, h2⟩ := hown
  have e1 : (xs.map (·.1)).length = xs.length := by simp
  rw [e1] at hs hlen h
  have key : ∀ so ad, so = some ad → a.eval u = .slice so ys.length sc → (∀ (j : Nat) (v : Value), (flatL stE ys)[j]? = some v → w.cell? (ad.add j) = some v) → o.wp P a w K Q := fun so ad e2 hu hc => by
    subst e2
    obtain ⟨v', w', hr, ho', hg, _, hnew⟩ := run_append_own_at (P := P) w rb t o.type 27 i0 _ 13 160 ht hi hz0 hz1 hz2 rfl (by decide) _ _ _ h1 ad ys.length sc (flatL stE ys) (flatL_len stE_len ys) hc (flatL_one one_stE ys) (by simp only [maxLen]; omega) (by omega) hbase
    obtain ⟨ao', cap', rfl⟩ := own_shape ho'
    have hrow : (Value.slice ao xs.length cap).ownBlock = rowOf ao := by cases ao <;> rfl
    have hrow' : (Value.slice ao' (xs.length + ys.length) cap').ownBlock = rowOf ao' := by cases ao' <;> rfl
    rw [hrow] at hg hnew
    rw [hrow'] at hnew
    have hkeep : ∀ y, Lies (fun b => G b ∧ rowOf ao ≠ some b) w y → Lies (fun b => G b ∧ rowOf ao' ≠ some b) w' y := fun y hy => by
      refine Lies.mono (P := fun b => (G b ∧ rowOf ao ≠ some b) ∧ b < w.heap.size) (Lies.keep (w := w) (hy.mono fun b hb hlt => ⟨hb, hlt⟩) fun b hb hlt => hg.block b hlt (fun e => hb.1.2 e.symm)) (fun b hb _ => ⟨hb.1.1, fun e => ?_⟩)
      rcases hb with ⟨⟨_, hb1⟩, hb2⟩
      rcases hnew with h0 | h0
      · exact hb1 (h0 ▸ e)
      · rw [e] at h0; cases h0; omega
    unfold Oper.wp execOp
    simp only [ho, resolve, invoke, builtin, Sem.run_bind, Sem.run_pure, Result.andThen_ok, List.map_toArray, List.map_cons, List.map_nil, hs, hu, hr]
    refine h ao' cap' w' ⟨xs ++ ys, by simp, ?_, fun y hy => ?_⟩ ?_ (fun b hb hne => hg.block b hb (fun e => hne e.symm)) hnew
    · unfold OwnE
      have e2 : flatL stE (xs ++ ys) = flatL stE xs ++ flatL stE ys := by simp [flatL]
      rw [e2, List.length_append]; exact ho'
    · simp only [List.mem_append] at hy
      rcases hy with hy | hy
      · exact hkeep y (h2 y hy)
      · exact hkeep y (hx y hy)
    · refine ⟨hg.os, hg.tape, hg.output, hg.size, fun k hk _ => hg.block k (by omega) (fun e => ?_)⟩
      cases ao with
      | none => cases e
      | some ad =>
        have := (h1.lt ad rfl).1
        simp [rowOf] at e
        omega
  rcases hsrc with h0 | ⟨ad, e2, hc⟩
  · have hy : ys = [] := List.eq_nil_of_length_eq_zero h0
    cases so with
    | some ad => exact key _ ad rfl hu (fun j v hv => by subst hy; simp [flatL] at hv)
    | none =>
      subst hy
      have hrun := run_append_none (P := P) (w := w) rb t o.type _ i0 13 ht hi _ _ sc _ h1
      unfold Oper.wp execOp
      simp only [ho, resolve, invoke, builtin, Sem.run_bind, Sem.run_pure, Result.andThen_ok, List.map_toArray, List.map_cons, List.map_nil, hs, hu, List.length_nil, hrun]
      exact h ao cap w ⟨xs, by simp, h1, h2⟩ (Ex.refl _ _ _) (fun _ _ _ => rfl) (.inl rfl)
  · exact key so ad e2 hu hc
/-- .. as a step of a region that draws its order. -/
theorem step_appG {P : Program} {w : World} {ops : Array Oper} {o : Oper} {a : Act} {K : Act → World → Prop} {Q : Exit → Act → World → Prop} {E : Prop} (hgd : o.guard = none) (s u : Operand) (t : TypeId)
    (ho : o.op = .call { callee := .builtin .append, args := #[s, u], argTypes := #[t, t] }) (ht : P.underlying t = some (.slice 27))
    (hinfo : (P.info? 27).map (fun i => (i.zero, i.size, i.bytes)) = some (some (.agg #[.int .i64 0, .int .i64 0, .string ⟨#[]⟩, .int .i64 0, .int .i64 0, .int .i64 0, .int .i64 0, .int .i64 0, .slice none 0 0, .slice none 0 0, .string ⟨#[]⟩, .int .i64 0, .string ⟨#[]⟩]), 13, 160))
    (rb : Nat) (G : Nat → Prop) (ao : Option Addr) (cap n : Nat) (l : List St) (hn : l.length = n) (hs : a.eval s = .slice ao n cap) (so : Option Addr) (m sc : Nat) (hu : a.eval u = .slice so m sc) (ys : List (St × Sv × Sv)) (hm : ys.length = m)
    (hown : OwnG w rb G ao cap l) (hsrc : Src w so ys) (hx : ∀ x ∈ ys, Lies (fun b => G b ∧ rowOf ao ≠ some b) w x) (hlen : n + m ≤ 10000000) (hbase : rb ≤ w.heap.size) (r : Nat) (hr : n + m = r)
    (h : ∀ ao' cap' w', OwnG w' rb G ao' cap' (l ++ ys.map (·.1)) → Ex rb none w w' → (∀ b, b < w.heap.size → rowOf ao ≠ some b → w'.heap[b]? = w.heap[b]?) → (rowOf ao' = rowOf ao ∨ rowOf ao' = some w.heap.size) → K (a.put o.dst (.slice ao' r cap')) w') :
    if Region.wanted o (yielded ops a.tmps) = true then o.wp P a w K Q else E := by
  rw [if_pos (show Region.wanted o (yielded ops a.tmps) = true by simp [Region.wanted, hgd])]
  exact wp_appG s u t ho ht hinfo rb G ao cap n l hn hs so m sc hu ys hm hown hsrc hx hlen hbase r hr h
theorem OwnG.keepG {w w' : World} {rb : Nat} {G : Nat → Prop} {ao : Option Addr} {cap : Nat} {l : List St} (h : OwnG w rb G ao cap l) (hr : ∀ b, rowOf ao = some b → b < w.heap.size → w'.heap[b]? = w.heap[b]?) (hl : ∀ b, G b → b < w.heap.size → w'.heap[b]? = w.heap[b]?) : OwnG w' rb G ao cap l := by
  obtain ⟨xs, e, h1, h2⟩ := h
  refine ⟨xs, e, ?_, fun x hx => (h2 x hx).keep fun b hb hlt => hl b hb.1 hlt⟩
  obtain ⟨k1, k2⟩ := h1
  refine ⟨k1, ?_⟩
  rcases k2 with k2 | ⟨g, c, cur, hv, hg, hh, r⟩
  · exact .inl k2
  · refine .inr ⟨g, c, cur, hv, hg, ?_, r⟩
    have hlt := (Array.getElem?_eq_some_iff.1 hh).1
    rw [hr g ?_ hlt]
    · exact hh
    · simp only [Value.slice.injEq] at hv
      rw [hv.1]; rfl
theorem OwnG.monoG {w : World} {rb : Nat} {G G' : Nat → Prop} {ao : Option Addr} {cap : Nat} {l : List St} (h : OwnG w rb G ao cap l) (hg : ∀ b, G b → b < w.heap.size → G' b) : OwnG w rb G' ao cap l := by
  obtain ⟨xs, e, h1, h2⟩ := h
  exact ⟨xs, e, h1, fun x hx => (h2 x hx).mono fun b hb hlt => ⟨hg b hb.1 hlt, hb.2⟩⟩
theorem OwnG.lowG {w : World} {rb rb' : Nat} {G : Nat → Prop} {ao : Option Addr} {cap : Nat} {l : List St} (h : OwnG w rb G ao cap l) (hb : rb' ≤ rb) : OwnG w rb' G ao cap l := by
  obtain ⟨xs, e, h1, h2⟩ := h
  exact ⟨xs, e, h1.lower hb, h2⟩
/-- A slice that the call owns, no part of which lies in block g. -/
def OwnZ (g base : Nat) (w : World) (ao : Option Addr) (cap : Nat) (l : List St) : Prop := OwnG w base (fun b => base ≤ b ∧ b ≠ g) ao cap l ∧ rowOf ao ≠ some g
theorem OwnZ.s {g base : Nat} {w : World} {ao : Option Addr} {cap : Nat} {l : List St} (h : OwnZ g base w ao cap l) : OwnS w base ao cap l := h.1.monoG (G' := fun b => base ≤ b) fun _b hb _ => hb.1
theorem OwnZ.keep {g base : Nat} {w w' : World} {ao : Option Addr} {cap : Nat} {l : List St} (h : OwnZ g base w ao cap l) (hx : ∀ b, base ≤ b → b ≠ g → b < w.heap.size → w'.heap[b]? = w.heap[b]?) : OwnZ g base w' ao cap l :=
  ⟨h.1.keepG (fun b hb hlt => hx b (h.1.row_ge b hb) (fun e => h.2 (by rw [hb, e])) hlt) (fun b hb hlt => hx b hb.1 hb.2 hlt), h.2⟩
theorem OwnZ.of {g base : Nat} {w : World} {ao : Option Addr} {cap : Nat} {l : List St} (h : OwnS w base ao cap l) (hg : w.heap.size ≤ g) : OwnZ g base w ao cap l :=
  ⟨OwnG.monoG (G := fun b => base ≤ b) h fun b hb hlt => ⟨hb, by omega⟩, fun e => by have := h.t.row g e; omega⟩
end Go.Proofs.YtoeklgbajggndaaGreat

namespace Go.Proofs.YtoeklgbajggndaaGreat
open Go.RowKit Go.Sort

section
variable {α : Type} [Inhabited α]
omit [Inhabited α] in
/-- append(out, src...) at the operation: out is owned. -/
theorem wp_appE {P : Program} {w : World} {o : Oper} {a : Act} {K : Act → World → Prop} {Q : Exit → Act → World → Prop} (s u : Operand) (t e : TypeId)
    (ho : o.op = .call { callee := .builtin .append, args := #[s, u], argTypes := #[t, t] }) (ht : P.underlying t = some (.slice e)) (z : Value) (k bytes : Nat)
    (hinfo : (P.info? e).map (fun i => (i.zero, i.size, i.bytes)) = some (some z, k, bytes)) (hzc : z.cells.size = k) (hk0 : 0 < k) (hb : bytes ≤ 1000)
    (enc : α → List Value) (hk : ∀ x, (enc x).length = k) (h1 : ∀ x, ∀ v ∈ enc x, v.oneCell' = true)
    (base : Nat) (ao : Option Addr) (cap n : Nat) (xs : List α) (hn : xs.length = n) (hs : a.eval s = .slice ao n cap) (so : Option Addr) (m sc : Nat) (hu : a.eval u = .slice so m sc) (ys : List α) (hm : ys.length = m)
    (hown : OwnE enc k e w base ao cap xs) (hsrc : ys.length = 0 ∨ ∃ ad, so = some ad ∧ ∀ (j : Nat) (v : Value), (flatL enc ys)[j]? = some v → w.cell? (ad.add j) = some v) (hlen : n + m ≤ 10000000) (hbase : base ≤ w.heap.size) (r : Nat) (hr : n + m = r)
    (h : ∀ ao' cap' w', OwnE enc k e w' base ao' cap' (xs ++ ys) → Ex base none w w' → (∀ b, b < w.heap.size → rowOf ao ≠ some b → w'.heap[b]? = w.heap[b]?) → (rowOf ao' = rowOf ao ∨ rowOf ao' = some w.heap.size) → K (a.put o.dst (.slice ao' r cap')) w') : o.wp P a w K Q := by
  subst hr hn hm
  obtain ⟨i0, hi, hz0, hz1, hz2⟩ := info_parts hinfo
  have key : ∀ so ad, so = some ad → a.eval u = .slice so ys.length sc → (∀ (j : Nat) (v : Value), (flatL enc ys)[j]? = some v → w.cell? (ad.add j) = some v) → o.wp P a w K Q := fun so ad e2 hu hc => by
    subst e2
    have hbb : (xs.length + ys.length) * bytes ≤ 140737488355328 := by have := Nat.mul_le_mul hlen hb; omega
    obtain ⟨v', w', hr, ho', hg, _, hnew⟩ := run_append_own_at (P := P) w base t o.type e i0 z k bytes ht hi hz0 hz1 hz2 hzc hk0 _ _ _ hown ad ys.length sc (flatL enc ys) (flatL_len hk ys) hc (flatL_one h1 ys) (by simp only [maxLen]; omega) hbb hbase
    obtain ⟨ao', cap', rfl⟩ := own_shape ho'
    have hrow : (Value.slice ao xs.length cap).ownBlock = rowOf ao := by cases ao <;> rfl
    have hrow' : (Value.slice ao' (xs.length + ys.length) cap').ownBlock = rowOf ao' := by cases ao' <;> rfl
    rw [hrow] at hg hnew
    rw [hrow'] at hnew
    unfold Oper.wp execOp
    simp only [ho, resolve, invoke, builtin, Sem.run_bind, Sem.run_pure, Result.andThen_ok, List.map_toArray, List.map_cons, List.map_nil, hs, hu, hr]
    refine h ao' cap' w' ?_ ?_ (fun b hb hne => hg.block b hb (fun e => hne e.symm)) hnew
    · unfold OwnE
      have e2 : flatL enc (xs ++ ys) = flatL enc xs ++ flatL enc ys := by simp [flatL]
      rw [e2, List.length_append]; exact ho'
    · refine ⟨hg.os, hg.tape, hg.output, hg.size, fun q hq _ => hg.block q (by omega) (fun e => ?_)⟩
      cases ao with
      | none => cases e
      | some ad =>
        have := (hown.lt ad rfl).1
        simp [rowOf] at e
        omega
  rcases hsrc with h0 | ⟨ad, e2, hc⟩
  · have hy : ys = [] := List.eq_nil_of_length_eq_zero h0
    cases so with
    | some ad => exact key _ ad rfl hu (fun j v hv => by subst hy; simp [flatL] at hv)
    | none =>
      subst hy
      have hrun := run_append_none (P := P) (w := w) base t o.type _ i0 k ht hi _ _ sc _ hown
      unfold Oper.wp execOp
      simp only [ho, resolve, invoke, builtin, Sem.run_bind, Sem.run_pure, Result.andThen_ok, List.map_toArray, List.map_cons, List.map_nil, hs, hu, List.length_nil, hrun]
      exact h ao cap w (by simpa using hown) (Ex.refl _ _ _) (fun _ _ _ => rfl) (.inl rfl)
  · exact key so ad e2 hu hc
omit [Inhabited α] in
theorem step_appE {P : Program} {w : World} {ops : Array Oper} {o : Oper} {a : Act} {K : Act → World → Prop} {Q : Exit → Act → World → Prop} {E : Prop} (hgd : o.guard = none) (s u : Operand) (t e : TypeId)
    (ho : o.op = .call { callee := .builtin .append, args := #[s, u], argTypes := #[t, t] }) (ht : P.underlying t = some (.slice e)) (z : Value) (k bytes : Nat)
    (hinfo : (P.info? e).map (fun i => (i.zero, i.size, i.bytes)) = some (some z, k, bytes)) (hzc : z.cells.size = k) (hk0 : 0 < k) (hb : bytes ≤ 1000)
    (enc : α → List Value) (hk : ∀ x, (enc x).length = k) (h1 : ∀ x, ∀ v ∈ enc x, v.oneCell' = true)
    (base : Nat) (ao : Option Addr) (cap n : Nat) (xs : List α) (hn : xs.length = n) (hs : a.eval s = .slice ao n cap) (so : Option Addr) (m sc : Nat) (hu : a.eval u = .slice so m sc) (ys : List α) (hm : ys.length = m)
    (hown : OwnE enc k e w base ao cap xs) (hsrc : ys.length = 0 ∨ ∃ ad, so = some ad ∧ ∀ (j : Nat) (v : Value), (flatL enc ys)[j]? = some v → w.cell? (ad.add j) = some v) (hlen : n + m ≤ 10000000) (hbase : base ≤ w.heap.size) (r : Nat) (hr : n + m = r)
    (h : ∀ ao' cap' w', OwnE enc k e w' base ao' cap' (xs ++ ys) → Ex base none w w' → (∀ b, b < w.heap.size → rowOf ao ≠ some b → w'.heap[b]? = w.heap[b]?) → (rowOf ao' = rowOf ao ∨ rowOf ao' = some w.heap.size) → K (a.put o.dst (.slice ao' r cap')) w') :
    if Region.wanted o (yielded ops a.tmps) = true then o.wp P a w K Q else E := by
  rw [if_pos (show Region.wanted o (yielded ops a.tmps) = true by simp [Region.wanted, hgd])]
  exact wp_appE s u t e ho ht z k bytes hinfo hzc hk0 hb enc hk h1 base ao cap n xs hn hs so m sc hu ys hm hown hsrc hlen hbase r hr h
omit [Inhabited α] in
theorem wpList_appE2 {P : Program} {w : World} {ops : Array Oper} {rest : List Oper} {o : Oper} {a : Act} {Q : Exit → Act → World → Prop} (hgd : o.guard = none) (s u : Operand) (t e : TypeId)
    (ho : o.op = .call { callee := .builtin .append, args := #[s, u], argTypes := #[t, t] }) (ht : P.underlying t = some (.slice e)) (z : Value) (k bytes : Nat)
    (hinfo : (P.info? e).map (fun i => (i.zero, i.size, i.bytes)) = some (some z, k, bytes)) (hzc : z.cells.size = k) (hk0 : 0 < k) (hb : bytes ≤ 1000)
    (enc : α → List Value) (hk : ∀ x, (enc x).length = k) (h1 : ∀ x, ∀ v ∈ enc x, v.oneCell' = true)
    (base : Nat) (ao : Option Addr) (cap n : Nat) (xs : List α) (hn : xs.length = n) (hs : a.eval s = .slice ao n cap) (so : Option Addr) (m sc : Nat) (hu : a.eval u = .slice so m sc) (ys : List α) (hm : ys.length = m)
    (hown : OwnE enc k e w base ao cap xs) (hsrc : ys.length = 0 ∨ ∃ ad, so = some ad ∧ ∀ (j : Nat) (v : Value), (flatL enc ys)[j]? = some v → w.cell? (ad.add j) = some v) (hlen : n + m ≤ 10000000) (hbase : base ≤ w.heap.size) (r : Nat) (hr : n + m = r)
    (h : ∀ ao' cap' w', OwnE enc k e w' base ao' cap' (xs ++ ys) → Ex base none w w' → (∀ b, b < w.heap.size → rowOf ao ≠ some b → w'.heap[b]? = w.heap[b]?) → (rowOf ao' = rowOf ao ∨ rowOf ao' = some w.heap.size) → wpList P ops Q rest (a.put o.dst (.slice ao' r cap')) w') : wpList P ops Q (o :: rest) a w :=
  wpList_plain hgd fun _K hK => wp_appE s u t e ho ht z k bytes hinfo hzc hk0 hb enc hk h1 base ao cap n xs hn hs so m sc hu ys hm hown hsrc hlen hbase r hr fun ao' cap' w' h1 h2 h3 h4 => hK _ _ (h ao' cap' w' h1 h2 h3 h4)
end

theorem OwnE.lowerE {α : Type} {enc : α → List Value} {k : Nat} {e : TypeId} {w : World} {base base' : Nat} {ao : Option Addr} {cap : Nat} {xs : List α} (h : OwnE enc k e w base ao cap xs) (hb : base' ≤ base) : OwnE enc k e w base' ao cap xs := by
  refine ⟨h.1, ?_⟩
  rcases h.2 with h | ⟨g, c, cur, e1, e2, e3⟩
  · exact .inl h
  · exact .inr ⟨g, c, cur, e1, by omega, e3⟩
/-- A byte in its cell. -/
def byE (b : UInt8) : List Value := [.int .u8 b.toNat]
theorem byE_len (b : UInt8) : (byE b).length = 1 := rfl
theorem one_byE : ∀ b, ∀ v ∈ byE b, v.oneCell' = true := fun b v hv => by simp [byE] at hv; subst hv; rfl
def byRep : Rep UInt8 := valRep byE 1 byE_len one_byE
theorem Tryz.infoB : (Tryz.prog.info? 5).map (fun i => (i.zero, i.size, i.bytes)) = some (some (.int .u8 0), 1, 1) := by kernel_rfl
/-- A slice of bytes that the call owns. -/
abbrev OwnB (w : World) (base : Nat) (ao : Option Addr) (cap : Nat) (xs : List UInt8) : Prop := OwnE byE 1 5 w base ao cap xs
theorem flat_byE (xs : List UInt8) : flatL byE xs = xs.map fun b => .int .u8 b.toNat := by
  induction xs with
  | nil => rfl
  | cons x r ih => simp only [flatL, List.flatMap_cons, List.map_cons] at *; rw [ih]; rfl
theorem OwnB.sl {w : World} {base : Nat} {ao : Option Addr} {cap : Nat} {xs : List UInt8} (h : OwnB w base ao cap xs) : Sl byRep (fun b => base ≤ b) w (.slice ao xs.length cap) xs := by
  refine ⟨ao, cap, rfl, ?_⟩
  rcases h.cases with ⟨_, _, h0⟩ | ⟨g, rfl, hb, _, _⟩
  · subst h0; exact SlAt.nil _ _ _
  · exact val_sl hb (h.holds byE_len)
/-- One byte of a slice. -/
theorem by_get {P : Nat → Prop} {w : World} {ao : Option Addr} {xs : List UInt8} (h : SlAt byRep P w ao xs) (i : Nat) (hi : i < xs.length) : ∃ b off, ao = some ⟨b, off, none⟩ ∧ P b ∧ b < w.heap.size ∧ w.cell? ⟨b, off + i, none⟩ = some (.int .u8 (xs[i]).toNat) := by
  obtain ⟨b, off, cs, e, hp, hr, hR⟩ := h i hi
  have := hr 0 (.int .u8 (xs[i]).toNat) (by rw [show cs = _ from hR]; rfl)
  rw [show off + i * byRep.k + 0 = off + i by simp [byRep, valRep]] at this
  exact ⟨b, off, e, hp, World.block_lt_of_cell? w _ this, this⟩
theorem by_at {P : Nat → Prop} {w : World} {ao : Option Addr} {xs : List UInt8} (h : SlAt byRep P w ao xs) (i : Nat) (hi : i < xs.length) : ∃ b off y, ao = some ⟨b, off, none⟩ ∧ b < w.heap.size ∧ w.cell? ⟨b, off + i, none⟩ = some (.int .u8 y.toNat) ∧ xs[i]? = some y := by
  obtain ⟨b, off, e, _, hb, hc⟩ := by_get h i hi
  exact ⟨b, off, xs[i], e, hb, hc, by simp [hi]⟩
/-- A number's lowest eight bits. -/
def by8 (z : Int) : UInt8 := UInt8.ofNat (z % 256).toNat
theorem by8_wrap (z : Int) : IntKind.u8.wrap z = ((by8 z).toNat : Int) := by
  rw [IntKind.wrap_u8]
  unfold by8
  rw [UInt8.toNat_ofNat']
  omega
/-- The bytes of a string. -/
def strL (s : ByteArray) : List UInt8 := s.data.toList
theorem strL_len (s : ByteArray) : (strL s).length = s.size := Array.length_toList
/-- append(out, s...) of a string, out owned: at the list of operations. -/
theorem wpList_appB_str {P : Program} {w : World} {ops : Array Oper} {rest : List Oper} {o : Oper} {a : Act} {Q : Exit → Act → World → Prop} (hgd : o.guard = none) (sl x : Operand) (t u : TypeId)
    (ho : o.op = .call { callee := .builtin .append, args := #[sl, x], argTypes := #[t, u] }) (ht : P.underlying t = some (.slice 5)) (hu : P.underlying u = some .string)
    (hinfo : (P.info? 5).map (fun i => (i.zero, i.size, i.bytes)) = some (some (.int .u8 0), 1, 1)) (base : Nat) (ao : Option Addr) (cap n : Nat) (xs : List UInt8) (hn : xs.length = n) (hs : a.eval sl = .slice ao n cap) (s : ByteArray) (hx : a.eval x = .string s)
    (hown : OwnB w base ao cap xs) (hlen : n + s.size ≤ 10000000) (hbase : base ≤ w.heap.size)
    (h : ∀ ao' cap' w', OwnB w' base ao' cap' (xs ++ strL s) → Ex base none w w' → wpList P ops Q rest (a.put o.dst (.slice ao' (n + s.size) cap')) w') : wpList P ops Q (o :: rest) a w := by
  subst hn
  obtain ⟨i0, hi, hz0, hz1, hz2⟩ := info_parts hinfo
  refine Go.Lib.wpList_append_own_string _ hgd sl x t u ho base 5 i0 ht hu hi hz0 hz1 hz2 _ _ _ hs hown s hx (by simp only [maxLen]; omega) (by omega) hbase ?_
  intro v' w' ho' hg _
  obtain ⟨ao', cap', rfl⟩ := own_shape ho'
  refine h ao' cap' w' ?_ ⟨hg.os, hg.tape, hg.output, hg.size, fun q hq _ => hg.block q (by omega) (fun e => ?_)⟩
  · unfold OwnB OwnE
    have e2 : flatL byE (xs ++ strL s) = flatL byE xs ++ Go.Lib.strCells s := by
      rw [flat_byE, flat_byE, List.map_append]; rfl
    rw [e2, List.length_append, strL_len]; exact ho'
  · cases ao with
    | none => cases e
    | some ad =>
      have := (hown.lt ad rfl).1
      simp [Value.ownBlock] at e
      omega
/-- The bytes of a slice made a string. -/
def strOf (xs : List UInt8) : ByteArray := ⟨xs.toArray⟩
theorem strOf_size (xs : List UInt8) : (strOf xs).size = xs.length := List.size_toArray
theorem run_strOf {P : Program} {R : Nat → Prop} {w : World} {v : Value} {xs : List UInt8} (hv : Sl byRep R w v xs) (src dst : TypeId) (hs : P.underlying src = some (.slice 5)) (he : P.underlying 5 = some (.int .u8)) (hd : P.underlying dst = some .string) :
    (convert src dst v).run P w = .ok (.string (strOf xs)) w := by
  obtain ⟨ao, cap, rfl, h⟩ := hv
  cases ao with
  | none =>
    have h0 : xs = [] := by
      rcases Nat.eq_zero_or_pos xs.length with h0 | h0
      · exact List.eq_nil_of_length_eq_zero h0
      · obtain ⟨b, off, e, _⟩ := by_get h 0 h0
        cases e
    subst h0
    exact run_convert_bytes_nil w src 5 hs he _ _ dst hd
  | some ad =>
    rcases Nat.eq_zero_or_pos xs.length with h0 | h0
    · have : xs = [] := List.eq_nil_of_length_eq_zero h0
      subst this
      obtain ⟨b, off, sp⟩ := ad
      have hl : (loadCells ⟨b, off, sp⟩ 0).run P w = .ok #[] w := by simpa using run_loadCells_list (P := P) w ⟨b, off, sp⟩ [] (by simp)
      have h1 := run_convert_bytes_string w src dst 5 (some ⟨b, off, sp⟩) 0 cap hs he hd
      have h2 := run_bytesToString w ⟨b, off, sp⟩ 0 cap [] (by simpa using hl)
      simp only [List.length_nil]
      rw [h1, h2]
      rfl
    · obtain ⟨b, off, e, _, _, _⟩ := by_get h 0 h0
      cases e
      have := run_convert_bytes_arg (P := P) w src 5 hs he b off xs.length cap (xs.map fun b => (b.toNat : Int)) (by simp) (fun i hi => by
        obtain ⟨b', off', e', _, _, hc⟩ := by_get h i hi
        cases e'
        rw [hc]; simp [List.getD, hi]) dst hd
      rw [this]
      congr 2
      unfold strOfNums strOf
      congr 1
      simp [List.map_map, Function.comp_def]
end Go.Proofs.YtoeklgbajggndaaGreat

namespace Go.Proofs.YtoeklgbajggndaaGreat
open Go.RowKit Go.Sort

/-- A number as eight bytes. -/
def int8 (n : Int) : List UInt8 := [by8 (n / 72057594037927936), by8 (n / 281474976710656), by8 (n / 1099511627776), by8 (n / 4294967296), by8 (n / 16777216), by8 (n / 65536), by8 (n / 256), by8 (n)]
theorem int8_len (v : Int) : (int8 v).length = 8 := rfl
theorem by8_toNat (z : Int) : ((by8 z).toNat : Int) = z % 256 := by rw [← by8_wrap, IntKind.wrap_u8]

set_option maxHeartbeats 4000000 in
theorem int02_any {P : Nat → Prop} (v : Value) (xs : List UInt8) (n : Int) (w : World) (hv : Sl byRep P w v xs) (hm : xs.length ≤ 5000000) :
    Calls Tryz.prog 88 #[v, .int .i64 n] w fun e w' => ∃ ro rc, e = .returned (.slice ro (xs.length + 8) rc) ∧ OwnB w' w.heap.size ro rc (xs ++ int8 n) ∧ Ex w.heap.size none w w' := by
  obtain ⟨ao, cap, rfl, hx⟩ := hv
  have HX := Lib.hid (val_cells (by decide) hx)
  have HN : Hid (OwnB w w.heap.size none 0 []) := OwnE.nil _ _ _ _ _
  clear hx
  obtain ⟨m, hml⟩ : ∃ m, m = xs.length := ⟨_, rfl⟩
  have HML := Lib.hid hml
  rw [← hml] at hm ⊢
  clear hml
  go_enter Tryz.func88, Tryz.ntmps88
  go_wp2_with (at_builtin; refine wpList_appE2 rfl (.const (.slice none 0 0)) (.tmp 7) _ 5 (by rfl) Tryz.underlying30 _ 1 1 Tryz.infoB rfl (by decide) (by decide) byE byE_len one_byE w.heap.size none 0 0 [] rfl (by rfl) ao m cap (by rfl) xs HML.out.symm HN.out HX.out (by omega) (Nat.le_refl _) m (by omega) ?_; intro ro rc w1 hown hex _ _)
  have HO : Hid (OwnB w1 w.heap.size ro rc xs) := hown
  have HE := Lib.hid hex
  clear hown hex
  go_loopw [5, 6] (fun v i wr => ∃ (k : Nat) (ro : Option Addr) (rc : Nat), k ≤ 8 ∧ i = .int .i64 (7 - (k : Int)) ∧ v = .slice ro (m + k) rc ∧ OwnB wr w.heap.size ro rc (xs ++ (int8 n).take k) ∧ Ex w.heap.size none w wr) (fun _ i _ => (intOf i + 1).toNat)
  case atStart => exact ⟨0, ro, rc, by omega, rfl, rfl, by simpa using HO.out, HE.out⟩
  case round =>
    obtain ⟨k, ro, rc, hk, rfl, rfl, hown, hex⟩ := hrel
    have hsz := hex.size
    have HO := Lib.hid hown
    have HE := Lib.hid hex
    clear hown hex
    rcases (by omega : k = 0 ∨ k = 1 ∨ k = 2 ∨ k = 3 ∨ k = 4 ∨ k = 5 ∨ k = 6 ∨ k = 7 ∨ k = 8) with rfl | rfl | rfl | rfl | rfl | rfl | rfl | rfl | rfl
    · go_wp2_with (at_builtin; refine wpList_appE2 rfl (.tmp 13) (.tmp 20) _ 5 (by rfl) Tryz.underlying30 _ 1 1 Tryz.infoB rfl (by decide) (by decide) byE byE_len one_byE w.heap.size ro rc m (xs ++ (int8 n).take 0) (by rw [List.length_append, ← HML.out]; rfl) (by rfl) (some ⟨wr.heap.size, 0, none⟩) 1 1 (by rfl) [by8 (n / 72057594037927936)] rfl (HO.out.keep (Ex.new wr _) (Nat.le_refl _) (by simp)) (lit_cells (by simp [byE, by8_toNat])) (by omega) (by simp; omega) (m + 1) (by omega) ?_; intro ro2 rc2 w1 hown hex _ _)
      have HO2 : Hid (OwnB w1 w.heap.size ro2 rc2 (xs ++ (int8 n).take 1)) := by
        have h : OwnB w1 w.heap.size ro2 rc2 (xs ++ (int8 n).take 0 ++ [by8 (n / 72057594037927936)]) := hown
        rw [List.append_assoc] at h; exact h
      have HE2 : Hid (Ex w.heap.size none w w1) := (HE.out.trans (Ex.new wr _) hsz (by simp)).trans hex (Nat.le_refl _) (by simp)
      clear hown hex
      go_roundw
      case rel => exact ⟨1, ro2, rc2, by omega, by first | rfl | go_num, rfl, HO2.out, HE2.out⟩
      case measure => simp [intOf]
    · go_wp2_with (at_builtin; refine wpList_appE2 rfl (.tmp 13) (.tmp 20) _ 5 (by rfl) Tryz.underlying30 _ 1 1 Tryz.infoB rfl (by decide) (by decide) byE byE_len one_byE w.heap.size ro rc (m + 1) (xs ++ (int8 n).take 1) (by rw [List.length_append, ← HML.out]; rfl) (by rfl) (some ⟨wr.heap.size, 0, none⟩) 1 1 (by rfl) [by8 (n / 281474976710656)] rfl (HO.out.keep (Ex.new wr _) (Nat.le_refl _) (by simp)) (lit_cells (by simp [byE, by8_toNat])) (by omega) (by simp; omega) (m + 2) (by omega) ?_; intro ro2 rc2 w1 hown hex _ _)
      have HO2 : Hid (OwnB w1 w.heap.size ro2 rc2 (xs ++ (int8 n).take 2)) := by
        have h : OwnB w1 w.heap.size ro2 rc2 (xs ++ (int8 n).take 1 ++ [by8 (n / 281474976710656)]) := hown
        rw [List.append_assoc] at h; exact h
      have HE2 : Hid (Ex w.heap.size none w w1) := (HE.out.trans (Ex.new wr _) hsz (by simp)).trans hex (Nat.le_refl _) (by simp)
      clear hown hex
      go_roundw
      case rel => exact ⟨2, ro2, rc2, by omega, by first | rfl | go_num, rfl, HO2.out, HE2.out⟩
      case measure => simp [intOf]
    · go_wp2_with (at_builtin; refine wpList_appE2 rfl (.tmp 13) (.tmp 20) _ 5 (by rfl) Tryz.underlying30 _ 1 1 Tryz.infoB rfl (by decide) (by decide) byE byE_len one_byE w.heap.size ro rc (m + 2) (xs ++ (int8 n).take 2) (by rw [List.length_append, ← HML.out]; rfl) (by rfl) (some ⟨wr.heap.size, 0, none⟩) 1 1 (by rfl) [by8 (n / 1099511627776)] rfl (HO.out.keep (Ex.new wr _) (Nat.le_refl _) (by simp)) (lit_cells (by simp [byE, by8_toNat])) (by omega) (by simp; omega) (m + 3) (by omega) ?_; intro ro2 rc2 w1 hown hex _ _)
      have HO2 : Hid (OwnB w1 w.heap.size ro2 rc2 (xs ++ (int8 n).take 3)) := by
        have h : OwnB w1 w.heap.size ro2 rc2 (xs ++ (int8 n).take 2 ++ [by8 (n / 1099511627776)]) := hown
        rw [List.append_assoc] at h; exact h
      have HE2 : Hid (Ex w.heap.size none w w1) := (HE.out.trans (Ex.new wr _) hsz (by simp)).trans hex (Nat.le_refl _) (by simp)
      clear hown hex
      go_roundw
      case rel => exact ⟨3, ro2, rc2, by omega, by first | rfl | go_num, rfl, HO2.out, HE2.out⟩
      case measure => simp [intOf]
    · go_wp2_with (at_builtin; refine wpList_appE2 rfl (.tmp 13) (.tmp 20) _ 5 (by rfl) Tryz.underlying30 _ 1 1 Tryz.infoB rfl (by decide) (by decide) byE byE_len one_byE w.heap.size ro rc (m + 3) (xs ++ (int8 n).take 3) (by rw [List.length_append, ← HML.out]; rfl) (by rfl) (some ⟨wr.heap.size, 0, none⟩) 1 1 (by rfl) [by8 (n / 4294967296)] rfl (HO.out.keep (Ex.new wr _) (Nat.le_refl _) (by simp)) (lit_cells (by simp [byE, by8_toNat])) (by omega) (by simp; omega) (m + 4) (by omega) ?_; intro ro2 rc2 w1 hown hex _ _)
      have HO2 : Hid (OwnB w1 w.heap.size ro2 rc2 (xs ++ (int8 n).take 4)) := by
        have h : OwnB w1 w.heap.size ro2 rc2 (xs ++ (int8 n).take 3 ++ [by8 (n / 4294967296)]) := hown
        rw [List.append_assoc] at h; exact h
      have HE2 : Hid (Ex w.heap.size none w w1) := (HE.out.trans (Ex.new wr _) hsz (by simp)).trans hex (Nat.le_refl _) (by simp)
      clear hown hex
      go_roundw
      case rel => exact ⟨4, ro2, rc2, by omega, by first | rfl | go_num, rfl, HO2.out, HE2.out⟩
      case measure => simp [intOf]
    · go_wp2_with (at_builtin; refine wpList_appE2 rfl (.tmp 13) (.tmp 20) _ 5 (by rfl) Tryz.underlying30 _ 1 1 Tryz.infoB rfl (by decide) (by decide) byE byE_len one_byE w.heap.size ro rc (m + 4) (xs ++ (int8 n).take 4) (by rw [List.length_append, ← HML.out]; rfl) (by rfl) (some ⟨wr.heap.size, 0, none⟩) 1 1 (by rfl) [by8 (n / 16777216)] rfl (HO.out.keep (Ex.new wr _) (Nat.le_refl _) (by simp)) (lit_cells (by simp [byE, by8_toNat])) (by omega) (by simp; omega) (m + 5) (by omega) ?_; intro ro2 rc2 w1 hown hex _ _)
      have HO2 : Hid (OwnB w1 w.heap.size ro2 rc2 (xs ++ (int8 n).take 5)) := by
        have h : OwnB w1 w.heap.size ro2 rc2 (xs ++ (int8 n).take 4 ++ [by8 (n / 16777216)]) := hown
        rw [List.append_assoc] at h; exact h
      have HE2 : Hid (Ex w.heap.size none w w1) := (HE.out.trans (Ex.new wr _) hsz (by simp)).trans hex (Nat.le_refl _) (by simp)
      clear hown hex
      go_roundw
      case rel => exact ⟨5, ro2, rc2, by omega, by first | rfl | go_num, rfl, HO2.out, HE2.out⟩
      case measure => simp [intOf]
    · go_wp2_with (at_builtin; refine wpList_appE2 rfl (.tmp 13) (.tmp 20) _ 5 (by rfl) Tryz.underlying30 _ 1 1 Tryz.infoB rfl (by decide) (by decide) byE byE_len one_byE w.heap.size ro rc (m + 5) (xs ++ (int8 n).take 5) (by rw [List.length_append, ← HML.out]; rfl) (by rfl) (some ⟨wr.heap.size, 0, none⟩) 1 1 (by rfl) [by8 (n / 65536)] rfl (HO.out.keep (Ex.new wr _) (Nat.le_refl _) (by simp)) (lit_cells (by simp [byE, by8_toNat])) (by omega) (by simp; omega) (m + 6) (by omega) ?_; intro ro2 rc2 w1 hown hex _ _)
      have HO2 : Hid (OwnB w1 w.heap.size ro2 rc2 (xs ++ (int8 n).take 6)) := by
        have h : OwnB w1 w.heap.size ro2 rc2 (xs ++ (int8 n).take 5 ++ [by8 (n / 65536)]) := hown
        rw [List.append_assoc] at h; exact h
      have HE2 : Hid (Ex w.heap.size none w w1) := (HE.out.trans (Ex.new wr _) hsz (by simp)).trans hex (Nat.le_refl _) (by simp)
      clear hown hex
      go_roundw
      case rel => exact ⟨6, ro2, rc2, by omega, by first | rfl | go_num, rfl, HO2.out, HE2.out⟩
      case measure => simp [intOf]
    · go_wp2_with (at_builtin; refine wpList_appE2 rfl (.tmp 13) (.tmp 20) _ 5 (by rfl) Tryz.underlying30 _ 1 1 Tryz.infoB rfl (by decide) (by decide) byE byE_len one_byE w.heap.size ro rc (m + 6) (xs ++ (int8 n).take 6) (by rw [List.length_append, ← HML.out]; rfl) (by rfl) (some ⟨wr.heap.size, 0, none⟩) 1 1 (by rfl) [by8 (n / 256)] rfl (HO.out.keep (Ex.new wr _) (Nat.le_refl _) (by simp)) (lit_cells (by simp [byE, by8_toNat])) (by omega) (by simp; omega) (m + 7) (by omega) ?_; intro ro2 rc2 w1 hown hex _ _)
      have HO2 : Hid (OwnB w1 w.heap.size ro2 rc2 (xs ++ (int8 n).take 7)) := by
        have h : OwnB w1 w.heap.size ro2 rc2 (xs ++ (int8 n).take 6 ++ [by8 (n / 256)]) := hown
        rw [List.append_assoc] at h; exact h
      have HE2 : Hid (Ex w.heap.size none w w1) := (HE.out.trans (Ex.new wr _) hsz (by simp)).trans hex (Nat.le_refl _) (by simp)
      clear hown hex
      go_roundw
      case rel => exact ⟨7, ro2, rc2, by omega, by first | rfl | go_num, rfl, HO2.out, HE2.out⟩
      case measure => simp [intOf]
    · go_wp2_with (at_builtin; refine wpList_appE2 rfl (.tmp 13) (.tmp 20) _ 5 (by rfl) Tryz.underlying30 _ 1 1 Tryz.infoB rfl (by decide) (by decide) byE byE_len one_byE w.heap.size ro rc (m + 7) (xs ++ (int8 n).take 7) (by rw [List.length_append, ← HML.out]; rfl) (by rfl) (some ⟨wr.heap.size, 0, none⟩) 1 1 (by rfl) [by8 (n)] rfl (HO.out.keep (Ex.new wr _) (Nat.le_refl _) (by simp)) (lit_cells (by simp [byE, by8_toNat])) (by omega) (by simp; omega) (m + 8) (by omega) ?_; intro ro2 rc2 w1 hown hex _ _)
      have HO2 : Hid (OwnB w1 w.heap.size ro2 rc2 (xs ++ (int8 n).take 8)) := by
        have h : OwnB w1 w.heap.size ro2 rc2 (xs ++ (int8 n).take 7 ++ [by8 (n)]) := hown
        rw [List.append_assoc] at h; exact h
      have HE2 : Hid (Ex w.heap.size none w w1) := (HE.out.trans (Ex.new wr _) hsz (by simp)).trans hex (Nat.le_refl _) (by simp)
      clear hown hex
      go_roundw
      case rel => exact ⟨8, ro2, rc2, by omega, by first | rfl | go_num, rfl, HO2.out, HE2.out⟩
      case measure => simp [intOf]
    · go_wp2
      go_ret
      exact ⟨ro, rc, rfl, HO.out, HE.out⟩
theorem OwnB.len {w : World} {base : Nat} {ao : Option Addr} {cap : Nat} {xs : List UInt8} (h : OwnB w base ao cap xs) {v : Value} {n : Nat} (hv : v = .slice ao n cap) (hn : n = xs.length) : Sl byRep (fun b => base ≤ b) w v xs := by
  subst hv hn; exact h.sl

set_option maxHeartbeats 1000000 in
theorem text02_any {P : Nat → Prop} (v : Value) (xs : List UInt8) (s : ByteArray) (w : World) (hv : Sl byRep P w v xs) (hm : xs.length ≤ 4000000) (hs : s.size ≤ 1200000) :
    Calls Tryz.prog 49 #[v, .string s] w fun e w' => ∃ ro rc, e = .returned (.slice ro (xs.length + 8 + s.size) rc) ∧ OwnB w' w.heap.size ro rc (xs ++ int8 s.size ++ strL s) ∧ Ex w.heap.size none w w' := by
  have HV := Lib.hid hv
  clear hv
  go_enter Tryz.func49, Tryz.ntmps49
  go_wp2_with fail
  refine (int02_any v xs s.size w HV.out (by omega)).mono ?_
  rintro e w1 ⟨ro, rc, rfl, hown, hex⟩
  have HO := Lib.hid hown
  have HE := Lib.hid hex
  have hz := hex.size
  clear hown hex
  go_wp2_with (at_builtin; refine wpList_appB_str rfl (.tmp 8) (.tmp 9) _ _ (by rfl) Tryz.underlying30 Tryz.underlying9 Tryz.infoB w.heap.size ro rc (xs.length + 8) (xs ++ int8 s.size) (by rw [List.length_append]; rfl) (by rfl) s (by rfl) HO.out (by omega) hz ?_; intro ro2 rc2 w2 hown2 hex2)
  go_ret
  exact ⟨ro2, rc2, rfl, hown2, HE.out.trans hex2 (Nat.le_refl _) (by simp)⟩

def intsB (l : List Int) : List UInt8 := l.flatMap int8
theorem intsB_len (l : List Int) : (intsB l).length = l.length * 8 := by
  induction l with
  | nil => rfl
  | cons x r ih => simp only [intsB, List.flatMap_cons, List.length_append, int8_len, List.length_cons] at *; omega
set_option maxHeartbeats 1000000 in
theorem ints02_any {P : Nat → Prop} (v u : Value) (xs : List UInt8) (l : List Int) (w : World) (hv : Sl byRep P w v xs) (hu : Ints w u l) (hm : xs.length ≤ 3000000) (hl : l.length ≤ 100000) :
    Calls Tryz.prog 89 #[v, u] w fun e w' => ∃ ro rc, e = .returned (.slice ro (xs.length + 8 + l.length * 8) rc) ∧ OwnB w' w.heap.size ro rc (xs ++ int8 l.length ++ intsB l) ∧ Ex w.heap.size none w w' := by
  obtain ⟨ao, cap, rfl, hx⟩ := hu
  have HV := Lib.hid hv
  have HX := Lib.hid hx
  clear hv hx
  go_enter Tryz.func89, Tryz.ntmps89
  go_wp2_with fail
  refine (int02_any v xs l.length w HV.out (by omega)).mono ?_
  rintro e w1 ⟨ro, rc, rfl, hown, hex⟩
  have HO := Lib.hid hown
  have HE := Lib.hid hex
  clear hown hex
  go_wp2_with fail
  go_loopw [5, 6] (fun v i wr => ∃ (k : Nat) (ro : Option Addr) (rc : Nat), k ≤ l.length ∧ i = .int .i64 k ∧ v = .slice ro (xs.length + 8 + k * 8) rc ∧ OwnB wr w.heap.size ro rc (xs ++ int8 l.length ++ intsB (l.take k)) ∧ Ex w.heap.size none w wr) (fun _ i _ => l.length - (intOf i).toNat)
  case atStart => exact ⟨0, ro, rc, by omega, rfl, by rw [Nat.zero_mul, Nat.add_zero], by simpa [intsB] using HO.out, HE.out⟩
  case round =>
    obtain ⟨k, ro, rc, hk, rfl, rfl, hown, hex⟩ := hrel
    have hsz := hex.size
    by_cases hlt : k < l.length
    · obtain ⟨b, off, y, rfl, hc, HY⟩ := (HX.out.keep hex (Nat.le_refl _) (by simp)).get k hlt
      have HK : Hid (intsB (l.take (k + 1)) = intsB (l.take k) ++ int8 y) := (show _ = _ by
        have h := HY.out
        rw [List.getD_eq_getElem?_getD, List.getElem?_eq_getElem hlt] at h
        simp only [Option.getD_some] at h
        rw [List.take_add_one, List.getElem?_eq_getElem hlt, h]
        simp [intsB])
      have HTL : Hid ((intsB (l.take k)).length = k * 8) := (show _ = _ by rw [intsB_len]; simp; omega)
      have HL : Hid ((xs ++ int8 l.length ++ intsB (l.take k)).length = xs.length + 8 + k * 8) := (show _ = _ by rw [List.length_append, List.length_append, HTL.out, int8_len])
      have HO := Lib.hid hown
      have HE := Lib.hid hex
      clear hown hex
      go_wp2_with fail
      refine (int02_any _ (xs ++ int8 l.length ++ intsB (l.take k)) y _ (HO.out.len rfl HL.out.symm) (by rw [HL.out]; omega)).mono ?_
      rw [HL.out]
      rintro e w2 ⟨ro2, rc2, rfl, hown2, hex2⟩
      have HO2 : Hid (OwnB w2 wr.heap.size ro2 rc2 (xs ++ int8 l.length ++ intsB (l.take k) ++ int8 y)) := hown2
      have HE2 := Lib.hid hex2
      clear hown2 hex2
      go_wp2
      go_roundw
      case rel => exact ⟨k + 1, ro2, rc2, by omega, by go_num, by rw [Nat.add_mul]; rfl, by rw [HK.out, ← List.append_assoc]; exact (show OwnE _ _ _ _ _ _ _ _ from HO2.out).lowerE hsz, HE.out.trans HE2.out hsz (by simp)⟩
      case measure => simp [intOf] <;> omega
    · obtain rfl : k = l.length := by omega
      rw [List.take_length] at hown
      go_wp2
      go_ret
      exact ⟨ro, rc, rfl, hown, hex⟩
end Go.Proofs.YtoeklgbajggndaaGreat
