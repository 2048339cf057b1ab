/- A slice of statements that the call owns, their lists too: words; ref03.Copy in plain cells. No statement of the seat. -/
import Derived.Test.YtdmchekkcmjafaaSameList
import Derived.Test.YtdmchekkcmjafaaCopy03
import Derived.Maps.AppendAt
namespace Go.Proofs.Ytdmchekkcmjafaa
open Go.RowKit Go.Sort

theorem Try.infoSt : (Try.prog.info? 30).map (fun i => (i.zero, i.size, i.bytes)) = some (some (.agg #[.int .i64 0, .int .i64 0, .string ⟨#[]⟩, .int .i64 0, .int .i64 0, .int .i64 0, .int .i64 0, .int .i64 0, .slice none 0 0, .slice none 0 0, .string ⟨#[]⟩, .int .i64 0, .string ⟨#[]⟩]), 13, 160) := by kernel_rfl

/-- The block of a slice's row. -/
def rowOf (ao : Option Addr) : Option Nat := ao.map (·.block)
/-- The slice at ao owns the statements l, and all that their lists lie in (not in the row itself), from 'base' on. -/
def OwnS (w : World) (base : Nat) (ao : Option Addr) (cap : Nat) (l : List St) : Prop :=
  ∃ xs : List (St × Sv × Sv), xs.map (·.1) = l ∧ OwnE stE 13 30 w base ao cap xs ∧ ∀ x ∈ xs, Lies (fun b => base ≤ b ∧ rowOf ao ≠ some b) w x
theorem OwnS.nil (w : World) (base : Nat) : OwnS w base none 0 [] := ⟨[], rfl, OwnE.nil _ _ _ _ _, fun x hx => by simp at hx⟩
theorem OwnS.keep {w w' : World} {base B : Nat} {ao : Option Addr} {cap : Nat} {l : List St} (h : OwnS w base ao cap l) (hx : Ex B none w w') (hB : w.heap.size ≤ B) : OwnS w' base ao cap l := by
  obtain ⟨xs, e, h1, h2⟩ := h
  exact ⟨xs, e, h1.keep hx hB (by simp), fun x hxx => (h2 x hxx).keep fun b _ hb => hx.block b (by omega) (by simp)⟩
theorem OwnS.sl {w : World} {base : Nat} {ao : Option Addr} {cap : Nat} {l : List St} (h : OwnS w base ao cap l) : Sl stRep (fun b => base ≤ b) w (.slice ao l.length cap) l := by
  obtain ⟨xs, rfl, h1, h2⟩ := h
  refine ⟨ao, cap, by simp, ?_⟩
  rcases h1.cases with ⟨_, _, h0⟩ | ⟨g, rfl, hb, _, _⟩
  · subst h0; exact SlAt.nil _ _ _
  · exact st_sl hb (h1.holds stE_len) (fun x hx => (h2 x hx).mono fun b hb _ => hb.1)

/-- 'append(out, x)', out a slice of statements of the call's own, x a statement whose lists the call owns. -/
theorem wpList_appS {P : Program} {w : World} {ops : Array Oper} {rest : List Oper} {o : Oper} {a : Act} {Q : Exit → Act → World → Prop} (hgd : o.guard = none) (s u : Operand) (t : TypeId)
    (ho : o.op = .call { callee := .builtin .append, args := #[s, u], argTypes := #[t, t] }) (ht : P.underlying t = some (.slice 30))
    (hinfo : (P.info? 30).map (fun i => (i.zero, i.size, i.bytes)) = some (some (.agg #[.int .i64 0, .int .i64 0, .string ⟨#[]⟩, .int .i64 0, .int .i64 0, .int .i64 0, .int .i64 0, .int .i64 0, .slice none 0 0, .slice none 0 0, .string ⟨#[]⟩, .int .i64 0, .string ⟨#[]⟩]), 13, 160))
    (base : Nat) (ao : Option Addr) (cap n : Nat) (l : List St) (hn : n = l.length) (hs : a.eval s = .slice ao n cap) (g : Nat) (hu : a.eval u = .slice (some ⟨g, 0, none⟩) 1 1) (x : St × Sv × Sv)
    (hown : OwnS w base ao cap l) (hc : ∀ (j : Nat) (v : Value), (stE x)[j]? = some v → w.cell? ⟨g, j, none⟩ = some v) (hx : Lies (fun b => base ≤ b ∧ rowOf ao ≠ some b) w x) (hlen : l.length ≤ 1000000) (hbase : base ≤ w.heap.size)
    (h : ∀ ao' cap' w', OwnS w' base ao' cap' (l ++ [x.1]) → Ex base none w w' → wpList P ops Q rest (a.put o.dst (.slice ao' (l.length + 1) cap')) w') : wpList P ops Q (o :: rest) a w := by
  subst hn
  obtain ⟨i0, hi, hz0, hz1, hz2⟩ := info_parts hinfo
  obtain ⟨xs, rfl, h1, h2⟩ := hown
  have e1 : (xs.map (·.1)).length = xs.length := by simp
  rw [e1] at hs
  refine wpList_append_own_at _ hgd s u t ho base 30 i0 _ 13 160 ht hi hz0 hz1 hz2 rfl (by decide) _ _ _ hs h1 ⟨g, 0, none⟩ 1 1 (stE x) hu rfl (fun j v hv => by rw [Addr.add_lit, Nat.zero_add]; exact hc j v hv) (one_stE x) (by simp only [maxLen]; omega) (by omega) hbase ?_
  intro v' w' ho' hg _ hnew
  obtain ⟨ao', cap', rfl⟩ := own_shape ho'
  rw [e1] at h
  have hrow : (Value.slice ao xs.length cap).ownBlock = rowOf ao := by cases ao <;> rfl
  have hrow' : (Value.slice ao' (xs.length + 1) cap').ownBlock = rowOf ao' := by cases ao' <;> rfl
  rw [hrow] at hg hnew
  rw [hrow'] at hnew
  have hkeep : ∀ y, Lies (fun b => base ≤ b ∧ rowOf ao ≠ some b) w y → Lies (fun b => base ≤ b ∧ rowOf ao' ≠ some b) w' y := fun y hy => by
    refine Lies.mono (P := fun b => (base ≤ b ∧ rowOf ao ≠ some b) ∧ b < w.heap.size) (Lies.keep (w := w) (hy.mono fun b hb hlt => ⟨hb, hlt⟩) fun b hb hlt => hg.block b hlt (fun e => hb.1.2 e.symm)) (fun b hb _ => ⟨hb.1.1, fun e => ?_⟩)
    rcases hb with ⟨⟨_, hb1⟩, hb2⟩
    rcases hnew with h0 | h0
    · exact hb1 (h0 ▸ e)
    · rw [e] at h0; cases h0; omega
  refine h ao' cap' w' ⟨xs ++ [x], by simp, ?_, fun y hy => ?_⟩ ?_
  · unfold OwnE
    have e2 : flatL stE (xs ++ [x]) = flatL stE xs ++ stE x := by simp [flatL]
    rw [e2, List.length_append]; exact ho'
  · simp only [List.mem_append, List.mem_singleton] at hy
    rcases hy with hy | rfl
    · exact hkeep y (h2 y hy)
    · exact hkeep y hx
  · refine ⟨hg.os, hg.tape, hg.output, hg.size, fun k hk _ => hg.block k (by omega) (fun e => ?_)⟩
    cases ao with
    | none => cases e
    | some ad =>
      have := (h1.lt ad rfl).1
      simp [rowOf] at e
      omega

/-- The cells of a statement, written out. -/
def cellsS (s : St) (lo : Option Addr) (ln lc : Nat) (po : Option Addr) (pn pc : Nat) : List Value :=
  [.int .i64 s.author, .int .i64 s.number, .string s.prev, .int .i64 s.time, .int .i64 s.kind, .int .i64 s.a, .int .i64 s.b, .int .i64 s.c, .slice lo ln lc, .slice po pn pc, .string s.body, .int .i64 s.key, .string s.dig]
theorem copy03_lit {P : Nat → Prop} (s : St) (lo po : Option Addr) (ln lc pn pc : Nat) (w : World) (hx : Lies P w (s, ⟨lo, ln, lc⟩, ⟨po, pn, pc⟩)) (hm : s.list.length ≤ 1000000 ∧ s.pins.length ≤ 1000000) :
    Calls Try.prog 28 #[.agg #[.int .i64 s.author, .int .i64 s.number, .string s.prev, .int .i64 s.time, .int .i64 s.kind, .int .i64 s.a, .int .i64 s.b, .int .i64 s.c, .slice lo ln lc, .slice po pn pc, .string s.body, .int .i64 s.key, .string s.dig]] w fun e w' =>
      ∃ (la : Option Addr) (na ca : Nat) (pa : Option Addr) (np cp : Nat), e = .returned (.agg #[.int .i64 s.author, .int .i64 s.number, .string s.prev, .int .i64 s.time, .int .i64 s.kind, .int .i64 s.a, .int .i64 s.b, .int .i64 s.c, .slice la na ca, .slice pa np cp, .string s.body, .int .i64 s.key, .string s.dig]) ∧
        Lies (fun b => w.heap.size ≤ b) w' (s, ⟨la, na, ca⟩, ⟨pa, np, cp⟩) ∧ Ex w.heap.size none w w' :=
  (copy03_any s lo po ln lc pn pc w hx.1 hx.2 hm.1 hm.2).mono fun _ _ ⟨⟨la, na, ca⟩, ⟨pa, np, cp⟩, he, hl, hex⟩ => ⟨la, na, ca, pa, np, cp, he, hl, hex⟩

end Go.Proofs.Ytdmchekkcmjafaa
