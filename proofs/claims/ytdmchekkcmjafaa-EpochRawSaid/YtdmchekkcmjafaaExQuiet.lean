/- A region that draws its order, whose operations read and whose callees may lay blocks of their own: walked once, in the order of the text, at the class of worlds in which no old block has been turned. For whatever program; no statement of the seat. -/
import Derived.Test.YtdmchekkcmjafaaStm
namespace Go.Proofs.Ytdmchekkcmjafaa
open Go.RowKit Go.Sort

/-- A world in which no block of w has been turned. -/
structure ExW (w : World) where
  w' : World
  ex : Ex w.heap.size none w w'
instance (w : World) : Inhabited (ExW w) := ⟨⟨w, Ex.refl _ _ _⟩⟩
theorem wp_region_quiet_ex {P : Program} {id : Nat} {Q : Exit → Act → World → Prop} {a : Act} {w : World} {l : List Oper} (hm : P.follows .mixedOrders = true) (hB : Region.lexB .any l.toArray = true)
    (h : wpQuiet P l.toArray (fun v => ∃ p : ExW w, v = p.w') (fun a' => ∀ v, (∃ p : ExW w, v = p.w') → Q .normal a' v) l a) : (Code.region id l.toArray true).wp P Q a w :=
  wp_region_quiet (C := fun v => ∃ p : ExW w, v = p.w') hm hB ⟨⟨w.drew, (Ex.refl _ _ _).drew⟩, rfl⟩ (by simpa using h)
theorem calls_ex_of {P : Program} {f : FuncId} {args : Array Value} {w : World} {p : ExW w} {v : Value} (h : Calls P f args p.w' fun e w' => e = .returned v ∧ Ex p.w'.heap.size none p.w' w') : Calls P f args p.w' fun e w'' => e = .returned v ∧ ∃ q : ExW w, w'' = q.w' :=
  h.mono fun _ _ ⟨he, hx⟩ => ⟨he, ⟨_, p.ex.trans hx p.ex.size (by simp)⟩, rfl⟩
theorem ExW.lies {P : Nat → Prop} {w : World} (p : ExW w) {x : St × Sv × Sv} (h : Lies P w x) : Lies P p.w' x := h.keep fun b _ hb => p.ex.block b hb (by simp)
/-- The cells of a statement, one by one. -/
theorem st_at {w : World} {b o : Nat} {x : St × Sv × Sv} (h : w.rangeAt b o (stE x)) :
    w.cell? ⟨b, o, none⟩ = some (.int .i64 x.1.author) ∧ w.cell? ⟨b, o + 1, none⟩ = some (.int .i64 x.1.number) ∧ w.cell? ⟨b, o + 2, none⟩ = some (.string x.1.prev) ∧ w.cell? ⟨b, o + 3, none⟩ = some (.int .i64 x.1.time) ∧
    w.cell? ⟨b, o + 4, none⟩ = some (.int .i64 x.1.kind) ∧ w.cell? ⟨b, o + 5, none⟩ = some (.int .i64 x.1.a) ∧ w.cell? ⟨b, o + 6, none⟩ = some (.int .i64 x.1.b) ∧ w.cell? ⟨b, o + 7, none⟩ = some (.int .i64 x.1.c) ∧
    w.cell? ⟨b, o + 8, none⟩ = some x.2.1.v ∧ w.cell? ⟨b, o + 9, none⟩ = some x.2.2.v ∧ w.cell? ⟨b, o + 10, none⟩ = some (.string x.1.body) ∧ w.cell? ⟨b, o + 11, none⟩ = some (.int .i64 x.1.key) ∧ w.cell? ⟨b, o + 12, none⟩ = some (.string x.1.dig) :=
  ⟨h 0 _ rfl, h 1 _ rfl, h 2 _ rfl, h 3 _ rfl, h 4 _ rfl, h 5 _ rfl, h 6 _ rfl, h 7 _ rfl, h 8 _ rfl, h 9 _ rfl, h 10 _ rfl, h 11 _ rfl, h 12 _ rfl⟩
theorem ExW.st_at {w : World} {b o : Nat} {x : St × Sv × Sv} (h : w.rangeAt b o (stE x)) (p : ExW w) :
    p.w'.cell? ⟨b, o, none⟩ = some (.int .i64 x.1.author) ∧ p.w'.cell? ⟨b, o + 1, none⟩ = some (.int .i64 x.1.number) ∧ p.w'.cell? ⟨b, o + 2, none⟩ = some (.string x.1.prev) ∧ p.w'.cell? ⟨b, o + 3, none⟩ = some (.int .i64 x.1.time) ∧
    p.w'.cell? ⟨b, o + 4, none⟩ = some (.int .i64 x.1.kind) ∧ p.w'.cell? ⟨b, o + 5, none⟩ = some (.int .i64 x.1.a) ∧ p.w'.cell? ⟨b, o + 6, none⟩ = some (.int .i64 x.1.b) ∧ p.w'.cell? ⟨b, o + 7, none⟩ = some (.int .i64 x.1.c) ∧
    p.w'.cell? ⟨b, o + 8, none⟩ = some x.2.1.v ∧ p.w'.cell? ⟨b, o + 9, none⟩ = some x.2.2.v ∧ p.w'.cell? ⟨b, o + 10, none⟩ = some (.string x.1.body) ∧ p.w'.cell? ⟨b, o + 11, none⟩ = some (.int .i64 x.1.key) ∧ p.w'.cell? ⟨b, o + 12, none⟩ = some (.string x.1.dig) :=
  Go.Proofs.Ytdmchekkcmjafaa.st_at (rangeAt_keep h (p.ex.block b (rangeAt_lt h (by rw [stE_len]; omega)) (by simp)))
end Go.Proofs.Ytdmchekkcmjafaa
