/- slices.Clone at numbers and at pins: contracts, no statement of the seat. -/
import Derived.Test.YtdmchekkcmjafaaOwnS
import Derived.WalkSpells
namespace Go.Proofs.Ytdmchekkcmjafaa
open Go.RowKit Go.Sort

theorem sl_none {α : Type} {r : Rep α} {P : Nat → Prop} {w : World} {xs : List α} (h : SlAt r P w none xs) : xs = [] := by
  rcases Nat.eq_zero_or_pos xs.length with h0 | h0
  · exact List.eq_nil_of_length_eq_zero h0
  · obtain ⟨b, off, _, e, _⟩ := h 0 h0
    cases e

set_option maxHeartbeats 1000000 in
theorem cloneInts_any {P : Nat → Prop} (ao : Option Addr) (n cap : Nat) (xs : List Int) (w : World) (hv : Sl intRep P w (.slice ao n cap) xs) (hm : xs.length ≤ 1000000) :
    Calls Try.prog 46 #[.slice ao n cap] w fun e w' => ∃ (ao' : Option Addr) (n' c' : Nat), e = .returned (.slice ao' n' c') ∧ Sl intRep (fun b => w.heap.size ≤ b) w' (.slice ao' n' c') xs ∧ Ex w.heap.size none w w' := by
  have q : ∀ (w : World) (a : Option Addr) (n c n' c' : Nat), (binOp .eql 25 (.slice a n c) (.slice none n' c')).run Try.prog w = .ok (.bool a.isNone) w := fun w a n c n' c' => Lib.run_eql_slice_nil w _ _ a n c n' c' Try.underlying25
  obtain ⟨ao', cap', e, hx⟩ := hv
  simp only [Value.slice.injEq] at e
  obtain ⟨rfl, rfl, rfl⟩ := e
  cases ao with
  | none =>
    obtain rfl := sl_none hx
    go_enter Try.func46, Try.ntmps46
    go_wp2
    go_ret
    exact ⟨none, 0, 0, rfl, Sl.nil _ _, Ex.refl _ _ _⟩
  | some ad =>
    have HX : Hid (Sl intRep P w (.slice (some ad) xs.length cap) xs) := ⟨_, _, rfl, hx⟩
    clear hx
    go_enter Try.func46, Try.ntmps46
    go_wp2_with (at_builtin; refine wpList_appIs (w0 := w.alloc (.cells #[] 3)) rfl (.tmp 5) (.tmp 6) _ rfl Try.underlying25 Try.infoInt w.heap.size (some ⟨w.heap.size, 0, none⟩) 0 [] xs (.slice (some ⟨w.heap.size, 0, none⟩) 0 0) _ 0 rfl rfl (by rfl) (by rfl) (sl_ints (HX.out.keep (by decide) (fun b _ hb => (Ex.new w _).block b hb (by simp)))) (World.ownsRow_lit w #[] 0 (Nat.le_refl _) (by decide) rfl) (Ex.refl _ _ _) (by simp; omega) (by simp) ?_; intro la lcap w1 hown1 hex1)
    go_ret
    refine ⟨la, xs.length, lcap, by simp, by simpa using own_ints_sl hown1, (Ex.new w (.cells #[] 3)).trans hex1 (Nat.le_refl _) (by simp)⟩

set_option maxHeartbeats 1000000 in
theorem clonePins_any {P : Nat → Prop} (ao : Option Addr) (n cap : Nat) (xs : List PinD) (w : World) (hv : Sl pinRep P w (.slice ao n cap) xs) (hm : xs.length ≤ 1000000) :
    Calls Try.prog 47 #[.slice ao n cap] w fun e w' => ∃ (ao' : Option Addr) (n' c' : Nat), e = .returned (.slice ao' n' c') ∧ Sl pinRep (fun b => w.heap.size ≤ b) w' (.slice ao' n' c') xs ∧ Ex w.heap.size none w w' := by
  have q : ∀ (w : World) (a : Option Addr) (n c n' c' : Nat), (binOp .eql 26 (.slice a n c) (.slice none n' c')).run Try.prog w = .ok (.bool a.isNone) w := fun w a n c n' c' => Lib.run_eql_slice_nil w _ _ a n c n' c' Try.underlying26
  obtain ⟨ao', cap', e, hx⟩ := hv
  simp only [Value.slice.injEq] at e
  obtain ⟨rfl, rfl, rfl⟩ := e
  cases ao with
  | none =>
    obtain rfl := sl_none hx
    go_enter Try.func47, Try.ntmps47
    go_wp2
    go_ret
    exact ⟨none, 0, 0, rfl, Sl.nil _ _, Ex.refl _ _ _⟩
  | some ad =>
    have HX : Hid (Sl pinRep P w (.slice (some ad) xs.length cap) xs) := ⟨_, _, rfl, hx⟩
    clear hx
    go_enter Try.func47, Try.ntmps47
    go_wp2_with (at_builtin; refine wpList_appE (w0 := w.alloc (.cells #[] 66)) rfl (.tmp 5) (.tmp 6) _ 66 rfl Try.underlying26 (.agg #[.int .i64 0, .int .i64 0, .string ⟨#[]⟩]) 3 32 Try.infoPin rfl (by decide) (by decide) pinE pinE_len one_pinE w.heap.size (some ⟨w.heap.size, 0, none⟩) 0 [] xs (.slice (some ⟨w.heap.size, 0, none⟩) 0 0) _ 0 rfl rfl (by rfl) (some ad) xs.length cap (by rfl) rfl rfl (val_cells (hk := pinE_len) (h1 := one_pinE) (by decide) (HX.out.keep (by decide) (fun b _ hb => (Ex.new w _).block b hb (by simp))).at') (World.ownsRow_lit w #[] 0 (Nat.le_refl _) (by decide) rfl) (Ex.refl _ _ _) (by simp; omega) (by simp) ?_; intro la lcap w1 hown1 hex1)
    go_ret
    exact ⟨la, xs.length, lcap, by simp, by
      have h := own_val_sl (hk := pinE_len) (h1 := one_pinE) hown1
      simp only [List.nil_append] at h
      exact h, (Ex.new w (.cells #[] 66)).trans hex1 (Nat.le_refl _) (by simp)⟩
end Go.Proofs.Ytdmchekkcmjafaa
