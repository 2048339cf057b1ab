/- ref11.Copy. No statement of the seat. | ref02.Int, Text, Ints: contracts, no statement of the seat. | Byte slices as values whose header nobody looks at: ref02's contracts once more. No statement of the seat. | SHA-256 as a function on lists of bytes and words. Plain, no program in sight. | slices.Clone at numbers and at pins: contracts, no statement of the seat. | Dice.Of, Bytes, Digest of the made inputs: contracts, no statement of the seat. | graph.Out and graph.In. No statement of the seat. -/
import Derived.Test.YtfllcohnfboccaaGreatMg05
import Derived.Test.YtfllcohnfboccaaGreatMg02
import Derived.Deep.RegionHeld3
import Derived.Laws.ResultCell
import Derived.Outline
import Derived.Laws.BitsAllLaws
import Derived.WalkSpells
import Derived.Test.YtfllcohnfboccaaGreatMg00
namespace Go.Proofs.YtfllcohnfboccaaGreat
open Go.RowKit Go.Sort

theorem Tryz.infoEdge : (Tryz.prog.info? 105).map (fun i => (i.zero, i.size, i.bytes)) = some (some (.agg #[.int .i64 0, .int .i64 0, .int .i64 0]), 3, 24) := by kernel_rfl
theorem Tryz.sizeGr : (Tryz.prog.info? 64).map (·.size) = some 3 := by kernel_rfl
theorem infoIE : (Tryz.prog.info? 3).map (fun i => (i.zero, i.size, i.bytes)) = some (some (.int .i64 0), 1, 8) := by kernel_rfl
/-- Cells of numbers, to be appended. -/
theorem ints_src {w : World} {ao : Option Addr} {xs : List Int} (h : IntsAt w ao xs) : xs.length = 0 ∨ ∃ ad, ao = some ad ∧ ∀ (j : Nat) (v : Value), (flatL iE xs)[j]? = some v → w.cell? (ad.add j) = some v := by
  rcases Nat.eq_zero_or_pos xs.length with h0 | h0
  · exact .inl h0
  · obtain ⟨b, off, e, hc⟩ := h 0 h0
    refine .inr ⟨_, e, fun j v hv => ?_⟩
    rw [flat_iE] at hv
    have hj : j < xs.length := by have := (List.getElem?_eq_some_iff.1 hv).1; simpa using this
    rw [Addr.add_lit, hc j hj]
    simp [hj] at hv
    simp [List.getD, hj, hv]
theorem set3 {w : World} {g : Nat} {x y z a b c : Value} {t : TypeId} (h : w.heap[g]? = some (.cells #[x, y, z] t (0, 0))) : (((w.setCell ⟨g, 0, none⟩ a).setCell ⟨g, 1, none⟩ b).setCell ⟨g, 2, none⟩ c).heap[g]? = some (.cells #[a, b, c] t (0, 0)) := by
  rw [heap_setCell_same _ _ _ _ _ _ (heap_setCell_same _ _ _ _ _ _ (heap_setCell_same _ _ _ _ _ _ h))]
  rfl
theorem row_frozen {w : World} {g i : Nat} {cs : Array Value} {t : TypeId} (h : w.heap[g]? = some (.cells cs t (0, 0))) : w.frozen? ⟨g, i, none⟩ = false := by
  unfold World.frozen?
  dsimp only
  rw [h]
  simp
set_option maxHeartbeats 8000000 in
set_option maxRecDepth 100000 in
theorem copy11_any {P : Nat → Prop} (sz : Int) (eo : Option Addr) (en ec : Nat) (go : Option Addr) (gn gc : Nat) (es : List EdD) (gone : List Int) (w : World) (h : SlAt edRep P w eo es) (hn : es.length = en) (hg : IntsAt w go gone) (hgn : gone.length = gn) (hm : en ≤ 100000) (hm2 : gn ≤ 100000) :
    Calls Tryz.prog 119 #[.agg #[.int .i64 sz, .slice eo en ec, .slice go gn gc]] w fun e w' => ∃ (eo' : Option Addr) (ec' : Nat) (go' : Option Addr) (gc' : Nat), e = .returned (.agg #[.int .i64 sz, .slice eo' en ec', .slice go' gn gc']) ∧ OwnE edE 3 105 w' w.heap.size eo' ec' es ∧ OwnI w' w.heap.size go' gc' gone ∧ Ex w.heap.size none w w' := by
  have HX := Lib.hid h
  have HN := Lib.hid hn
  have HI := Lib.hid hg
  have HGN := Lib.hid hgn
  clear h hn hg hgn
  go_enter Tryz.func119, Tryz.ntmps119
  go_upto_region 1 with (fail)
  obtain ⟨w1, hw1⟩ : ∃ w1 : World, w1 = (w.alloc (.cells #[.int .i64 sz, .slice eo en ec, .slice go gn gc] 64)).alloc (.cells #[.int .i64 0, .slice none 0 0, .slice none 0 0] 64) := ⟨_, rfl⟩
  have HE1 : Hid (Ex w.heap.size none w w1) := Lib.hid (by rw [hw1]; exact ex_two0 _ _)
  have hz1 : w.heap.size + 2 ≤ w1.heap.size := by rw [hw1]; simp
  have HC : Hid (∀ w', Ex (w.heap.size + 1) none w1 w' → w'.cell? ⟨w.heap.size, 0, none⟩ = some (.int .i64 sz) ∧ w'.cell? ⟨w.heap.size, 1, none⟩ = some (.slice eo en ec) ∧ w'.cell? ⟨w.heap.size, 2, none⟩ = some (.slice go gn gc)) := Lib.hid (fun w' h => by
    have k : w'.heap[w.heap.size]? = some (.cells #[.int .i64 sz, .slice eo en ec, .slice go gn gc] 64 (0, 0)) := (h.block w.heap.size (by omega) (by simp)).trans (by rw [hw1]; exact heap_alloc2_old _ _ _)
    refine ⟨?_, ?_, ?_⟩ <;> (rw [cell_of_row _ _ _ _ _ _ k]; rfl))
  have HB1 : Hid (w1.heap[w.heap.size + 1]? = some (.cells #[.int .i64 0, .slice none 0 0, .slice none 0 0] 64 (0, 0))) := Lib.hid (by rw [hw1]; exact heap_alloc2_new _ _ _)
  rw [← hw1]
  clear hw1
  go_region_held3 (fun w' => w'.cell? ⟨w.heap.size, 0, none⟩ = some (.int .i64 sz) ∧ w'.cell? ⟨w.heap.size, 1, none⟩ = some (.slice eo en ec) ∧ w'.cell? ⟨w.heap.size, 2, none⟩ = some (.slice go gn gc))
    (first
      | exact HC.out _ (by (iterate 3 refine Ex.setCell ?_ _ none _ (.inr (Nat.le_refl _))); exact HEB.out)
      | exact HC.out _ HEB.out
      | exact HC.out _ HEA.out
      | exact HC.out _ (Ex.refl _ _ w1).drew
      | exact HC.out _ (Ex.refl _ _ w1)
      | fail)
    (first
      | (refine step_appE rfl (.const (.slice none 0 0)) (.tmp 6) _ 105 (by rfl) Tryz.underlying62 _ 3 24 Tryz.infoEdge rfl (by decide) (by decide) edE edE_len one_edE w1.heap.size none 0 0 [] rfl (by rfl) eo en ec (by rfl) es HN.out (OwnE.nil _ _ _ _ _) (val_cells (hk := edE_len) (h1 := one_edE) (by decide) (HX.out.keep (by decide) (fun b _ hb => HE1.out.drew.block b hb (by simp)))) (by omega) (Nat.le_refl _) en (by omega) ?_
         intro eo' ec' wa hown hex hb hr
         have HEA : Hid (Ex (w.heap.size + 1) none w1 wa) := Lib.hid ((Ex.refl (w.heap.size + 1) none w1).drew.trans (hex.mono (show w.heap.size + 1 ≤ w1.heap.size by omega)) (Nat.le_refl _) (by simp))
         have HEA1 : Hid (Ex w1.heap.size none w1 wa) := Lib.hid ((Ex.refl _ none w1).drew.trans hex (Nat.le_refl _) (by simp))
         have HOA := Lib.hid hown
         have hza : w1.heap.size ≤ wa.heap.size := HEA.out.size
         clear hown hex hb hr)
      | (refine step_appE rfl (.const (.slice none 0 0)) (.tmp 9) _ 3 (by rfl) Tryz.underlying22 _ 1 8 infoIE rfl (by decide) (by decide) iE iE_len one_iE wa.heap.size none 0 0 [] rfl (by rfl) go gn gc (by rfl) gone HGN.out (OwnE.nil _ _ _ _ _) (ints_src (HI.out.keep (HE1.out.trans HEA1.out (by omega) (by simp)) (Nat.le_refl _) (by simp))) (by omega) (Nat.le_refl _) gn (by omega) ?_
         intro go' gc' wb hown hex hb hr
         have HEB : Hid (Ex (w.heap.size + 1) none w1 wb) := Lib.hid (HEA.out.trans hex (by omega) (by simp))
         have HEB1 : Hid (Ex w1.heap.size none w1 wb) := Lib.hid (HEA1.out.trans hex hza (by simp))
         have HOB := Lib.hid hown
         have hb9 : wb.heap[w.heap.size + 1]? = some (.cells #[.int .i64 0, .slice none 0 0, .slice none 0 0] 64 (0, 0)) := (HEB1.out.block _ (by omega) (by simp)).trans HB1.out
         have z0 : wb.cell? ⟨w.heap.size + 1, 0, none⟩ = some (.int .i64 0) := (by rw [cell_of_row _ _ _ _ _ _ hb9]; rfl)
         have z1 : wb.cell? ⟨w.heap.size + 1, 1, none⟩ = some (.slice none 0 0) := (by rw [cell_of_row _ _ _ _ _ _ hb9]; rfl)
         have z2 : wb.cell? ⟨w.heap.size + 1, 2, none⟩ = some (.slice none 0 0) := (by rw [cell_of_row _ _ _ _ _ _ hb9]; rfl)
         have f0 := row_frozen (i := 0) hb9
         have f1 := row_frozen (i := 1) hb9
         have f2 := row_frozen (i := 2) hb9
         have HB9 := Lib.hid hb9
         have HOA2 : Hid (OwnE edE 3 105 wb w1.heap.size eo' ec' ([] ++ es)) := Lib.hid (HOA.out.keep hex (Nat.le_refl _) (by simp))
         clear hown hex hb hr hb9)
      | fail)
  go_wp2
  have hb9 := HB9.out
  refine bodyPost_ret (v := .agg #[.int .i64 sz, .slice eo' en ec', .slice go' gn gc']) (results_cell_row rfl _ _ (w.heap.size + 1) 64 _ (0, 0) _ (by rfl) (set3 hb9) Tryz.underlying64 rfl Tryz.sizeGr) rfl ?_
  refine ⟨eo', ec', go', gc', rfl, ?_, ?_, ?_⟩
  · have h := HOA2.out
    rw [List.nil_append] at h
    exact (h.lower (show w.heap.size ≤ w1.heap.size by omega)).same2 fun b hb => by
      have := h.lt
      have hlt : w1.heap.size ≤ b := by
        cases eo' with
        | none => cases hb
        | some ad => simp [rowOf] at hb; have := (h.lt _ rfl).1; omega
      iterate 3 refine (Below.heap_setCell _ _ _ _ (show b ≠ w.heap.size + 1 by omega)).trans ?_
      rfl
  · have h := HOB.out
    rw [List.nil_append] at h
    have h2 := (h.lower (show w.heap.size ≤ wa.heap.size by omega)).same2 (w' := ((wb.setCell ⟨w.heap.size + 1, 0, none⟩ (.int .i64 sz)).setCell ⟨w.heap.size + 1, 1, none⟩ (.slice eo' en ec')).setCell ⟨w.heap.size + 1, 2, none⟩ (.slice go' gn gc')) fun b hb => by
      have hlt : wa.heap.size ≤ b := by
        cases go' with
        | none => cases hb
        | some ad => simp [rowOf] at hb; have := (h.lt _ rfl).1; omega
      iterate 3 refine (Below.heap_setCell _ _ _ _ (show b ≠ w.heap.size + 1 by omega)).trans ?_
      rfl
    exact h2.i
  · iterate 3 refine Ex.setCell ?_ _ none _ (.inr (by omega))
    exact HE1.out.trans HEB1.out (by omega) (by simp)
end Go.Proofs.YtfllcohnfboccaaGreat

namespace Go.Proofs.YtfllcohnfboccaaGreat
open Go.RowKit Go.Sort

/-- A number as eight bytes. -/
def int8 (n : Int) : List UInt8 := [by8 (n / 72057594037927936), by8 (n / 281474976710656), by8 (n / 1099511627776), by8 (n / 4294967296), by8 (n / 16777216), by8 (n / 65536), by8 (n / 256), by8 (n)]
theorem int8_len (v : Int) : (int8 v).length = 8 := rfl
theorem by8_toNat (z : Int) : ((by8 z).toNat : Int) = z % 256 := by rw [← by8_wrap, IntKind.wrap_u8]

set_option maxHeartbeats 4000000 in
theorem int02_any {P : Nat → Prop} (v : Value) (xs : List UInt8) (n : Int) (w : World) (hv : Sl byRep P w v xs) (hm : xs.length ≤ 5000000) :
    Calls Tryz.prog 130 #[v, .int .i64 n] w fun e w' => ∃ ro rc, e = .returned (.slice ro (xs.length + 8) rc) ∧ OwnB w' w.heap.size ro rc (xs ++ int8 n) ∧ Ex w.heap.size none w w' := by
  obtain ⟨ao, cap, rfl, hx⟩ := hv
  have HX := Lib.hid (val_cells (by decide) hx)
  have HN : Hid (OwnB w w.heap.size none 0 []) := OwnE.nil _ _ _ _ _
  clear hx
  obtain ⟨m, hml⟩ : ∃ m, m = xs.length := ⟨_, rfl⟩
  have HML := Lib.hid hml
  rw [← hml] at hm ⊢
  clear hml
  go_enter Tryz.func130, Tryz.ntmps130
  go_wp2_with (at_builtin; refine wpList_appE2 rfl (.const (.slice none 0 0)) (.tmp 7) _ 5 (by rfl) Tryz.underlying95 _ 1 1 Tryz.infoB rfl (by decide) (by decide) byE byE_len one_byE w.heap.size none 0 0 [] rfl (by rfl) ao m cap (by rfl) xs HML.out.symm HN.out HX.out (by omega) (Nat.le_refl _) m (by omega) ?_; intro ro rc w1 hown hex _ _)
  have HO : Hid (OwnB w1 w.heap.size ro rc xs) := hown
  have HE := Lib.hid hex
  clear hown hex
  go_loopw [5, 6] (fun v i wr => ∃ (k : Nat) (ro : Option Addr) (rc : Nat), k ≤ 8 ∧ i = .int .i64 (7 - (k : Int)) ∧ v = .slice ro (m + k) rc ∧ OwnB wr w.heap.size ro rc (xs ++ (int8 n).take k) ∧ Ex w.heap.size none w wr) (fun _ i _ => (intOf i + 1).toNat)
  case atStart => exact ⟨0, ro, rc, by omega, rfl, rfl, by simpa using HO.out, HE.out⟩
  case round =>
    obtain ⟨k, ro, rc, hk, rfl, rfl, hown, hex⟩ := hrel
    have hsz := hex.size
    have HO := Lib.hid hown
    have HE := Lib.hid hex
    clear hown hex
    rcases (by omega : k = 0 ∨ k = 1 ∨ k = 2 ∨ k = 3 ∨ k = 4 ∨ k = 5 ∨ k = 6 ∨ k = 7 ∨ k = 8) with rfl | rfl | rfl | rfl | rfl | rfl | rfl | rfl | rfl
    · go_wp2_with (at_builtin; refine wpList_appE2 rfl (.tmp 13) (.tmp 20) _ 5 (by rfl) Tryz.underlying95 _ 1 1 Tryz.infoB rfl (by decide) (by decide) byE byE_len one_byE w.heap.size ro rc m (xs ++ (int8 n).take 0) (by rw [List.length_append, ← HML.out]; rfl) (by rfl) (some ⟨wr.heap.size, 0, none⟩) 1 1 (by rfl) [by8 (n / 72057594037927936)] rfl (HO.out.keep (Ex.new wr _) (Nat.le_refl _) (by simp)) (lit_cells (by simp [byE, by8_toNat])) (by omega) (by simp; omega) (m + 1) (by omega) ?_; intro ro2 rc2 w1 hown hex _ _)
      have HO2 : Hid (OwnB w1 w.heap.size ro2 rc2 (xs ++ (int8 n).take 1)) := by
        have h : OwnB w1 w.heap.size ro2 rc2 (xs ++ (int8 n).take 0 ++ [by8 (n / 72057594037927936)]) := hown
        rw [List.append_assoc] at h; exact h
      have HE2 : Hid (Ex w.heap.size none w w1) := (HE.out.trans (Ex.new wr _) hsz (by simp)).trans hex (Nat.le_refl _) (by simp)
      clear hown hex
      go_roundw
      case rel => exact ⟨1, ro2, rc2, by omega, by first | rfl | go_num, rfl, HO2.out, HE2.out⟩
      case measure => simp [intOf]
    · go_wp2_with (at_builtin; refine wpList_appE2 rfl (.tmp 13) (.tmp 20) _ 5 (by rfl) Tryz.underlying95 _ 1 1 Tryz.infoB rfl (by decide) (by decide) byE byE_len one_byE w.heap.size ro rc (m + 1) (xs ++ (int8 n).take 1) (by rw [List.length_append, ← HML.out]; rfl) (by rfl) (some ⟨wr.heap.size, 0, none⟩) 1 1 (by rfl) [by8 (n / 281474976710656)] rfl (HO.out.keep (Ex.new wr _) (Nat.le_refl _) (by simp)) (lit_cells (by simp [byE, by8_toNat])) (by omega) (by simp; omega) (m + 2) (by omega) ?_; intro ro2 rc2 w1 hown hex _ _)
      have HO2 : Hid (OwnB w1 w.heap.size ro2 rc2 (xs ++ (int8 n).take 2)) := by
        have h : OwnB w1 w.heap.size ro2 rc2 (xs ++ (int8 n).take 1 ++ [by8 (n / 281474976710656)]) := hown
        rw [List.append_assoc] at h; exact h
      have HE2 : Hid (Ex w.heap.size none w w1) := (HE.out.trans (Ex.new wr _) hsz (by simp)).trans hex (Nat.le_refl _) (by simp)
      clear hown hex
      go_roundw
      case rel => exact ⟨2, ro2, rc2, by omega, by first | rfl | go_num, rfl, HO2.out, HE2.out⟩
      case measure => simp [intOf]
    · go_wp2_with (at_builtin; refine wpList_appE2 rfl (.tmp 13) (.tmp 20) _ 5 (by rfl) Tryz.underlying95 _ 1 1 Tryz.infoB rfl (by decide) (by decide) byE byE_len one_byE w.heap.size ro rc (m + 2) (xs ++ (int8 n).take 2) (by rw [List.length_append, ← HML.out]; rfl) (by rfl) (some ⟨wr.heap.size, 0, none⟩) 1 1 (by rfl) [by8 (n / 1099511627776)] rfl (HO.out.keep (Ex.new wr _) (Nat.le_refl _) (by simp)) (lit_cells (by simp [byE, by8_toNat])) (by omega) (by simp; omega) (m + 3) (by omega) ?_; intro ro2 rc2 w1 hown hex _ _)
      have HO2 : Hid (OwnB w1 w.heap.size ro2 rc2 (xs ++ (int8 n).take 3)) := by
        have h : OwnB w1 w.heap.size ro2 rc2 (xs ++ (int8 n).take 2 ++ [by8 (n / 1099511627776)]) := hown
        rw [List.append_assoc] at h; exact h
      have HE2 : Hid (Ex w.heap.size none w w1) := (HE.out.trans (Ex.new wr _) hsz (by simp)).trans hex (Nat.le_refl _) (by simp)
      clear hown hex
      go_roundw
      case rel => exact ⟨3, ro2, rc2, by omega, by first | rfl | go_num, rfl, HO2.out, HE2.out⟩
      case measure => simp [intOf]
    · go_wp2_with (at_builtin; refine wpList_appE2 rfl (.tmp 13) (.tmp 20) _ 5 (by rfl) Tryz.underlying95 _ 1 1 Tryz.infoB rfl (by decide) (by decide) byE byE_len one_byE w.heap.size ro rc (m + 3) (xs ++ (int8 n).take 3) (by rw [List.length_append, ← HML.out]; rfl) (by rfl) (some ⟨wr.heap.size, 0, none⟩) 1 1 (by rfl) [by8 (n / 4294967296)] rfl (HO.out.keep (Ex.new wr _) (Nat.le_refl _) (by simp)) (lit_cells (by simp [byE, by8_toNat])) (by omega) (by simp; omega) (m + 4) (by omega) ?_; intro ro2 rc2 w1 hown hex _ _)
      have HO2 : Hid (OwnB w1 w.heap.size ro2 rc2 (xs ++ (int8 n).take 4)) := by
        have h : OwnB w1 w.heap.size ro2 rc2 (xs ++ (int8 n).take 3 ++ [by8 (n / 4294967296)]) := hown
        rw [List.append_assoc] at h; exact h
      have HE2 : Hid (Ex w.heap.size none w w1) := (HE.out.trans (Ex.new wr _) hsz (by simp)).trans hex (Nat.le_refl _) (by simp)
      clear hown hex
      go_roundw
      case rel => exact ⟨4, ro2, rc2, by omega, by first | rfl | go_num, rfl, HO2.out, HE2.out⟩
      case measure => simp [intOf]
    · go_wp2_with (at_builtin; refine wpList_appE2 rfl (.tmp 13) (.tmp 20) _ 5 (by rfl) Tryz.underlying95 _ 1 1 Tryz.infoB rfl (by decide) (by decide) byE byE_len one_byE w.heap.size ro rc (m + 4) (xs ++ (int8 n).take 4) (by rw [List.length_append, ← HML.out]; rfl) (by rfl) (some ⟨wr.heap.size, 0, none⟩) 1 1 (by rfl) [by8 (n / 16777216)] rfl (HO.out.keep (Ex.new wr _) (Nat.le_refl _) (by simp)) (lit_cells (by simp [byE, by8_toNat])) (by omega) (by simp; omega) (m + 5) (by omega) ?_; intro ro2 rc2 w1 hown hex _ _)
      have HO2 : Hid (OwnB w1 w.heap.size ro2 rc2 (xs ++ (int8 n).take 5)) := by
        have h : OwnB w1 w.heap.size ro2 rc2 (xs ++ (int8 n).take 4 ++ [by8 (n / 16777216)]) := hown
        rw [List.append_assoc] at h; exact h
      have HE2 : Hid (Ex w.heap.size none w w1) := (HE.out.trans (Ex.new wr _) hsz (by simp)).trans hex (Nat.le_refl _) (by simp)
      clear hown hex
      go_roundw
      case rel => exact ⟨5, ro2, rc2, by omega, by first | rfl | go_num, rfl, HO2.out, HE2.out⟩
      case measure => simp [intOf]
    · go_wp2_with (at_builtin; refine wpList_appE2 rfl (.tmp 13) (.tmp 20) _ 5 (by rfl) Tryz.underlying95 _ 1 1 Tryz.infoB rfl (by decide) (by decide) byE byE_len one_byE w.heap.size ro rc (m + 5) (xs ++ (int8 n).take 5) (by rw [List.length_append, ← HML.out]; rfl) (by rfl) (some ⟨wr.heap.size, 0, none⟩) 1 1 (by rfl) [by8 (n / 65536)] rfl (HO.out.keep (Ex.new wr _) (Nat.le_refl _) (by simp)) (lit_cells (by simp [byE, by8_toNat])) (by omega) (by simp; omega) (m + 6) (by omega) ?_; intro ro2 rc2 w1 hown hex _ _)
      have HO2 : Hid (OwnB w1 w.heap.size ro2 rc2 (xs ++ (int8 n).take 6)) := by
        have h : OwnB w1 w.heap.size ro2 rc2 (xs ++ (int8 n).take 5 ++ [by8 (n / 65536)]) := hown
        rw [List.append_assoc] at h; exact h
      have HE2 : Hid (Ex w.heap.size none w w1) := (HE.out.trans (Ex.new wr _) hsz (by simp)).trans hex (Nat.le_refl _) (by simp)
      clear hown hex
      go_roundw
      case rel => exact ⟨6, ro2, rc2, by omega, by first | rfl | go_num, rfl, HO2.out, HE2.out⟩
      case measure => simp [intOf]
    · go_wp2_with (at_builtin; refine wpList_appE2 rfl (.tmp 13) (.tmp 20) _ 5 (by rfl) Tryz.underlying95 _ 1 1 Tryz.infoB rfl (by decide) (by decide) byE byE_len one_byE w.heap.size ro rc (m + 6) (xs ++ (int8 n).take 6) (by rw [List.length_append, ← HML.out]; rfl) (by rfl) (some ⟨wr.heap.size, 0, none⟩) 1 1 (by rfl) [by8 (n / 256)] rfl (HO.out.keep (Ex.new wr _) (Nat.le_refl _) (by simp)) (lit_cells (by simp [byE, by8_toNat])) (by omega) (by simp; omega) (m + 7) (by omega) ?_; intro ro2 rc2 w1 hown hex _ _)
      have HO2 : Hid (OwnB w1 w.heap.size ro2 rc2 (xs ++ (int8 n).take 7)) := by
        have h : OwnB w1 w.heap.size ro2 rc2 (xs ++ (int8 n).take 6 ++ [by8 (n / 256)]) := hown
        rw [List.append_assoc] at h; exact h
      have HE2 : Hid (Ex w.heap.size none w w1) := (HE.out.trans (Ex.new wr _) hsz (by simp)).trans hex (Nat.le_refl _) (by simp)
      clear hown hex
      go_roundw
      case rel => exact ⟨7, ro2, rc2, by omega, by first | rfl | go_num, rfl, HO2.out, HE2.out⟩
      case measure => simp [intOf]
    · go_wp2_with (at_builtin; refine wpList_appE2 rfl (.tmp 13) (.tmp 20) _ 5 (by rfl) Tryz.underlying95 _ 1 1 Tryz.infoB rfl (by decide) (by decide) byE byE_len one_byE w.heap.size ro rc (m + 7) (xs ++ (int8 n).take 7) (by rw [List.length_append, ← HML.out]; rfl) (by rfl) (some ⟨wr.heap.size, 0, none⟩) 1 1 (by rfl) [by8 (n)] rfl (HO.out.keep (Ex.new wr _) (Nat.le_refl _) (by simp)) (lit_cells (by simp [byE, by8_toNat])) (by omega) (by simp; omega) (m + 8) (by omega) ?_; intro ro2 rc2 w1 hown hex _ _)
      have HO2 : Hid (OwnB w1 w.heap.size ro2 rc2 (xs ++ (int8 n).take 8)) := by
        have h : OwnB w1 w.heap.size ro2 rc2 (xs ++ (int8 n).take 7 ++ [by8 (n)]) := hown
        rw [List.append_assoc] at h; exact h
      have HE2 : Hid (Ex w.heap.size none w w1) := (HE.out.trans (Ex.new wr _) hsz (by simp)).trans hex (Nat.le_refl _) (by simp)
      clear hown hex
      go_roundw
      case rel => exact ⟨8, ro2, rc2, by omega, by first | rfl | go_num, rfl, HO2.out, HE2.out⟩
      case measure => simp [intOf]
    · go_wp2
      go_ret
      exact ⟨ro, rc, rfl, HO.out, HE.out⟩
theorem OwnB.len {w : World} {base : Nat} {ao : Option Addr} {cap : Nat} {xs : List UInt8} (h : OwnB w base ao cap xs) {v : Value} {n : Nat} (hv : v = .slice ao n cap) (hn : n = xs.length) : Sl byRep (fun b => base ≤ b) w v xs := by
  subst hv hn; exact h.sl

set_option maxHeartbeats 1000000 in
theorem text02_any {P : Nat → Prop} (v : Value) (xs : List UInt8) (s : ByteArray) (w : World) (hv : Sl byRep P w v xs) (hm : xs.length ≤ 4000000) (hs : s.size ≤ 1000000) :
    Calls Tryz.prog 131 #[v, .string s] w fun e w' => ∃ ro rc, e = .returned (.slice ro (xs.length + 8 + s.size) rc) ∧ OwnB w' w.heap.size ro rc (xs ++ int8 s.size ++ strL s) ∧ Ex w.heap.size none w w' := by
  have HV := Lib.hid hv
  clear hv
  go_enter Tryz.func131, Tryz.ntmps131
  go_wp2_with fail
  refine (int02_any v xs s.size w HV.out (by omega)).mono ?_
  rintro e w1 ⟨ro, rc, rfl, hown, hex⟩
  have HO := Lib.hid hown
  have HE := Lib.hid hex
  have hz := hex.size
  clear hown hex
  go_wp2_with (at_builtin; refine wpList_appB_str rfl (.tmp 8) (.tmp 9) _ _ (by rfl) Tryz.underlying95 Tryz.underlying9 Tryz.infoB w.heap.size ro rc (xs.length + 8) (xs ++ int8 s.size) (by rw [List.length_append]; rfl) (by rfl) s (by rfl) HO.out (by omega) hz ?_; intro ro2 rc2 w2 hown2 hex2)
  go_ret
  exact ⟨ro2, rc2, rfl, hown2, HE.out.trans hex2 (Nat.le_refl _) (by simp)⟩

def intsB (l : List Int) : List UInt8 := l.flatMap int8
theorem intsB_len (l : List Int) : (intsB l).length = l.length * 8 := by
  induction l with
  | nil => rfl
  | cons x r ih => simp only [intsB, List.flatMap_cons, List.length_append, int8_len, List.length_cons] at *; omega
set_option maxHeartbeats 1000000 in
theorem ints02_any {P : Nat → Prop} (v u : Value) (xs : List UInt8) (l : List Int) (w : World) (hv : Sl byRep P w v xs) (hu : Ints w u l) (hm : xs.length ≤ 3000000) (hl : l.length ≤ 100000) :
    Calls Tryz.prog 182 #[v, u] w fun e w' => ∃ ro rc, e = .returned (.slice ro (xs.length + 8 + l.length * 8) rc) ∧ OwnB w' w.heap.size ro rc (xs ++ int8 l.length ++ intsB l) ∧ Ex w.heap.size none w w' := by
  obtain ⟨ao, cap, rfl, hx⟩ := hu
  have HV := Lib.hid hv
  have HX := Lib.hid hx
  clear hv hx
  go_enter Tryz.func182, Tryz.ntmps182
  go_wp2_with fail
  refine (int02_any v xs l.length w HV.out (by omega)).mono ?_
  rintro e w1 ⟨ro, rc, rfl, hown, hex⟩
  have HO := Lib.hid hown
  have HE := Lib.hid hex
  clear hown hex
  go_wp2_with fail
  go_loopw [5, 6] (fun v i wr => ∃ (k : Nat) (ro : Option Addr) (rc : Nat), k ≤ l.length ∧ i = .int .i64 k ∧ v = .slice ro (xs.length + 8 + k * 8) rc ∧ OwnB wr w.heap.size ro rc (xs ++ int8 l.length ++ intsB (l.take k)) ∧ Ex w.heap.size none w wr) (fun _ i _ => l.length - (intOf i).toNat)
  case atStart => exact ⟨0, ro, rc, by omega, rfl, by rw [Nat.zero_mul, Nat.add_zero], by simpa [intsB] using HO.out, HE.out⟩
  case round =>
    obtain ⟨k, ro, rc, hk, rfl, rfl, hown, hex⟩ := hrel
    have hsz := hex.size
    by_cases hlt : k < l.length
    · obtain ⟨b, off, y, rfl, hc, HY⟩ := (HX.out.keep hex (Nat.le_refl _) (by simp)).get k hlt
      have HK : Hid (intsB (l.take (k + 1)) = intsB (l.take k) ++ int8 y) := (show _ = _ by
        have h := HY.out
        rw [List.getD_eq_getElem?_getD, List.getElem?_eq_getElem hlt] at h
        simp only [Option.getD_some] at h
        rw [List.take_add_one, List.getElem?_eq_getElem hlt, h]
        simp [intsB])
      have HTL : Hid ((intsB (l.take k)).length = k * 8) := (show _ = _ by rw [intsB_len]; simp; omega)
      have HL : Hid ((xs ++ int8 l.length ++ intsB (l.take k)).length = xs.length + 8 + k * 8) := (show _ = _ by rw [List.length_append, List.length_append, HTL.out, int8_len])
      have HO := Lib.hid hown
      have HE := Lib.hid hex
      clear hown hex
      go_wp2_with fail
      refine (int02_any _ (xs ++ int8 l.length ++ intsB (l.take k)) y _ (HO.out.len rfl HL.out.symm) (by rw [HL.out]; omega)).mono ?_
      rw [HL.out]
      rintro e w2 ⟨ro2, rc2, rfl, hown2, hex2⟩
      have HO2 : Hid (OwnB w2 wr.heap.size ro2 rc2 (xs ++ int8 l.length ++ intsB (l.take k) ++ int8 y)) := hown2
      have HE2 := Lib.hid hex2
      clear hown2 hex2
      go_wp2
      go_roundw
      case rel => exact ⟨k + 1, ro2, rc2, by omega, by go_num, by rw [Nat.add_mul]; rfl, by rw [HK.out, ← List.append_assoc]; exact (show OwnE _ _ _ _ _ _ _ _ from HO2.out).lowerE hsz, HE.out.trans HE2.out hsz (by simp)⟩
      case measure => simp [intOf] <;> omega
    · obtain rfl : k = l.length := by omega
      rw [List.take_length] at hown
      go_wp2
      go_ret
      exact ⟨ro, rc, rfl, hown, hex⟩
end Go.Proofs.YtfllcohnfboccaaGreat

namespace Go.Proofs.YtfllcohnfboccaaGreat
open Go.RowKit Go.Sort

/-- The slice value v owns the bytes xs. -/
def ByV (w : World) (base : Nat) (v : Value) (xs : List UInt8) : Prop := ∃ ro rc, v = .slice ro xs.length rc ∧ OwnB w base ro rc xs
theorem ByV.sl {w : World} {base : Nat} {v : Value} {xs : List UInt8} (h : ByV w base v xs) : Sl byRep (fun b => base ≤ b) w v xs := by
  obtain ⟨ro, rc, rfl, h⟩ := h
  exact h.sl
theorem ByV.lower {w : World} {base base' : Nat} {v : Value} {xs : List UInt8} (h : ByV w base v xs) (hb : base' ≤ base) : ByV w base' v xs := by
  obtain ⟨ro, rc, e, h⟩ := h
  exact ⟨ro, rc, e, OwnE.lowerE h hb⟩
theorem ByV.keep {w w' : World} {base B : Nat} {v : Value} {xs : List UInt8} (h : ByV w base v xs) (hx : Ex B none w w') (hB : w.heap.size ≤ B) : ByV w' base v xs := by
  obtain ⟨ro, rc, e, h⟩ := h
  exact ⟨ro, rc, e, OwnE.keep h hx hB (by simp)⟩
theorem int02_v {P : Nat → Prop} (v : Value) (xs : List UInt8) (n : Int) (w : World) (hv : Sl byRep P w v xs) (hm : xs.length ≤ 5000000) :
    Calls Tryz.prog 130 #[v, .int .i64 n] w fun e w' => ∃ u, e = .returned u ∧ ByV w' w.heap.size u (xs ++ int8 n) ∧ Ex w.heap.size none w w' :=
  (int02_any v xs n w hv hm).mono fun e w' ⟨ro, rc, h1, h2, h3⟩ => ⟨_, h1, ⟨ro, rc, by rw [List.length_append]; rfl, h2⟩, h3⟩
theorem text02_v {P : Nat → Prop} (v : Value) (xs : List UInt8) (s : ByteArray) (w : World) (hv : Sl byRep P w v xs) (hm : xs.length ≤ 4000000) (hs : s.size ≤ 1000000) :
    Calls Tryz.prog 131 #[v, .string s] w fun e w' => ∃ u, e = .returned u ∧ ByV w' w.heap.size u (xs ++ int8 s.size ++ strL s) ∧ Ex w.heap.size none w w' :=
  (text02_any v xs s w hv hm hs).mono fun e w' ⟨ro, rc, h1, h2, h3⟩ => ⟨_, h1, ⟨ro, rc, by rw [List.length_append, List.length_append, strL_len]; rfl, h2⟩, h3⟩
theorem ints02_v {P : Nat → Prop} (v u : Value) (xs : List UInt8) (l : List Int) (w : World) (hv : Sl byRep P w v xs) (hu : Ints w u l) (hm : xs.length ≤ 3000000) (hl : l.length ≤ 100000) :
    Calls Tryz.prog 182 #[v, u] w fun e w' => ∃ u, e = .returned u ∧ ByV w' w.heap.size u (xs ++ int8 l.length ++ intsB l) ∧ Ex w.heap.size none w w' :=
  (ints02_any v u xs l w hv hu hm hl).mono fun e w' ⟨ro, rc, h1, h2, h3⟩ => ⟨_, h1, ⟨ro, rc, by rw [List.length_append, List.length_append, intsB_len]; rfl, h2⟩, h3⟩
end Go.Proofs.YtfllcohnfboccaaGreat

namespace Go.Proofs.YtfllcohnfboccaaGreat
open Go.RowKit Go.Sort

/-- A word turned to the right. -/
def turnU (x : UInt32) (n : Nat) : UInt32 := (x >>> UInt32.ofNat n) ||| (x <<< UInt32.ofNat (32 - n))
def wordU (b : List UInt8) (i : Nat) : UInt32 := ((((b.getD (4 * i) 0).toUInt32 <<< 24) ||| ((b.getD (4 * i + 1) 0).toUInt32 <<< 16)) ||| ((b.getD (4 * i + 2) 0).toUInt32 <<< 8)) ||| (b.getD (4 * i + 3) 0).toUInt32
def schedA (w : List UInt32) (i : Nat) : UInt32 := (turnU (w.getD (i - 15) 0) 7 ^^^ turnU (w.getD (i - 15) 0) 18) ^^^ (w.getD (i - 15) 0 >>> 3)
def schedC (w : List UInt32) (i : Nat) : UInt32 := (turnU (w.getD (i - 2) 0) 17 ^^^ turnU (w.getD (i - 2) 0) 19) ^^^ (w.getD (i - 2) 0 >>> 10)
def schedU (w : List UInt32) (i : Nat) : UInt32 := ((w.getD (i - 16) 0 + schedA w i) + w.getD (i - 7) 0) + schedC w i
/-- The first n words of a block. -/
def sched (b : List UInt8) : Nat → List UInt32
  | 0 => []
  | n + 1 => sched b n ++ [if n < 16 then wordU b n else schedU (sched b n) n]
theorem sched_len (b : List UInt8) : ∀ n, (sched b n).length = n
  | 0 => rfl
  | n + 1 => by simp [sched, sched_len b n]
def rS (v : List UInt32) : UInt32 := (turnU (v.getD 4 0) 6 ^^^ turnU (v.getD 4 0) 11) ^^^ turnU (v.getD 4 0) 25
def rC (v : List UInt32) : UInt32 := (v.getD 4 0 &&& v.getD 5 0) ^^^ ((~~~(v.getD 4 0)) &&& v.getD 6 0)
def rX (v : List UInt32) (k w : UInt32) : UInt32 := (((v.getD 7 0 + rS v) + rC v) + k) + w
def rT (v : List UInt32) : UInt32 := (turnU (v.getD 0 0) 2 ^^^ turnU (v.getD 0 0) 13) ^^^ turnU (v.getD 0 0) 22
def rM (v : List UInt32) : UInt32 := ((v.getD 0 0 &&& v.getD 1 0) ^^^ (v.getD 0 0 &&& v.getD 2 0)) ^^^ (v.getD 1 0 &&& v.getD 2 0)
def roundU (v : List UInt32) (k w : UInt32) : List UInt32 := [(rX v k w + rT v) + rM v, v.getD 0 0, v.getD 1 0, v.getD 2 0, v.getD 3 0 + rX v k w, v.getD 4 0, v.getD 5 0, v.getD 6 0]
/-- The state behind n rounds. -/
def rounds (ks ws : List UInt32) (h : List UInt32) : Nat → List UInt32
  | 0 => h
  | n + 1 => roundU (rounds ks ws h n) (ks.getD n 0) (ws.getD n 0)
theorem rounds_len (ks ws h : List UInt32) (hh : h.length = 8) : ∀ n, (rounds ks ws h n).length = 8
  | 0 => hh
  | _n + 1 => rfl
/-- The sums of two lists, the first n of them. -/
def addTo (v h : List UInt32) (n : Nat) : List UInt32 := (List.range v.length).map fun i => if i < n then v.getD i 0 + h.getD i 0 else v.getD i 0
def blockU (h : List UInt32) (b : List UInt8) (ks : List UInt32) : List UInt32 := addTo (rounds ks (sched b 64) h 64) h 8
def constU : List UInt32 := [0x428a2f98, 0x71374491, 0xb5c0fbcf, 0xe9b5dba5, 0x3956c25b, 0x59f111f1, 0x923f82a4, 0xab1c5ed5,
  0xd807aa98, 0x12835b01, 0x243185be, 0x550c7dc3, 0x72be5d74, 0x80deb1fe, 0x9bdc06a7, 0xc19bf174,
  0xe49b69c1, 0xefbe4786, 0x0fc19dc6, 0x240ca1cc, 0x2de92c6f, 0x4a7484aa, 0x5cb0a9dc, 0x76f988da,
  0x983e5152, 0xa831c66d, 0xb00327c8, 0xbf597fc7, 0xc6e00bf3, 0xd5a79147, 0x06ca6351, 0x14292967,
  0x27b70a85, 0x2e1b2138, 0x4d2c6dfc, 0x53380d13, 0x650a7354, 0x766a0abb, 0x81c2c92e, 0x92722c85,
  0xa2bfe8a1, 0xa81a664b, 0xc24b8b70, 0xc76c51a3, 0xd192e819, 0xd6990624, 0xf40e3585, 0x106aa070,
  0x19a4c116, 0x1e376c08, 0x2748774c, 0x34b0bcb5, 0x391c0cb3, 0x4ed8aa4a, 0x5b9cca4f, 0x682e6ff3,
  0x748f82ee, 0x78a5636f, 0x84c87814, 0x8cc70208, 0x90befffa, 0xa4506ceb, 0xbef9a3f7, 0xc67178f2]
def startU : List UInt32 := [0x6a09e667, 0xbb67ae85, 0x3c6ef372, 0xa54ff53a, 0x510e527f, 0x9b05688c, 0x1f83d9ab, 0x5be0cd19]
/-- How many zeros are laid behind n bytes. -/
def padN (n : Nat) : Nat := (56 + 64 - n % 64) % 64
theorem padN_spec (n : Nat) : (n + padN n) % 64 = 56 ∧ ∀ j, j < padN n → (n + j) % 64 ≠ 56 := by
  unfold padN
  refine ⟨by omega, fun j hj => by omega⟩
/-- A length as eight bytes. -/
def len8 (n : Nat) : List UInt8 := int8 ((n : Int) * 8)
theorem len8_len (n : Nat) : (len8 n).length = 8 := rfl
/-- The padded message. -/
def padded (b : List UInt8) : List UInt8 := b ++ [128] ++ List.replicate (padN (b.length + 1)) 0 ++ len8 b.length
theorem padded_mod (b : List UInt8) : (padded b).length % 64 = 0 := by
  have := (padN_spec (b.length + 1)).1
  simp only [padded, List.length_append, List.length_replicate, len8_len, List.length_cons, List.length_nil]
  omega
/-- The state behind n blocks of 64 bytes. -/
def blocks (m : List UInt8) : Nat → List UInt32
  | 0 => startU
  | n + 1 => blockU (blocks m n) ((m.drop (64 * n)).take 64) constU
theorem addTo_len (v h : List UInt32) (n : Nat) : (addTo v h n).length = v.length := by simp [addTo]
theorem blockU_len (h : List UInt32) (b : List UInt8) (ks : List UInt32) (hh : h.length = 8) : (blockU h b ks).length = 8 := by rw [blockU, addTo_len, rounds_len _ _ _ hh]
theorem blocks_len (m : List UInt8) : ∀ n, (blocks m n).length = 8
  | 0 => rfl
  | n + 1 => blockU_len _ _ _ (blocks_len m n)
def bytesU (x : UInt32) : List UInt8 := [(x >>> 24).toUInt8, (x >>> 16).toUInt8, (x >>> 8).toUInt8, x.toUInt8]
def outTo (h : List UInt32) (n : Nat) : List UInt8 := (h.take n).flatMap bytesU
/-- SHA-256. -/
def sha (b : List UInt8) : ByteArray := strOf (outTo (blocks (padded b) ((padded b).length / 64)) 8)
theorem outTo_len (h : List UInt32) (n : Nat) (hn : n ≤ h.length) : (outTo h n).length = 4 * n := by
  unfold outTo
  induction n with
  | zero => simp
  | succ n ih =>
    rw [List.take_add_one, List.getElem?_eq_getElem (by omega), List.flatMap_append, List.length_append, ih (by omega)]
    simp [bytesU]; omega
theorem sha_size (b : List UInt8) : (sha b).size = 32 := by
  unfold sha
  rw [strOf_size, outTo_len _ _ (by rw [blocks_len]; omega)]

/-! Words in their cells -/
def wdE (x : UInt32) : List Value := [.int .u32 x.toNat]
theorem wdE_len (x : UInt32) : (wdE x).length = 1 := rfl
theorem one_wdE : ∀ b, ∀ v ∈ wdE b, v.oneCell' = true := fun b v hv => by simp [wdE] at hv; subst hv; rfl
def wdRep : Rep UInt32 := valRep wdE 1 wdE_len one_wdE
theorem Tryz.infoW : (Tryz.prog.info? 159).map (fun i => (i.zero, i.size, i.bytes)) = some (some (.int .u32 0), 1, 4) := by kernel_rfl
theorem flat_wdE (xs : List UInt32) : flatL wdE xs = xs.map fun b => .int .u32 b.toNat := by
  induction xs with
  | nil => rfl
  | cons x r ih => simp only [flatL, List.flatMap_cons, List.map_cons] at *; rw [ih]; rfl
theorem wd_get {P : Nat → Prop} {w : World} {ao : Option Addr} {xs : List UInt32} (h : SlAt wdRep P w ao xs) (i : Nat) (hi : i < xs.length) : ∃ b off, ao = some ⟨b, off, none⟩ ∧ P b ∧ b < w.heap.size ∧ w.cell? ⟨b, off + i, none⟩ = some (.int .u32 (xs[i]).toNat) := by
  obtain ⟨b, off, cs, e, hp, hr, hR⟩ := h i hi
  have := hr 0 (.int .u32 (xs[i]).toNat) (by rw [show cs = _ from hR]; rfl)
  rw [show off + i * wdRep.k + 0 = off + i by simp [wdRep, valRep]] at this
  exact ⟨b, off, e, hp, World.block_lt_of_cell? w _ this, this⟩

/-! What the machine makes of words -/
theorem u_xor (x y : UInt32) : bits .xor .u32 (x.toNat : Int) (y.toNat : Int) = ((x ^^^ y).toNat : Int) := by rw [u32_xor_nat _ _ x.toNat_lt y.toNat_lt, UInt32.toNat_xor]
theorem u_or (x y : UInt32) : bits .or .u32 (x.toNat : Int) (y.toNat : Int) = ((x ||| y).toNat : Int) := by rw [u32_or_nat _ _ x.toNat_lt y.toNat_lt, UInt32.toNat_or]
theorem u_and (x y : UInt32) : bits .and .u32 (x.toNat : Int) (y.toNat : Int) = ((x &&& y).toNat : Int) := by rw [u32_and_nat _ _ x.toNat_lt y.toNat_lt, UInt32.toNat_and]
theorem u_not (x : UInt32) : bits .xor .u32 4294967295 (x.toNat : Int) = ((~~~x).toNat : Int) := by
  have h := u_xor 4294967295 x
  have e : (4294967295 : UInt32) ^^^ x = ~~~x := by
    apply UInt32.toBitVec_inj.1
    simp only [UInt32.toBitVec_xor, UInt32.toBitVec_not]
    exact BitVec.allOnes_xor
  rw [e] at h
  exact h
theorem u_add (x y : UInt32) : IntKind.u32.wrap ((x.toNat : Int) + (y.toNat : Int)) = ((x + y).toNat : Int) := by
  rw [IntKind.wrap_u32, UInt32.toNat_add]
  omega
theorem u_add' (x y : UInt32) : ((x.toNat : Int) + (y.toNat : Int)) % 4294967296 = ((x + y).toNat : Int) := by rw [← u_add, IntKind.wrap_u32]
theorem u_shr (x : UInt32) (n : Nat) (hn : n < 32) : (x.toNat : Int) / 2 ^ n = ((x >>> UInt32.ofNat n).toNat : Int) := by
  rw [UInt32.toNat_shiftRight, UInt32.toNat_ofNat', Nat.shiftRight_eq_div_pow, Nat.mod_eq_of_lt (show n < 2 ^ 32 by omega), Nat.mod_eq_of_lt hn, Int.natCast_ediv, Int.natCast_pow]
  rfl
theorem u_shl (x : UInt32) (n : Nat) (hn : n < 32) : (x.toNat : Int) * 2 ^ n % 4294967296 = ((x <<< UInt32.ofNat n).toNat : Int) := by
  rw [UInt32.toNat_shiftLeft, UInt32.toNat_ofNat', Nat.shiftLeft_eq, Nat.mod_eq_of_lt (show n < 2 ^ 32 by omega), Nat.mod_eq_of_lt hn, Int.natCast_emod, Int.natCast_mul, Int.natCast_pow]
  rfl
/-! The same behind names that the walk's simp does not open -/
def xorU (x y : UInt32) : UInt32 := x ^^^ y
def andU (x y : UInt32) : UInt32 := x &&& y
def orU (x y : UInt32) : UInt32 := x ||| y
def notU (x : UInt32) : UInt32 := ~~~x
def addU (x y : UInt32) : UInt32 := x + y
def shrU (x : UInt32) (n : Nat) : UInt32 := x >>> UInt32.ofNat n
theorem r_xor (x y : UInt32) : bits .xor .u32 (x.toNat : Int) (y.toNat : Int) = ((xorU x y).toNat : Int) := u_xor x y
theorem r_and (x y : UInt32) : bits .and .u32 (x.toNat : Int) (y.toNat : Int) = ((andU x y).toNat : Int) := u_and x y
theorem r_or (x y : UInt32) : bits .or .u32 (x.toNat : Int) (y.toNat : Int) = ((orU x y).toNat : Int) := u_or x y
theorem r_not (x : UInt32) : bits .xor .u32 IntKind.u32.max (x.toNat : Int) = ((notU x).toNat : Int) := by
  rw [show IntKind.u32.max = 4294967295 by decide]; exact u_not x
theorem r_add (x y : UInt32) : IntKind.u32.wrap ((x.toNat : Int) + (y.toNat : Int)) = ((addU x y).toNat : Int) := u_add x y
theorem r_add' (x y : UInt32) : ((x.toNat : Int) + (y.toNat : Int)) % 4294967296 = ((addU x y).toNat : Int) := u_add' x y
theorem r_shr3 (x : UInt32) : (x.toNat : Int) / 8 = ((shrU x 3).toNat : Int) := u_shr x 3 (by omega)
theorem r_shr10 (x : UInt32) : (x.toNat : Int) / 1024 = ((shrU x 10).toNat : Int) := u_shr x 10 (by omega)
theorem u_turn (x : UInt32) (n : Nat) (h1 : 1 ≤ n) (h2 : n ≤ 31) : bits .or .u32 ((x.toNat : Int) / 2 ^ n) ((x.toNat : Int) * 2 ^ (32 - n) % 4294967296) = ((turnU x n).toNat : Int) := by
  rw [u_shr x n (by omega), u_shl x (32 - n) (by omega), u_or]
  rfl
end Go.Proofs.YtfllcohnfboccaaGreat

namespace Go.Proofs.YtfllcohnfboccaaGreat
open Go.RowKit Go.Sort

theorem sl_none {α : Type} {r : Rep α} {P : Nat → Prop} {w : World} {xs : List α} (h : SlAt r P w none xs) : xs = [] := by
  rcases Nat.eq_zero_or_pos xs.length with h0 | h0
  · exact List.eq_nil_of_length_eq_zero h0
  · obtain ⟨b, off, _, e, _⟩ := h 0 h0
    cases e

set_option maxHeartbeats 1000000 in
theorem cloneInts_any {P : Nat → Prop} (ao : Option Addr) (n cap : Nat) (xs : List Int) (w : World) (hv : Sl intRep P w (.slice ao n cap) xs) (hm : xs.length ≤ 1000000) :
    Calls Tryz.prog 143 #[.slice ao n cap] w fun e w' => ∃ (ao' : Option Addr) (n' c' : Nat), e = .returned (.slice ao' n' c') ∧ Sl intRep (fun b => w.heap.size ≤ b) w' (.slice ao' n' c') xs ∧ Ex w.heap.size none w w' := by
  have q : ∀ (w : World) (a : Option Addr) (n c n' c' : Nat), (binOp .eql 22 (.slice a n c) (.slice none n' c')).run Tryz.prog w = .ok (.bool a.isNone) w := fun w a n c n' c' => Lib.run_eql_slice_nil w _ _ a n c n' c' Tryz.underlying22
  obtain ⟨ao', cap', e, hx⟩ := hv
  simp only [Value.slice.injEq] at e
  obtain ⟨rfl, rfl, rfl⟩ := e
  cases ao with
  | none =>
    obtain rfl := sl_none hx
    go_enter Tryz.func143, Tryz.ntmps143
    go_wp2
    go_ret
    exact ⟨none, 0, 0, rfl, Sl.nil _ _, Ex.refl _ _ _⟩
  | some ad =>
    have HX : Hid (Sl intRep P w (.slice (some ad) xs.length cap) xs) := ⟨_, _, rfl, hx⟩
    clear hx
    go_enter Tryz.func143, Tryz.ntmps143
    go_wp2_with (at_builtin; refine wpList_appIs (w0 := w.alloc (.cells #[] 3)) rfl (.tmp 5) (.tmp 6) _ rfl Tryz.underlying22 Tryz.infoInt w.heap.size (some ⟨w.heap.size, 0, none⟩) 0 [] xs (.slice (some ⟨w.heap.size, 0, none⟩) 0 0) _ 0 rfl rfl (by rfl) (by rfl) (sl_ints (HX.out.keep (by decide) (fun b _ hb => (Ex.new w _).block b hb (by simp)))) (World.ownsRow_lit w #[] 0 (Nat.le_refl _) (by decide) rfl) (Ex.refl _ _ _) (by simp; omega) (by simp) ?_; intro la lcap w1 hown1 hex1)
    go_ret
    refine ⟨la, xs.length, lcap, by simp, by simpa using own_ints_sl hown1, (Ex.new w (.cells #[] 3)).trans hex1 (Nat.le_refl _) (by simp)⟩

end Go.Proofs.YtfllcohnfboccaaGreat

namespace Go.Proofs.YtfllcohnfboccaaGreat
open Go.RowKit Go.Sort

theorem OwnS.keepP {w w' : World} {base B : Nat} {p : Option Nat} {ao : Option Addr} {cap : Nat} {l : List St} (h : OwnS w base ao cap l) (hx : Ex B p w w') (hB : w.heap.size ≤ B) (hp : ∀ q, p = some q → q < base) : OwnS w' base ao cap l := by
  obtain ⟨xs, e, h1, h2⟩ := h
  exact ⟨xs, e, h1.keep hx hB hp, fun x hxx => (h2 x hxx).keep fun b hb hlt => hx.block b (by omega) (fun e => by have := hp b e.symm; omega)⟩
theorem dVal_nat {d : List Int} {n : Int} (h : 1 ≤ n) : ∃ k : Nat, dVal d n = k ∧ (k : Int) < n := by
  obtain ⟨h1, h2⟩ := dVal_bd (d := d) h
  exact ⟨(dVal d n).toNat, by omega, by omega⟩

set_option maxHeartbeats 400000 in
theorem ofD_any (N p : Nat) (d : List Int) (v : Value) (xs : List Int) (w : World) (hd : DiceAt N w p d) (hv : IntsO p w v xs) (h1 : 1 ≤ xs.length) (hm : xs.length ≤ 100000) :
    Calls Tryz.prog 24 #[.pointer (some ⟨p, 0, none⟩), v] w fun e w' => e = .returned (.int .i64 (xs.getD (dVal d xs.length).toNat 0)) ∧ DiceAt N w' p d.tail ∧ Ex w.heap.size (some p) w w' := by
  obtain ⟨ao, cap, rfl, hx, haw⟩ := hv
  obtain ⟨k, hk, hkl⟩ := dVal_nat (d := d) (n := xs.length) (by omega)
  have HK : Hid ((dVal d xs.length).toNat = k) := (show _ = _ by rw [hk]; simp)
  have hkl' : k < xs.length := by omega
  have HX := Lib.hid hx
  have HA := Lib.hid haw
  have HD := Lib.hid hd
  clear hx haw hd
  go_enter Tryz.func24, Tryz.ntmps24
  go_wp2_with fail
  refine (next_any N p d xs.length w HD.out (by omega)).mono ?_
  rw [hk]
  clear hk
  rintro e w1 ⟨rfl, hd1, hex1⟩
  obtain ⟨b, off, y, rfl, hc, HY⟩ := (HX.out.keep hex1 (Nat.le_refl _) (fun q hq hne => by cases hq; exact HA.out hne)).get k hkl'
  have HD1 := Lib.hid hd1
  have HE1 := Lib.hid hex1
  clear hd1 hex1
  go_wp2
  go_ret
  exact ⟨by rw [HK.out, HY.out]; rfl, HD1.out, HE1.out⟩
end Go.Proofs.YtfllcohnfboccaaGreat

namespace Go.Proofs.YtfllcohnfboccaaGreat
open Go.RowKit Go.Sort

/-- What trustflow/graph.Out gives, unsorted. -/
def outsG (es : List EdD) (key : Int) : List Int := (es.filter fun e => decide (e.1 = key)).map fun e => e.2.1
theorem outsG_up {es : List EdD} {key : Int} {k : Nat} {e : EdD} (h : es[k]? = some e) : outsG (es.take (k + 1)) key = outsG (es.take k) key ++ (if e.1 = key then [e.2.1] else []) := by
  unfold outsG
  rw [List.take_add_one, h]
  by_cases c : e.1 = key <;> simp [c]
set_option maxHeartbeats 4000000 in
theorem outsG_any {P : Nat → Prop} (sz : Int) (eo : Option Addr) (en ec : Nat) (go : Option Addr) (gn gc : Nat) (es : List EdD) (key : Int) (w : World) (h : SlAt edRep P w eo es) (hn : es.length = en) (hm : en ≤ 100000) :
    Calls Tryz.prog 78 #[.agg #[.int .i64 sz, .slice eo en ec, .slice go gn gc], .int .i64 key] w fun e w' => ∃ (ro : Option Addr) (rc n : Nat), e = .returned (.slice ro n rc) ∧ (((outsG es key).length = n ∧ n ≤ en) ∧ IntsAt w' ro ((outsG es key).mergeSort fun x y => decide (x ≤ y))) ∧ Ex w.heap.size none w w' := by
  have HX := Lib.hid h
  have HN := Lib.hid hn
  clear h hn
  go_enter Tryz.func78, Tryz.ntmps78
  go_wp2_with (fail)
  go_loopw [5, 7, 11] (fun v _ i wr => ∃ (k n : Nat) (ro : Option Addr) (rc : Nat), i = .int .i64 k ∧ k ≤ en ∧ n ≤ k ∧ v = .slice ro n rc ∧ Hid ((outsG (es.take k) key).length = n) ∧ Hid (OwnE iE 1 3 wr w.heap.size ro rc (outsG (es.take k) key)) ∧ Ex w.heap.size none w wr) (fun _ _ i _ => en - (intOf i).toNat)
  case atStart => exact ⟨0, 0, none, 0, rfl, by omega, by omega, rfl, Lib.hid rfl, Lib.hid (OwnE.nil _ _ _ _ _), Ex.new _ _⟩
  case round =>
    obtain ⟨k, n, ro, rc, rfl, hk, hnk, rfl, HL, HO, hex⟩ := hrel
    have hsz := hex.size
    have HEX := Lib.hid hex
    by_cases hlt : k < en
    · have hltI : (k : Int) < (en : Int) := by omega
      obtain ⟨b, off, e, rfl, _, hb, c0, c1, c2, HE⟩ := ed_get (HX.out.keep (by decide) (fun b _ hb => hex.block b hb (by simp))) k (by rw [HN.out]; exact hlt)
      have HUP := Lib.hid (outsG_up (key := key) HE.out)
      clear hex
      by_cases he : e.1 = key
      · have hed : (e.1 == key) = true := by simp [he]
        have HU2 : Hid (outsG (es.take (k + 1)) key = outsG (es.take k) key ++ [e.2.1]) := Lib.hid (by rw [HUP.out, if_pos he])
        clear he HUP
        go_upto_region 5 with (fail)
        obtain ⟨w3, hw3⟩ : ∃ w3 : World, w3 = wr.alloc (.cells #[.int .i64 e.1, .int .i64 e.2.1, .int .i64 e.2.2] 105) := ⟨_, rfl⟩
        have HE3 : Hid (Ex wr.heap.size none wr w3) := Lib.hid (by rw [hw3]; exact Ex.new _ _)
        have hz3 : wr.heap.size ≤ w3.heap.size := by rw [hw3]; simp
        have HB3 : Hid (w3.heap[wr.heap.size]? = some (.cells #[.int .i64 e.1, .int .i64 e.2.1, .int .i64 e.2.2] 105 (0, 0))) := Lib.hid (by rw [hw3]; exact heap_alloc_new _ _)
        have e0 : w3.cell? ⟨wr.heap.size, 0, none⟩ = some (.int .i64 e.1) := by rw [cell_of_row _ _ _ _ _ _ HB3.out]; rfl
        have e1 : w3.cell? ⟨wr.heap.size, 1, none⟩ = some (.int .i64 e.2.1) := by rw [cell_of_row _ _ _ _ _ _ HB3.out]; rfl
        rw [← hw3]
        clear hw3 c0 c1 c2
        go_wp2_with (at_builtin; refine wpList_appE2 rfl (.tmp 19) (.tmp 22) _ 3 (by rfl) Tryz.underlying22 _ 1 8 Tryz.infoInt rfl (by decide) (by decide) iE iE_len one_iE w.heap.size ro rc n (outsG (es.take k) key) HL.out (by rfl) (some ⟨w3.heap.size, 0, none⟩) 1 1 (by rfl) [e.2.1] rfl ((HO.out.keep HE3.out (Nat.le_refl _) (by simp)).keep (Ex.new w3 _) (Nat.le_refl _) (by simp)) (lit_cells (by rfl)) (by omega) (by simp; omega) (n + 1) (by omega) ?_; intro ro2 rc2 w2 hown2 hex2 _ _; have H2 : Hid (OwnE iE 1 3 w2 w.heap.size ro2 rc2 (outsG (es.take (k + 1)) key) ∧ Ex w.heap.size none w w2) := Lib.hid ⟨by rw [HU2.out]; exact hown2, ((HEX.out.trans HE3.out hsz (by simp)).trans ((Ex.new w3 _).mono (show w.heap.size ≤ w3.heap.size by omega)) (Nat.le_refl _) (by simp)).trans hex2 (Nat.le_refl _) (by simp)⟩; clear hown2 hex2)
        go_roundw
        case rel => exact ⟨k + 1, n + 1, ro2, rc2, by go_num, by omega, by omega, rfl, Lib.hid (by rw [HU2.out, List.length_append, HL.out]; rfl), Lib.hid H2.out.1, H2.out.2⟩
        case measure => simp [intOf] <;> omega
      · have hed : (e.1 == key) = false := by simp [he]
        have HU2 : Hid (outsG (es.take (k + 1)) key = outsG (es.take k) key) := Lib.hid (by rw [HUP.out, if_neg he, List.append_nil])
        clear he HUP
        go_wp2_with (fail)
        go_roundw
        case rel => exact ⟨k + 1, n, ro, rc, by go_num, by omega, by omega, rfl, Lib.hid (by rw [HU2.out]; exact HL.out), Lib.hid (by rw [HU2.out]; exact HO.out.keep (Ex.new wr _) (Nat.le_refl _) (by simp)), HEX.out.trans (Ex.new wr _) hsz (by simp)⟩
        case measure => simp [intOf] <;> omega
    · have hltI : ¬ (k : Int) < (en : Int) := by omega
      have hke : k = en := by omega
      have HF : Hid (outsG (es.take k) key = outsG es key) := Lib.hid (by rw [hke, ← HN.out, List.take_length])
      clear hex
      go_wp2_with (go_at_call 62; refine (sortInts_any ro rc n w.heap.size (outsG es key) wr (by rw [← HF.out]; exact HO.out.i) (by rw [← HF.out]; exact HL.out) (by rw [← HF.out, HL.out]; omega)).mono ?_; rintro e w2 ⟨rfl, hex2, hs2⟩)
      go_ret
      refine ⟨ro, rc, n, rfl, ⟨⟨by rw [← HF.out]; exact HL.out, by omega⟩, ?_⟩, HEX.out.trans hex2 (Nat.le_refl _) (by simp)⟩
      rcases hs2 with h0 | ⟨g, rfl, _, _, _, hh⟩
      · rw [h0, List.mergeSort_nil]; exact IntsAt.nil _ _
      · exact holds_ints hh
/-- What trustflow/graph.In gives, unsorted. -/
def insG (es : List EdD) (key : Int) : List Int := (es.filter fun e => decide (e.2.1 = key)).map fun e => e.1
theorem insG_up {es : List EdD} {key : Int} {k : Nat} {e : EdD} (h : es[k]? = some e) : insG (es.take (k + 1)) key = insG (es.take k) key ++ (if e.2.1 = key then [e.1] else []) := by
  unfold insG
  rw [List.take_add_one, h]
  by_cases c : e.2.1 = key <;> simp [c]
set_option maxHeartbeats 4000000 in
theorem insG_any {P : Nat → Prop} (sz : Int) (eo : Option Addr) (en ec : Nat) (go : Option Addr) (gn gc : Nat) (es : List EdD) (key : Int) (w : World) (h : SlAt edRep P w eo es) (hn : es.length = en) (hm : en ≤ 100000) :
    Calls Tryz.prog 79 #[.agg #[.int .i64 sz, .slice eo en ec, .slice go gn gc], .int .i64 key] w fun e w' => ∃ (ro : Option Addr) (rc n : Nat), e = .returned (.slice ro n rc) ∧ (((insG es key).length = n ∧ n ≤ en) ∧ IntsAt w' ro ((insG es key).mergeSort fun x y => decide (x ≤ y))) ∧ Ex w.heap.size none w w' := by
  have HX := Lib.hid h
  have HN := Lib.hid hn
  clear h hn
  go_enter Tryz.func79, Tryz.ntmps79
  go_wp2_with (fail)
  go_loopw [5, 7, 11] (fun v _ i wr => ∃ (k n : Nat) (ro : Option Addr) (rc : Nat), i = .int .i64 k ∧ k ≤ en ∧ n ≤ k ∧ v = .slice ro n rc ∧ Hid ((insG (es.take k) key).length = n) ∧ Hid (OwnE iE 1 3 wr w.heap.size ro rc (insG (es.take k) key)) ∧ Ex w.heap.size none w wr) (fun _ _ i _ => en - (intOf i).toNat)
  case atStart => exact ⟨0, 0, none, 0, rfl, by omega, by omega, rfl, Lib.hid rfl, Lib.hid (OwnE.nil _ _ _ _ _), Ex.new _ _⟩
  case round =>
    obtain ⟨k, n, ro, rc, rfl, hk, hnk, rfl, HL, HO, hex⟩ := hrel
    have hsz := hex.size
    have HEX := Lib.hid hex
    by_cases hlt : k < en
    · have hltI : (k : Int) < (en : Int) := by omega
      obtain ⟨b, off, e, rfl, _, hb, c0, c1, c2, HE⟩ := ed_get (HX.out.keep (by decide) (fun b _ hb => hex.block b hb (by simp))) k (by rw [HN.out]; exact hlt)
      have HUP := Lib.hid (insG_up (key := key) HE.out)
      clear hex
      by_cases he : e.2.1 = key
      · have hed : (e.2.1 == key) = true := by simp [he]
        have HU2 : Hid (insG (es.take (k + 1)) key = insG (es.take k) key ++ [e.1]) := Lib.hid (by rw [HUP.out, if_pos he])
        clear he HUP
        go_upto_region 5 with (fail)
        obtain ⟨w3, hw3⟩ : ∃ w3 : World, w3 = wr.alloc (.cells #[.int .i64 e.1, .int .i64 e.2.1, .int .i64 e.2.2] 105) := ⟨_, rfl⟩
        have HE3 : Hid (Ex wr.heap.size none wr w3) := Lib.hid (by rw [hw3]; exact Ex.new _ _)
        have hz3 : wr.heap.size ≤ w3.heap.size := by rw [hw3]; simp
        have HB3 : Hid (w3.heap[wr.heap.size]? = some (.cells #[.int .i64 e.1, .int .i64 e.2.1, .int .i64 e.2.2] 105 (0, 0))) := Lib.hid (by rw [hw3]; exact heap_alloc_new _ _)
        have e0 : w3.cell? ⟨wr.heap.size, 0, none⟩ = some (.int .i64 e.1) := by rw [cell_of_row _ _ _ _ _ _ HB3.out]; rfl
        have e1 : w3.cell? ⟨wr.heap.size, 1, none⟩ = some (.int .i64 e.2.1) := by rw [cell_of_row _ _ _ _ _ _ HB3.out]; rfl
        rw [← hw3]
        clear hw3 c0 c1 c2
        go_wp2_with (at_builtin; refine wpList_appE2 rfl (.tmp 19) (.tmp 22) _ 3 (by rfl) Tryz.underlying22 _ 1 8 Tryz.infoInt rfl (by decide) (by decide) iE iE_len one_iE w.heap.size ro rc n (insG (es.take k) key) HL.out (by rfl) (some ⟨w3.heap.size, 0, none⟩) 1 1 (by rfl) [e.1] rfl ((HO.out.keep HE3.out (Nat.le_refl _) (by simp)).keep (Ex.new w3 _) (Nat.le_refl _) (by simp)) (lit_cells (by rfl)) (by omega) (by simp; omega) (n + 1) (by omega) ?_; intro ro2 rc2 w2 hown2 hex2 _ _; have H2 : Hid (OwnE iE 1 3 w2 w.heap.size ro2 rc2 (insG (es.take (k + 1)) key) ∧ Ex w.heap.size none w w2) := Lib.hid ⟨by rw [HU2.out]; exact hown2, ((HEX.out.trans HE3.out hsz (by simp)).trans ((Ex.new w3 _).mono (show w.heap.size ≤ w3.heap.size by omega)) (Nat.le_refl _) (by simp)).trans hex2 (Nat.le_refl _) (by simp)⟩; clear hown2 hex2)
        go_roundw
        case rel => exact ⟨k + 1, n + 1, ro2, rc2, by go_num, by omega, by omega, rfl, Lib.hid (by rw [HU2.out, List.length_append, HL.out]; rfl), Lib.hid H2.out.1, H2.out.2⟩
        case measure => simp [intOf] <;> omega
      · have hed : (e.2.1 == key) = false := by simp [he]
        have HU2 : Hid (insG (es.take (k + 1)) key = insG (es.take k) key) := Lib.hid (by rw [HUP.out, if_neg he, List.append_nil])
        clear he HUP
        go_wp2_with (fail)
        go_roundw
        case rel => exact ⟨k + 1, n, ro, rc, by go_num, by omega, by omega, rfl, Lib.hid (by rw [HU2.out]; exact HL.out), Lib.hid (by rw [HU2.out]; exact HO.out.keep (Ex.new wr _) (Nat.le_refl _) (by simp)), HEX.out.trans (Ex.new wr _) hsz (by simp)⟩
        case measure => simp [intOf] <;> omega
    · have hltI : ¬ (k : Int) < (en : Int) := by omega
      have hke : k = en := by omega
      have HF : Hid (insG (es.take k) key = insG es key) := Lib.hid (by rw [hke, ← HN.out, List.take_length])
      clear hex
      go_wp2_with (go_at_call 62; refine (sortInts_any ro rc n w.heap.size (insG es key) wr (by rw [← HF.out]; exact HO.out.i) (by rw [← HF.out]; exact HL.out) (by rw [← HF.out, HL.out]; omega)).mono ?_; rintro e w2 ⟨rfl, hex2, hs2⟩)
      go_ret
      refine ⟨ro, rc, n, rfl, ⟨⟨by rw [← HF.out]; exact HL.out, by omega⟩, ?_⟩, HEX.out.trans hex2 (Nat.le_refl _) (by simp)⟩
      rcases hs2 with h0 | ⟨g, rfl, _, _, _, hh⟩
      · rw [h0, List.mergeSort_nil]; exact IntsAt.nil _ _
      · exact holds_ints hh
end Go.Proofs.YtfllcohnfboccaaGreat
