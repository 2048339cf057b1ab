/- routes.Neighbours. No statement of the seat. | wire.put, Int, Text, Ints; slices.Clone at bytes: contracts, no statement of the seat. | bits.RotateLeft32 as digest.block calls it. No statement of the seat. | Small functions of the epochs: contracts, no statement of the seat. | append to an owned row leaves what the old row held, be it in its place or moved. For whatever program; no statement of the seat. -/
import Derived.Test.YtfllcohnfboccaaGreatMg03
import Derived.Test.YtfllcohnfboccaaGreatMg06
import Derived.Deep.RegionHeld3
import Derived.Outline
import Derived.IntWalk
import Derived.Test.YtfllcohnfboccaaGreatSameListG
import Derived.Test.YtfllcohnfboccaaGreatMg00
import Derived.Sort.Grow
import Derived.Test.YtfllcohnfboccaaGreatMg05
namespace Go.Proofs.YtfllcohnfboccaaGreat
open Go.RowKit Go.Sort

theorem uniq_of_mem {a b : List Int} (h : ∀ x, x ∈ a ↔ x ∈ b) : uniq a = uniq b :=
  strict_ext _ _ (uniq_spec a).1 (uniq_spec b).1 fun x => by rw [(uniq_spec a).2, (uniq_spec b).2, h]
/-- The neighbours of a key. -/
def nbI (es : List EdD) (key : Int) : List Int := uniq (outsG es key ++ insG es key)
theorem nbI_sorted (es : List EdD) (key : Int) : uniq ((outsG es key).mergeSort (fun x y => decide (x ≤ y)) ++ (insG es key).mergeSort fun x y => decide (x ≤ y)) = nbI es key :=
  uniq_of_mem fun x => by simp [List.mem_mergeSort]
theorem nbI_strict (es : List EdD) (key : Int) : (nbI es key).Pairwise (· < ·) := (uniq_spec _).1
theorem mem_nbI {es : List EdD} {key x : Int} : x ∈ nbI es key ↔ ∃ e ∈ es, (e.1 = key ∧ e.2.1 = x) ∨ (e.2.1 = key ∧ e.1 = x) := by
  unfold nbI outsG insG
  rw [(uniq_spec _).2, List.mem_append, List.mem_map, List.mem_map]
  constructor
  · rintro (⟨e, he, rfl⟩ | ⟨e, he, rfl⟩) <;> rw [List.mem_filter] at he
    · exact ⟨e, he.1, .inl ⟨by simpa using he.2, rfl⟩⟩
    · exact ⟨e, he.1, .inr ⟨by simpa using he.2, rfl⟩⟩
  · rintro ⟨e, he, ⟨h1, h2⟩ | ⟨h1, h2⟩⟩
    · exact .inl ⟨e, List.mem_filter.2 ⟨he, by simpa using h1⟩, h2⟩
    · exact .inr ⟨e, List.mem_filter.2 ⟨he, by simpa using h1⟩, h2⟩
theorem uniq_len (l : List Int) : (uniq l).length ≤ l.length := by
  have h := (uniq_spec l).1
  have hn : (uniq l).Nodup := h.imp fun hab e => by omega
  have hsub : ∀ x ∈ uniq l, x ∈ l := fun x hx => ((uniq_spec l).2 x).1 hx
  clear h
  revert hn hsub
  generalize uniq l = u
  intro hn hsub
  induction u generalizing l with
  | nil => simp
  | cons x u ih =>
    rw [List.nodup_cons] at hn
    have hx := hsub x (by simp)
    have h1 := ih (l.erase x) hn.2 fun y hy => by
      have : y ≠ x := fun e => hn.1 (e ▸ hy)
      exact (List.mem_erase_of_ne this).2 (hsub y (by simp [hy]))
    rw [List.length_erase_of_mem hx] at h1
    have := List.length_pos_of_mem hx
    simp only [List.length_cons]
    omega
theorem nbI_len (es : List EdD) (key : Int) : (nbI es key).length ≤ 2 * es.length := by
  have h := uniq_len (outsG es key ++ insG es key)
  have h1 : (outsG es key).length ≤ es.length := by unfold outsG; rw [List.length_map]; exact List.length_filter_le _ _
  have h2 : (insG es key).length ≤ es.length := by unfold insG; rw [List.length_map]; exact List.length_filter_le _ _
  rw [List.length_append] at h
  unfold nbI
  omega
set_option maxRecDepth 100000 in
set_option maxHeartbeats 8000000 in
theorem neigh_any2 {P : Nat → Prop} (sz : Int) (eo : Option Addr) (en ec : Nat) (go : Option Addr) (gn gc : Nat) (es : List EdD) (key : Int) (w : World) (h : SlAt edRep P w eo es) (hn : es.length = en) (hm : en ≤ 1000) :
    Calls Tryz.prog 37 #[.agg #[.int .i64 sz, .slice eo en ec, .slice go gn gc], .int .i64 key] w fun e w' => ∃ (ro : Option Addr) (rc n : Nat), e = .returned (.slice ro n rc) ∧ (nbI es key).length = n ∧ IntsAt w' ro (nbI es key) ∧ (nbI es key = [] ∨ ∃ g, ro = some ⟨g, 0, none⟩ ∧ w.heap.size ≤ g) ∧ Ex w.heap.size none w w' := by
  have HX := Lib.hid h
  have HN := Lib.hid hn
  clear h hn
  go_enter Tryz.func37, Tryz.ntmps37
  go_upto_region 1 with (fail)
  obtain ⟨w1, hw1⟩ : ∃ w1 : World, w1 = w.alloc (.cells #[.int .i64 sz, .slice eo en ec, .slice go gn gc] 64) := ⟨_, rfl⟩
  have HE1 : Hid (Ex w.heap.size none w w1) := Lib.hid (by rw [hw1]; exact Ex.new _ _)
  have hz1 : w1.heap.size = w.heap.size + 1 := by rw [hw1]; simp
  have HC : Hid (∀ w', Ex w1.heap.size none w1 w' → w'.cell? ⟨w.heap.size, 0, none⟩ = some (.int .i64 sz) ∧ w'.cell? ⟨w.heap.size, 1, none⟩ = some (.slice eo en ec) ∧ w'.cell? ⟨w.heap.size, 2, none⟩ = some (.slice go gn gc)) := Lib.hid (fun w' h => by
    have k : w'.heap[w.heap.size]? = some (.cells #[.int .i64 sz, .slice eo en ec, .slice go gn gc] 64 (0, 0)) := (h.block w.heap.size (by omega) (by simp)).trans (by rw [hw1]; exact heap_alloc_new _ _)
    refine ⟨?_, ?_, ?_⟩ <;> (rw [cell_of_row _ _ _ _ _ _ k]; rfl))
  have HXW : Hid (∀ w', Ex w1.heap.size none w1 w' → SlAt edRep P w' eo es) := Lib.hid (fun w' h => HX.out.keep (by decide) fun b _ hb => (h.block b (by omega) (by simp)).trans (HE1.out.block b hb (by simp)))
  rw [← hw1]
  clear hw1
  have hm2 : en ≤ 100000 := by omega
  go_region_held3 (fun w' => w'.cell? ⟨w.heap.size, 0, none⟩ = some (.int .i64 sz) ∧ w'.cell? ⟨w.heap.size, 1, none⟩ = some (.slice eo en ec) ∧ w'.cell? ⟨w.heap.size, 2, none⟩ = some (.slice go gn gc))
    (first | exact HC.out _ HE6.out | exact HC.out _ HE5.out | exact HC.out _ HE4.out | exact HC.out _ (HE3.out.trans (Ex.new w3 _) hz3 (by simp)) | exact HC.out _ HE3.out | exact HC.out _ HE2.out | exact HC.out _ (Ex.refl _ _ w1).drew | exact HC.out _ (Ex.refl _ _ w1) | fail)
    (first
      | (go_at_call 78
         refine (outsG_any sz eo en ec go gn gc es key _ (HXW.out _ (Ex.refl _ _ w1).drew) HN.out hm2).mono ?_
         rintro e w2 ⟨o1, c1, n1, rfl, ⟨⟨hl1, hle1⟩, hi1⟩, hex⟩
         have HE2 : Hid (Ex w1.heap.size none w1 w2) := Lib.hid ((Ex.refl _ _ w1).drew.trans hex (Nat.le_refl _) (by simp))
         have HI1 := Lib.hid hi1
         have HL1 := Lib.hid hl1
         have hz2 : w1.heap.size ≤ w2.heap.size := HE2.out.size
         clear hi1 hl1 hex)
      | (go_at_call 79
         refine (insG_any sz eo en ec go gn gc es key _ (HXW.out _ HE2.out) HN.out hm2).mono ?_
         rintro e w3 ⟨o2, c2, n2, rfl, ⟨⟨hl2, hle2⟩, hi2⟩, hex⟩
         have HE3 : Hid (Ex w1.heap.size none w1 w3) := Lib.hid (HE2.out.trans hex hz2 (by simp))
         have HI2 := Lib.hid hi2
         have HL2 := Lib.hid hl2
         have HI1' : Hid (IntsAt w3 o1 ((outsG es key).mergeSort fun x y => decide (x ≤ y))) := Lib.hid (HI1.out.keep hex (Nat.le_refl _) (by simp))
         have hz3 : w1.heap.size ≤ w3.heap.size := HE3.out.size
         clear hi2 hl2 hex)
      | (go_at_call 77
         refine (concat2_any w3.heap.size o1 o2 n1 c1 n2 c2 ((outsG es key).mergeSort fun x y => decide (x ≤ y)) ((insG es key).mergeSort fun x y => decide (x ≤ y)) _ (by rw [List.length_mergeSort]; exact HL1.out) (by rw [List.length_mergeSort]; exact HL2.out) (by omega) (by omega) (heap_alloc_new _ _) (HI1'.out.keep (Ex.new w3 _) (Nat.le_refl _) (by simp)) (HI2.out.keep (Ex.new w3 _) (Nat.le_refl _) (by simp))).mono ?_
         rintro e w4 ⟨o4, c4, n4, rfl, hl4, hi4, hex⟩
         have HE4 : Hid (Ex w1.heap.size none w1 w4) := Lib.hid ((HE3.out.trans (Ex.new w3 _) hz3 (by simp)).trans hex (by simp; omega) (by simp))
         have HI4 := Lib.hid hi4
         have HL4 := Lib.hid hl4
         have hn4 : n4 ≤ 1000000 := (by rw [← hl4, List.length_append, List.length_mergeSort, List.length_mergeSort, HL1.out, HL2.out]; omega)
         have hz4 : w1.heap.size ≤ w4.heap.size := HE4.out.size
         clear hi4 hl4 hex)
      | (go_at_call 76
         refine (listsSorted_any o4 n4 c4 _ HL4.out hn4 _ HI4.out).mono ?_
         rintro e w5 ⟨o5, c5, rfl, hex, hs⟩
         have HE5 : Hid (Ex w1.heap.size none w1 w5) := Lib.hid (HE4.out.trans hex hz4 (by simp))
         have HEX5 := Lib.hid hex
         have HS5 := Lib.hid hs
         have hz5 : w4.heap.size ≤ w5.heap.size := hex.size
         clear hs hex)
      | (go_at_call 63
         refine (compactInts_any o5 c5 n4 w4.heap.size _ _ HL4.out (by rw [HL4.out]; omega) HS5.out hz5).mono ?_
         rw [nbI_sorted]
         rintro e w6 ⟨rfl, hex, hi6⟩
         have HE6 : Hid (Ex w1.heap.size none w1 w6) := Lib.hid (HE5.out.trans hex (by omega) (by simp))
         have HI6 := Lib.hid hi6
         obtain ⟨n6, hn6⟩ : ∃ n6, n6 = (nbI es key).length := ⟨_, rfl⟩
         have HN6 : Hid ((nbI es key).length = n6) := Lib.hid hn6.symm
         rw [← hn6]
         clear hex hi6 hn6)
      | fail)
  go_wp2
  go_ret
  refine ⟨o5, c5, n6, rfl, HN6.out, HI6.out, ?_, HE1.out.trans HE6.out (by omega) (by simp)⟩
  rcases HS5.out with h | ⟨g, h1, h2, _⟩
  · exact .inl (by rw [← nbI_sorted, h]; exact List.eq_nil_of_length_eq_zero (Nat.le_zero.1 (uniq_len [])))
  · exact .inr ⟨g, h1, by have := HE4.out.size; omega⟩
theorem neigh_any {P : Nat → Prop} (sz : Int) (eo : Option Addr) (en ec : Nat) (go : Option Addr) (gn gc : Nat) (es : List EdD) (key : Int) (w : World) (h : SlAt edRep P w eo es) (hn : es.length = en) (hm : en ≤ 1000) :
    Calls Tryz.prog 37 #[.agg #[.int .i64 sz, .slice eo en ec, .slice go gn gc], .int .i64 key] w fun e w' => ∃ (ro : Option Addr) (rc n : Nat), e = .returned (.slice ro n rc) ∧ (nbI es key).length = n ∧ IntsAt w' ro (nbI es key) ∧ Ex w.heap.size none w w' :=
  (neigh_any2 sz eo en ec go gn gc es key w h hn hm).mono fun _ _ ⟨ro, rc, n, h1, h2, h3, _, h4⟩ => ⟨ro, rc, n, h1, h2, h3, h4⟩
end Go.Proofs.YtfllcohnfboccaaGreat

namespace Go.Proofs.YtfllcohnfboccaaGreat
open Go.RowKit Go.Sort

set_option maxHeartbeats 1000000 in
theorem cloneBytes_any {P : Nat → Prop} (v : Value) (xs : List UInt8) (w : World) (hv : Sl byRep P w v xs) (hm : xs.length ≤ 5000000) :
    Calls Tryz.prog 126 #[v] w fun e w' => ∃ ro rc, e = .returned (.slice ro xs.length rc) ∧ OwnB w' w.heap.size ro rc xs ∧ Ex w.heap.size none w w' := by
  have q : ∀ (w : World) (a : Option Addr) (n c n' c' : Nat), (binOp .eql 95 (.slice a n c) (.slice none n' c')).run Tryz.prog w = .ok (.bool a.isNone) w := fun w a n c n' c' => Lib.run_eql_slice_nil w _ _ a n c n' c' Tryz.underlying95
  obtain ⟨ao, cap, rfl, hx⟩ := hv
  cases ao with
  | none =>
    obtain rfl := sl_none hx
    go_enter Tryz.func126, Tryz.ntmps126
    go_wp2
    go_ret
    exact ⟨none, 0, rfl, OwnE.nil _ _ _ _ _, Ex.refl _ _ _⟩
  | some ad =>
    have HX := Lib.hid (val_cells (by decide) (hx.keep (w' := w.alloc (.cells #[] 5)) (by decide) (fun q _ hq => (Ex.new w _).block q hq (by simp))))
    have HN : Hid (OwnB (w.alloc (.cells #[] 5)) w.heap.size (some ⟨w.heap.size, 0, none⟩) 0 []) := World.ownsRow_lit w #[] 0 (Nat.le_refl _) (by decide) rfl
    clear hx
    go_enter Tryz.func126, Tryz.ntmps126
    go_wp2_with (at_builtin; refine wpList_appE2 rfl (.tmp 5) (.tmp 6) _ 5 (by rfl) Tryz.underlying95 _ 1 1 Tryz.infoB rfl (by decide) (by decide) byE byE_len one_byE w.heap.size (some ⟨w.heap.size, 0, none⟩) 0 0 [] rfl (by rfl) (some ad) xs.length cap (by rfl) xs rfl HN.out HX.out (by omega) (by simp) xs.length (by omega) ?_; intro ro rc w1 hown hex _ _)
    go_ret
    exact ⟨ro, rc, rfl, hown, (Ex.new w (.cells #[] 5)).trans hex (Nat.le_refl _) (by simp)⟩

set_option maxHeartbeats 4000000 in
theorem put_any (base : Nat) (ao : Option Addr) (cap : Nat) (xs : List UInt8) (n : Int) (w : World) (hown : OwnB w base ao cap xs) (hbase : base ≤ w.heap.size) (hm : xs.length ≤ 5000000) :
    Calls Tryz.prog 125 #[.slice ao xs.length cap, .int .i64 n] w fun e w' => ∃ ro rc, e = .returned (.slice ro (xs.length + 8) rc) ∧ OwnB w' base ro rc (xs ++ int8 n) ∧ Ex base none w w' := by
  have HO0 := Lib.hid hown
  clear hown
  obtain ⟨m, hml⟩ : ∃ m, m = xs.length := ⟨_, rfl⟩
  have HML := Lib.hid hml
  rw [← hml] at hm ⊢
  clear hml
  go_enter Tryz.func125, Tryz.ntmps125
  go_wp2_with fail
  go_loopw [0, 5] (fun v i wr => ∃ (k : Nat) (ro : Option Addr) (rc : Nat), k ≤ 8 ∧ i = .int .i64 (56 - 8 * (k : Int)) ∧ v = .slice ro (m + k) rc ∧ base ≤ wr.heap.size ∧ OwnB wr base ro rc (xs ++ (int8 n).take k) ∧ Ex base none w wr) (fun _ i _ => (intOf i + 8).toNat)
  case atStart => exact ⟨0, ao, cap, by omega, rfl, rfl, hbase, by simpa using HO0.out, Ex.refl _ _ _⟩
  case round =>
    obtain ⟨k, ro, rc, hk, rfl, rfl, hsz, hown, hex⟩ := hrel
    have HO := Lib.hid hown
    have HE := Lib.hid hex
    clear hown hex
    rcases (by omega : k = 0 ∨ k = 1 ∨ k = 2 ∨ k = 3 ∨ k = 4 ∨ k = 5 ∨ k = 6 ∨ k = 7 ∨ k = 8) with rfl | rfl | rfl | rfl | rfl | rfl | rfl | rfl | rfl
    · go_wp2_with (at_builtin; refine wpList_appE2 rfl (.tmp 10) (.tmp 17) _ 5 (by rfl) Tryz.underlying95 _ 1 1 Tryz.infoB rfl (by decide) (by decide) byE byE_len one_byE base ro rc m (xs ++ (int8 n).take 0) (by rw [List.length_append, ← HML.out]; rfl) (by rfl) (some ⟨wr.heap.size, 0, none⟩) 1 1 (by rfl) [by8 (n / 72057594037927936)] rfl (HO.out.keep (Ex.new wr _) (Nat.le_refl _) (by simp)) (lit_cells (by simp [byE, by8_toNat, IntKind.wrap_u64] <;> omega)) (by omega) (by simp; omega) (m + 1) (by omega) ?_; intro ro2 rc2 w1 hown hex _ _)
      have HO2 : Hid (OwnB w1 base ro2 rc2 (xs ++ (int8 n).take 1)) := by
        have h : OwnB w1 base ro2 rc2 (xs ++ (int8 n).take 0 ++ [by8 (n / 72057594037927936)]) := hown
        rw [List.append_assoc] at h; exact h
      have HE2 : Hid (Ex base none w w1) := (HE.out.trans (Ex.new wr _) (by omega) (by simp)).trans hex (Nat.le_refl _) (by simp)
      have hz2 : base ≤ w1.heap.size := by have := HE2.out.size; omega
      clear hown hex
      go_roundw
      case rel => exact ⟨1, ro2, rc2, by omega, by first | rfl | go_num, rfl, hz2, HO2.out, HE2.out⟩
      case measure => simp [intOf]
    · go_wp2_with (at_builtin; refine wpList_appE2 rfl (.tmp 10) (.tmp 17) _ 5 (by rfl) Tryz.underlying95 _ 1 1 Tryz.infoB rfl (by decide) (by decide) byE byE_len one_byE base ro rc (m + 1) (xs ++ (int8 n).take 1) (by rw [List.length_append, ← HML.out]; rfl) (by rfl) (some ⟨wr.heap.size, 0, none⟩) 1 1 (by rfl) [by8 (n / 281474976710656)] rfl (HO.out.keep (Ex.new wr _) (Nat.le_refl _) (by simp)) (lit_cells (by simp [byE, by8_toNat, IntKind.wrap_u64] <;> omega)) (by omega) (by simp; omega) (m + 2) (by omega) ?_; intro ro2 rc2 w1 hown hex _ _)
      have HO2 : Hid (OwnB w1 base ro2 rc2 (xs ++ (int8 n).take 2)) := by
        have h : OwnB w1 base ro2 rc2 (xs ++ (int8 n).take 1 ++ [by8 (n / 281474976710656)]) := hown
        rw [List.append_assoc] at h; exact h
      have HE2 : Hid (Ex base none w w1) := (HE.out.trans (Ex.new wr _) (by omega) (by simp)).trans hex (Nat.le_refl _) (by simp)
      have hz2 : base ≤ w1.heap.size := by have := HE2.out.size; omega
      clear hown hex
      go_roundw
      case rel => exact ⟨2, ro2, rc2, by omega, by first | rfl | go_num, rfl, hz2, HO2.out, HE2.out⟩
      case measure => simp [intOf]
    · go_wp2_with (at_builtin; refine wpList_appE2 rfl (.tmp 10) (.tmp 17) _ 5 (by rfl) Tryz.underlying95 _ 1 1 Tryz.infoB rfl (by decide) (by decide) byE byE_len one_byE base ro rc (m + 2) (xs ++ (int8 n).take 2) (by rw [List.length_append, ← HML.out]; rfl) (by rfl) (some ⟨wr.heap.size, 0, none⟩) 1 1 (by rfl) [by8 (n / 1099511627776)] rfl (HO.out.keep (Ex.new wr _) (Nat.le_refl _) (by simp)) (lit_cells (by simp [byE, by8_toNat, IntKind.wrap_u64] <;> omega)) (by omega) (by simp; omega) (m + 3) (by omega) ?_; intro ro2 rc2 w1 hown hex _ _)
      have HO2 : Hid (OwnB w1 base ro2 rc2 (xs ++ (int8 n).take 3)) := by
        have h : OwnB w1 base ro2 rc2 (xs ++ (int8 n).take 2 ++ [by8 (n / 1099511627776)]) := hown
        rw [List.append_assoc] at h; exact h
      have HE2 : Hid (Ex base none w w1) := (HE.out.trans (Ex.new wr _) (by omega) (by simp)).trans hex (Nat.le_refl _) (by simp)
      have hz2 : base ≤ w1.heap.size := by have := HE2.out.size; omega
      clear hown hex
      go_roundw
      case rel => exact ⟨3, ro2, rc2, by omega, by first | rfl | go_num, rfl, hz2, HO2.out, HE2.out⟩
      case measure => simp [intOf]
    · go_wp2_with (at_builtin; refine wpList_appE2 rfl (.tmp 10) (.tmp 17) _ 5 (by rfl) Tryz.underlying95 _ 1 1 Tryz.infoB rfl (by decide) (by decide) byE byE_len one_byE base ro rc (m + 3) (xs ++ (int8 n).take 3) (by rw [List.length_append, ← HML.out]; rfl) (by rfl) (some ⟨wr.heap.size, 0, none⟩) 1 1 (by rfl) [by8 (n / 4294967296)] rfl (HO.out.keep (Ex.new wr _) (Nat.le_refl _) (by simp)) (lit_cells (by simp [byE, by8_toNat, IntKind.wrap_u64] <;> omega)) (by omega) (by simp; omega) (m + 4) (by omega) ?_; intro ro2 rc2 w1 hown hex _ _)
      have HO2 : Hid (OwnB w1 base ro2 rc2 (xs ++ (int8 n).take 4)) := by
        have h : OwnB w1 base ro2 rc2 (xs ++ (int8 n).take 3 ++ [by8 (n / 4294967296)]) := hown
        rw [List.append_assoc] at h; exact h
      have HE2 : Hid (Ex base none w w1) := (HE.out.trans (Ex.new wr _) (by omega) (by simp)).trans hex (Nat.le_refl _) (by simp)
      have hz2 : base ≤ w1.heap.size := by have := HE2.out.size; omega
      clear hown hex
      go_roundw
      case rel => exact ⟨4, ro2, rc2, by omega, by first | rfl | go_num, rfl, hz2, HO2.out, HE2.out⟩
      case measure => simp [intOf]
    · go_wp2_with (at_builtin; refine wpList_appE2 rfl (.tmp 10) (.tmp 17) _ 5 (by rfl) Tryz.underlying95 _ 1 1 Tryz.infoB rfl (by decide) (by decide) byE byE_len one_byE base ro rc (m + 4) (xs ++ (int8 n).take 4) (by rw [List.length_append, ← HML.out]; rfl) (by rfl) (some ⟨wr.heap.size, 0, none⟩) 1 1 (by rfl) [by8 (n / 16777216)] rfl (HO.out.keep (Ex.new wr _) (Nat.le_refl _) (by simp)) (lit_cells (by simp [byE, by8_toNat, IntKind.wrap_u64] <;> omega)) (by omega) (by simp; omega) (m + 5) (by omega) ?_; intro ro2 rc2 w1 hown hex _ _)
      have HO2 : Hid (OwnB w1 base ro2 rc2 (xs ++ (int8 n).take 5)) := by
        have h : OwnB w1 base ro2 rc2 (xs ++ (int8 n).take 4 ++ [by8 (n / 16777216)]) := hown
        rw [List.append_assoc] at h; exact h
      have HE2 : Hid (Ex base none w w1) := (HE.out.trans (Ex.new wr _) (by omega) (by simp)).trans hex (Nat.le_refl _) (by simp)
      have hz2 : base ≤ w1.heap.size := by have := HE2.out.size; omega
      clear hown hex
      go_roundw
      case rel => exact ⟨5, ro2, rc2, by omega, by first | rfl | go_num, rfl, hz2, HO2.out, HE2.out⟩
      case measure => simp [intOf]
    · go_wp2_with (at_builtin; refine wpList_appE2 rfl (.tmp 10) (.tmp 17) _ 5 (by rfl) Tryz.underlying95 _ 1 1 Tryz.infoB rfl (by decide) (by decide) byE byE_len one_byE base ro rc (m + 5) (xs ++ (int8 n).take 5) (by rw [List.length_append, ← HML.out]; rfl) (by rfl) (some ⟨wr.heap.size, 0, none⟩) 1 1 (by rfl) [by8 (n / 65536)] rfl (HO.out.keep (Ex.new wr _) (Nat.le_refl _) (by simp)) (lit_cells (by simp [byE, by8_toNat, IntKind.wrap_u64] <;> omega)) (by omega) (by simp; omega) (m + 6) (by omega) ?_; intro ro2 rc2 w1 hown hex _ _)
      have HO2 : Hid (OwnB w1 base ro2 rc2 (xs ++ (int8 n).take 6)) := by
        have h : OwnB w1 base ro2 rc2 (xs ++ (int8 n).take 5 ++ [by8 (n / 65536)]) := hown
        rw [List.append_assoc] at h; exact h
      have HE2 : Hid (Ex base none w w1) := (HE.out.trans (Ex.new wr _) (by omega) (by simp)).trans hex (Nat.le_refl _) (by simp)
      have hz2 : base ≤ w1.heap.size := by have := HE2.out.size; omega
      clear hown hex
      go_roundw
      case rel => exact ⟨6, ro2, rc2, by omega, by first | rfl | go_num, rfl, hz2, HO2.out, HE2.out⟩
      case measure => simp [intOf]
    · go_wp2_with (at_builtin; refine wpList_appE2 rfl (.tmp 10) (.tmp 17) _ 5 (by rfl) Tryz.underlying95 _ 1 1 Tryz.infoB rfl (by decide) (by decide) byE byE_len one_byE base ro rc (m + 6) (xs ++ (int8 n).take 6) (by rw [List.length_append, ← HML.out]; rfl) (by rfl) (some ⟨wr.heap.size, 0, none⟩) 1 1 (by rfl) [by8 (n / 256)] rfl (HO.out.keep (Ex.new wr _) (Nat.le_refl _) (by simp)) (lit_cells (by simp [byE, by8_toNat, IntKind.wrap_u64] <;> omega)) (by omega) (by simp; omega) (m + 7) (by omega) ?_; intro ro2 rc2 w1 hown hex _ _)
      have HO2 : Hid (OwnB w1 base ro2 rc2 (xs ++ (int8 n).take 7)) := by
        have h : OwnB w1 base ro2 rc2 (xs ++ (int8 n).take 6 ++ [by8 (n / 256)]) := hown
        rw [List.append_assoc] at h; exact h
      have HE2 : Hid (Ex base none w w1) := (HE.out.trans (Ex.new wr _) (by omega) (by simp)).trans hex (Nat.le_refl _) (by simp)
      have hz2 : base ≤ w1.heap.size := by have := HE2.out.size; omega
      clear hown hex
      go_roundw
      case rel => exact ⟨7, ro2, rc2, by omega, by first | rfl | go_num, rfl, hz2, HO2.out, HE2.out⟩
      case measure => simp [intOf]
    · go_wp2_with (at_builtin; refine wpList_appE2 rfl (.tmp 10) (.tmp 17) _ 5 (by rfl) Tryz.underlying95 _ 1 1 Tryz.infoB rfl (by decide) (by decide) byE byE_len one_byE base ro rc (m + 7) (xs ++ (int8 n).take 7) (by rw [List.length_append, ← HML.out]; rfl) (by rfl) (some ⟨wr.heap.size, 0, none⟩) 1 1 (by rfl) [by8 (n)] rfl (HO.out.keep (Ex.new wr _) (Nat.le_refl _) (by simp)) (lit_cells (by simp [byE, by8_toNat, IntKind.wrap_u64] <;> omega)) (by omega) (by simp; omega) (m + 8) (by omega) ?_; intro ro2 rc2 w1 hown hex _ _)
      have HO2 : Hid (OwnB w1 base ro2 rc2 (xs ++ (int8 n).take 8)) := by
        have h : OwnB w1 base ro2 rc2 (xs ++ (int8 n).take 7 ++ [by8 (n)]) := hown
        rw [List.append_assoc] at h; exact h
      have HE2 : Hid (Ex base none w w1) := (HE.out.trans (Ex.new wr _) (by omega) (by simp)).trans hex (Nat.le_refl _) (by simp)
      have hz2 : base ≤ w1.heap.size := by have := HE2.out.size; omega
      clear hown hex
      go_roundw
      case rel => exact ⟨8, ro2, rc2, by omega, by first | rfl | go_num, rfl, hz2, HO2.out, HE2.out⟩
      case measure => simp [intOf]
    · go_wp2
      go_ret
      exact ⟨ro, rc, rfl, HO.out, HE.out⟩

set_option maxHeartbeats 1000000 in
theorem int_any {P : Nat → Prop} (v : Value) (xs : List UInt8) (n : Int) (w : World) (hv : Sl byRep P w v xs) (hm : xs.length ≤ 5000000) :
    Calls Tryz.prog 82 #[v, .int .i64 n] w fun e w' => ∃ ro rc, e = .returned (.slice ro (xs.length + 8) rc) ∧ OwnB w' w.heap.size ro rc (xs ++ int8 n) ∧ Ex w.heap.size none w w' := by
  have HV := Lib.hid hv
  clear hv
  go_enter Tryz.func82, Tryz.ntmps82
  go_wp2_with (first
    | (go_at_call 126
       refine (cloneBytes_any v xs w HV.out hm).mono ?_
       rintro e w1 ⟨r1, c1, rfl, hown, hex⟩
       have H1 : Hid (OwnB w1 w.heap.size r1 c1 xs ∧ Ex w.heap.size none w w1) := Lib.hid ⟨hown, hex⟩
       have hz1 : w.heap.size ≤ w1.heap.size := hex.size
       clear hown hex)
    | (go_at_call 125
       refine (put_any w.heap.size r1 c1 xs n w1 H1.out.1 hz1 hm).mono ?_
       rintro e w2 ⟨r2, c2, rfl, hown, hex⟩
       have H2 : Hid (OwnB w2 w.heap.size r2 c2 (xs ++ int8 n) ∧ Ex w.heap.size none w w2) := Lib.hid ⟨hown, H1.out.2.trans hex (Nat.le_refl _) (by simp)⟩
       clear hown hex)
    | fail)
  go_ret
  exact ⟨r2, c2, rfl, H2.out.1, H2.out.2⟩

set_option maxHeartbeats 1000000 in
theorem text_any {P : Nat → Prop} (v : Value) (xs : List UInt8) (s : ByteArray) (w : World) (hv : Sl byRep P w v xs) (hm : xs.length ≤ 4000000) (hs : s.size ≤ 1000000) :
    Calls Tryz.prog 83 #[v, .string s] w fun e w' => ∃ ro rc, e = .returned (.slice ro (xs.length + 8 + s.size) rc) ∧ OwnB w' w.heap.size ro rc (xs ++ int8 s.size ++ strL s) ∧ Ex w.heap.size none w w' := by
  have HV := Lib.hid hv
  clear hv
  go_enter Tryz.func83, Tryz.ntmps83
  go_wp2_with fail
  refine (int_any v xs s.size w HV.out (by omega)).mono ?_
  rintro e w1 ⟨ro, rc, rfl, hown, hex⟩
  have HO := Lib.hid hown
  have HE := Lib.hid hex
  have hz := hex.size
  clear hown hex
  go_wp2_with (at_builtin; refine wpList_appB_str rfl (.tmp 8) (.tmp 9) _ _ (by rfl) Tryz.underlying95 Tryz.underlying9 Tryz.infoB w.heap.size ro rc (xs.length + 8) (xs ++ int8 s.size) (by rw [List.length_append]; rfl) (by rfl) s (by rfl) HO.out (by omega) hz ?_; intro ro2 rc2 w2 hown2 hex2)
  go_ret
  exact ⟨ro2, rc2, rfl, hown2, HE.out.trans hex2 (Nat.le_refl _) (by simp)⟩

set_option maxHeartbeats 1000000 in
theorem ints_any {P : Nat → Prop} (v u : Value) (xs : List UInt8) (l : List Int) (w : World) (hv : Sl byRep P w v xs) (hu : Ints w u l) (hm : xs.length ≤ 3000000) (hl : l.length ≤ 100000) :
    Calls Tryz.prog 188 #[v, u] w fun e w' => ∃ ro rc, e = .returned (.slice ro (xs.length + 8 + l.length * 8) rc) ∧ OwnB w' w.heap.size ro rc (xs ++ int8 l.length ++ intsB l) ∧ Ex w.heap.size none w w' := by
  obtain ⟨ao, cap, rfl, hx⟩ := hu
  have HV := Lib.hid hv
  have HX := Lib.hid hx
  clear hv hx
  go_enter Tryz.func188, Tryz.ntmps188
  go_wp2_with fail
  refine (int_any v xs l.length w HV.out (by omega)).mono ?_
  rintro e w1 ⟨ro, rc, rfl, hown, hex⟩
  have HO := Lib.hid hown
  have HE := Lib.hid hex
  clear hown hex
  go_wp2_with fail
  go_loopw [5, 7, 14] (fun v u i wr => ∃ (k : Nat) (ro : Option Addr) (rc : Nat), k ≤ l.length ∧ i = .int .i64 k ∧ v = .slice ro (xs.length + 8 + k * 8) rc ∧ OwnB wr w.heap.size ro rc (xs ++ int8 l.length ++ intsB (l.take k)) ∧ Ex w.heap.size none w wr) (fun _ _ i _ => l.length - (intOf i).toNat)
  case atStart => exact ⟨0, ro, rc, by omega, rfl, by rw [Nat.zero_mul, Nat.add_zero], by simpa [intsB] using HO.out, HE.out⟩
  case round =>
    obtain ⟨k, ro, rc, hk, rfl, rfl, hown, hex⟩ := hrel
    have hsz := hex.size
    by_cases hlt : k < l.length
    · obtain ⟨b, off, y, rfl, hc, HY⟩ := (HX.out.keep hex (Nat.le_refl _) (by simp)).get k hlt
      have HK : Hid (intsB (l.take (k + 1)) = intsB (l.take k) ++ int8 y) := (show _ = _ by
        have h := HY.out
        rw [List.getD_eq_getElem?_getD, List.getElem?_eq_getElem hlt] at h
        simp only [Option.getD_some] at h
        rw [List.take_add_one, List.getElem?_eq_getElem hlt, h]
        simp [intsB])
      have HTL : Hid ((intsB (l.take k)).length = k * 8) := (show _ = _ by rw [intsB_len]; simp; omega)
      obtain ⟨ys, hys⟩ : ∃ ys, ys = xs ++ int8 l.length ++ intsB (l.take k) := ⟨_, rfl⟩
      have HL : Hid (ys.length = xs.length + 8 + k * 8) := (show _ = _ by rw [hys, List.length_append, List.length_append, HTL.out, int8_len])
      have HYS := Lib.hid hys
      rw [← hys] at hown
      have HO := Lib.hid hown
      have HE := Lib.hid hex
      clear hown hex hys
      have HPC : Hid (Calls Tryz.prog 125 #[.slice ro (xs.length + 8 + k * 8) rc, .int .i64 y] wr fun e w' => ∃ r2 c2, e = .returned (.slice r2 (xs.length + 8 + k * 8 + 8) c2) ∧ OwnB w' w.heap.size r2 c2 (ys ++ int8 y) ∧ Ex w.heap.size none wr w') := Lib.hid (by
        have h := put_any w.heap.size ro rc ys y wr HO.out hsz (by rw [HL.out]; omega)
        rw [HL.out] at h
        exact h)
      go_wp2_with (go_at_call 125
                   refine HPC.out.mono ?_
                   rintro e w2 ⟨ro2, rc2, rfl, hown2, hex2⟩
                   have HO2 : Hid (OwnB w2 w.heap.size ro2 rc2 (ys ++ int8 y)) := hown2
                   have HE2 := Lib.hid hex2
                   clear hown2 hex2)
      go_roundw
      case rel => exact ⟨k + 1, ro2, rc2, by omega, by go_num, by rw [Nat.add_mul]; rfl, by rw [HK.out, ← List.append_assoc, ← HYS.out]; exact HO2.out, HE.out.trans HE2.out (Nat.le_refl _) (by simp)⟩
      case measure => simp [intOf] <;> omega
    · obtain rfl : k = l.length := by omega
      rw [List.take_length] at hown
      go_wp2
      go_ret
      exact ⟨ro, rc, rfl, hown, hex⟩
end Go.Proofs.YtfllcohnfboccaaGreat

namespace Go.Proofs.YtfllcohnfboccaaGreat
open Go.RowKit Go.Sort

theorem u_turnL (x : UInt32) (m : Nat) (h1 : 1 ≤ m) (h2 : m ≤ 31) : bits .or .u32 ((x.toNat : Int) * 2 ^ m % 4294967296) ((x.toNat : Int) / 2 ^ (32 - m)) = ((turnU x (32 - m)).toNat : Int) := by
  rw [u_shl x m (by omega), u_shr x (32 - m) (by omega), u_or, UInt32.or_comm]
  unfold turnU
  rw [show 32 - (32 - m) = m by omega]
set_option maxHeartbeats 1000000 in
theorem rot_any (x : UInt32) (z : Int) (m : Nat) (hz : bits .and .u64 (IntKind.u64.wrap z) 31 = (m : Int)) (h1 : 1 ≤ m) (h2 : m ≤ 31) (w : World) : Calls Tryz.prog 163 #[.int .u32 x.toNat, .int .i64 z] w fun e w' => e = .returned (.int .u32 (turnU x (32 - m)).toNat) ∧ w = w' := by
  go_enter Tryz.func163, Tryz.ntmps163
  go_wp2
  go_ret
  exact ⟨by rw [u_turnL x m h1 h2]; rfl, rfl⟩
set_option maxHeartbeats 1000000 in
theorem turnP_any (x : UInt32) (z : Int) (hb : z ∈ [2, 6, 7, 11, 13, 17, 18, 19, 22, 25]) (w : World) : Calls Tryz.prog 162 #[.int .u32 x.toNat, .int .i64 z] w fun e w' => e = .returned (.int .u32 (turnU x z.toNat).toNat) ∧ w = w' := by
  obtain ⟨m, hm, h1, h2, h3, hzb⟩ : ∃ m : Nat, bits .and .u64 (IntKind.u64.wrap (-z)) 31 = (m : Int) ∧ 1 ≤ m ∧ m ≤ 31 ∧ 32 - m = z.toNat ∧ (0 ≤ z ∧ z ≤ 31) := by
    simp only [List.mem_cons, List.not_mem_nil, or_false] at hb
    rcases hb with rfl | rfl | rfl | rfl | rfl | rfl | rfl | rfl | rfl | rfl
    · exact ⟨30, by decide, by omega, by omega, rfl, by omega⟩
    · exact ⟨26, by decide, by omega, by omega, rfl, by omega⟩
    · exact ⟨25, by decide, by omega, by omega, rfl, by omega⟩
    · exact ⟨21, by decide, by omega, by omega, rfl, by omega⟩
    · exact ⟨19, by decide, by omega, by omega, rfl, by omega⟩
    · exact ⟨15, by decide, by omega, by omega, rfl, by omega⟩
    · exact ⟨14, by decide, by omega, by omega, rfl, by omega⟩
    · exact ⟨13, by decide, by omega, by omega, rfl, by omega⟩
    · exact ⟨10, by decide, by omega, by omega, rfl, by omega⟩
    · exact ⟨7, by decide, by omega, by omega, rfl, by omega⟩
  have hw : IntKind.i64.wrap (-z) = -z := IntWalk.i64_in _ (by omega)
  clear hb
  go_enter Tryz.func162, Tryz.ntmps162
  go_wp2_with (go_at_call 163; refine (rot_any x (-z) m hm h1 h2 _).mono ?_; rw [h3]; rintro e w' ⟨rfl, rfl⟩)
  go_ret
  exact ⟨rfl, rfl⟩
end Go.Proofs.YtfllcohnfboccaaGreat

namespace Go.Proofs.YtfllcohnfboccaaGreat
open Go.RowKit Go.Sort

def ofI (t n : Int) : Int := if t < 0 ∨ n < 1 then -1 else t / n
/-- By time, author, number. -/
def beforeB (s t : St) : Bool := decide (s.time < t.time) || (decide (s.time = t.time) && (decide (s.author < t.author) || (decide (s.author = t.author) && decide (s.number < t.number))))
/-- cmp.Or of three numbers. -/
def or3 (a b c : Int) : Int := if a = 0 then (if b = 0 then c else b) else a
end Go.Proofs.YtfllcohnfboccaaGreat

namespace Go.Proofs.YtfllcohnfboccaaGreat
open Go.RowKit Go.Sort

theorem append_old {P : Program} {w w' : World} {base g cap n : Nat} {t ty e : TypeId} {i : TypeInfo} {z : Value} {size bytes : Nat} (ht : P.underlying t = some (.slice e)) (hi : P.info? e = some i) (hz : i.zero = some z)
    (hsize : i.size = size) (hby : i.bytes = bytes) {v' : Value} {xs : List Value} (hown : w.ownsRow base e size (.slice (some ⟨g, 0, none⟩) n cap) n xs)
    (a : Addr) (m c : Nat) (news : List Value) (hl : news.length = m * size) (hnews : ∀ j u, news[j]? = some u → w.cell? (a.add j) = some u) (h1 : ∀ u ∈ news, u.oneCell' = true)
    (h63 : n + m ≤ maxLen) (hbytes : (n + m) * bytes ≤ 140737488355328)
    (hr : (Builtin.append_ #[t, t] ty #[.slice (some ⟨g, 0, none⟩) n cap, .slice (some a) m c]).run P w = .ok v' w') (ho' : w'.ownsRow base e size v' (n + m) (xs ++ news)) :
    ∀ (j : Nat) (u : Value), xs[j]? = some u → w'.cell? ⟨g, j, none⟩ = some u := by
  subst hsize
  subst hby
  have holds : ∀ j u, xs[j]? = some u → w.cell? ((⟨g, 0, none⟩ : Addr).add j) = some u := hown.cells (g := g) rfl
  have hgl : g < w.heap.size := (World.ownsRow.lt hown g rfl).2
  obtain ⟨g', cap', cur, hv, hbg, hg, hnc, hcm, hcs, htake⟩ : ∃ g' cap' cur, Value.slice (some ⟨g, 0, none⟩) n cap = .slice (some ⟨g', 0, none⟩) n cap' ∧ base ≤ g' ∧ w.heap[g']? = some (.cells cur e (0, 0)) ∧ n ≤ cap' ∧ cap' ≤ maxLen ∧ cur.size = cap' * i.size ∧ cur.toList.take (n * i.size) = xs := by
    rcases hown.2 with ⟨hv, _⟩ | ⟨g', cap', cur, hv, h⟩
    · cases hv
    · exact ⟨g', cap', cur, hv, h⟩
  cases hv
  intro j u hj
  by_cases hroom : n + m ≤ cap
  · have hfit : n * i.size + news.length ≤ cur.size := by rw [hl, hcs, ← Nat.add_mul]; exact Nat.mul_le_mul_right _ hroom
    have hr2 := run_append_room (P := P) w t ty e i ht hi g n cap cur hg a m c news hl hnews h1 hroom hfit
    rw [hr2] at hr
    cases hr
    have h := ho'.cells (g := g) rfl j u (by
      have hlt := (List.getElem?_eq_some_iff.1 hj).1
      rw [List.getElem?_append_left hlt]
      exact hj)
    rwa [Addr.add_lit, Nat.zero_add] at h
  · have hsmall : n + m ≤ 9223372036854775807 := by simp only [maxLen] at h63; omega
    have hr2 := run_append_grow (P := P) w t ty e i z ht hi hz ⟨g, 0, none⟩ n cap xs hown.1 holds a m c news hl hnews (by omega) (by omega) (growslice_fits (by omega) hbytes)
    rw [hr2] at hr
    cases hr
    have h := holds j u hj
    rw [Addr.add_lit, Nat.zero_add] at h
    exact (World.cell?_of_block (w := w) (a := ⟨g, j, none⟩) (heap_alloc_old w.drew _ hgl)).trans h

section
variable {α : Type}
/-- append(out, src...) at the operation, out owned at block g: what the old row held is still there. -/
theorem wp_appEK {P : Program} {w : World} {o : Oper} {a : Act} {K : Act → World → Prop} {Q : Exit → Act → World → Prop} (s u : Operand) (t e : TypeId)
    (ho : o.op = .call { callee := .builtin .append, args := #[s, u], argTypes := #[t, t] }) (ht : P.underlying t = some (.slice e)) (z : Value) (k bytes : Nat)
    (hinfo : (P.info? e).map (fun i => (i.zero, i.size, i.bytes)) = some (some z, k, bytes)) (hzc : z.cells.size = k) (hk0 : 0 < k) (hb : bytes ≤ 1000)
    (enc : α → List Value) (hk : ∀ x, (enc x).length = k) (h1 : ∀ x, ∀ v ∈ enc x, v.oneCell' = true)
    (base g cap n : Nat) (xs : List α) (hn : xs.length = n) (hs : a.eval s = .slice (some ⟨g, 0, none⟩) n cap) (ad : Addr) (m sc : Nat) (hu : a.eval u = .slice (some ad) m sc) (ys : List α) (hm : ys.length = m)
    (hown : OwnE enc k e w base (some ⟨g, 0, none⟩) cap xs) (hc : ∀ (j : Nat) (v : Value), (flatL enc ys)[j]? = some v → w.cell? (ad.add j) = some v) (hlen : n + m ≤ 10000000) (hbase : base ≤ w.heap.size) (r : Nat) (hr : n + m = r)
    (h : ∀ ao' cap' w', OwnE enc k e w' base ao' cap' (xs ++ ys) → Ex base none w w' → (∀ b, b < w.heap.size → b ≠ g → w'.heap[b]? = w.heap[b]?) → (∀ (j : Nat) (v : Value), (flatL enc xs)[j]? = some v → w'.cell? ⟨g, j, none⟩ = some v) → K (a.put o.dst (.slice ao' r cap')) w') : o.wp P a w K Q := by
  subst hr hn hm
  obtain ⟨i0, hi, hz0, hz1, hz2⟩ := info_parts hinfo
  have hbb : (xs.length + ys.length) * bytes ≤ 140737488355328 := by have := Nat.mul_le_mul hlen hb; omega
  have h63 : xs.length + ys.length ≤ maxLen := by simp only [maxLen]; omega
  obtain ⟨v', w', hr, ho', hg, _, hnew⟩ := run_append_own_at (P := P) w base t o.type e i0 z k bytes ht hi hz0 hz1 hz2 hzc hk0 _ _ _ hown ad ys.length sc (flatL enc ys) (flatL_len hk ys) hc (flatL_one h1 ys) h63 hbb hbase
  have hkeep := append_old (P := P) (ty := o.type) ht hi hz0 hz1 hz2 hown ad ys.length sc (flatL enc ys) (flatL_len hk ys) hc (flatL_one h1 ys) h63 hbb hr ho'
  obtain ⟨ao', cap', rfl⟩ := own_shape ho'
  unfold Oper.wp execOp
  simp only [ho, resolve, invoke, builtin, Sem.run_bind, Sem.run_pure, Result.andThen_ok, List.map_toArray, List.map_cons, List.map_nil, hs, hu, hr]
  refine h ao' cap' w' ?_ ?_ (fun b hb hne => hg.block b hb (fun e => hne (by simpa [Value.ownBlock] using e))) hkeep
  · unfold OwnE
    have e2 : flatL enc (xs ++ ys) = flatL enc xs ++ flatL enc ys := by simp [flatL]
    rw [e2, List.length_append]; exact ho'
  · refine ⟨hg.os, hg.tape, hg.output, hg.size, fun q hq _ => hg.block q (by omega) (fun e => ?_)⟩
    have h2 : base ≤ g := (hown.lt _ rfl).1
    simp [Value.ownBlock] at e
    omega
theorem step_appEK {P : Program} {w : World} {ops : Array Oper} {o : Oper} {a : Act} {K : Act → World → Prop} {Q : Exit → Act → World → Prop} {E : Prop} (hgd : o.guard = none) (s u : Operand) (t e : TypeId)
    (ho : o.op = .call { callee := .builtin .append, args := #[s, u], argTypes := #[t, t] }) (ht : P.underlying t = some (.slice e)) (z : Value) (k bytes : Nat)
    (hinfo : (P.info? e).map (fun i => (i.zero, i.size, i.bytes)) = some (some z, k, bytes)) (hzc : z.cells.size = k) (hk0 : 0 < k) (hb : bytes ≤ 1000)
    (enc : α → List Value) (hk : ∀ x, (enc x).length = k) (h1 : ∀ x, ∀ v ∈ enc x, v.oneCell' = true)
    (base g cap n : Nat) (xs : List α) (hn : xs.length = n) (hs : a.eval s = .slice (some ⟨g, 0, none⟩) n cap) (ad : Addr) (m sc : Nat) (hu : a.eval u = .slice (some ad) m sc) (ys : List α) (hm : ys.length = m)
    (hown : OwnE enc k e w base (some ⟨g, 0, none⟩) cap xs) (hc : ∀ (j : Nat) (v : Value), (flatL enc ys)[j]? = some v → w.cell? (ad.add j) = some v) (hlen : n + m ≤ 10000000) (hbase : base ≤ w.heap.size) (r : Nat) (hr : n + m = r)
    (h : ∀ ao' cap' w', OwnE enc k e w' base ao' cap' (xs ++ ys) → Ex base none w w' → (∀ b, b < w.heap.size → b ≠ g → w'.heap[b]? = w.heap[b]?) → (∀ (j : Nat) (v : Value), (flatL enc xs)[j]? = some v → w'.cell? ⟨g, j, none⟩ = some v) → K (a.put o.dst (.slice ao' r cap')) w') :
    if Region.wanted o (yielded ops a.tmps) = true then o.wp P a w K Q else E := by
  rw [if_pos (show Region.wanted o (yielded ops a.tmps) = true by simp [Region.wanted, hgd])]
  exact wp_appEK s u t e ho ht z k bytes hinfo hzc hk0 hb enc hk h1 base g cap n xs hn hs ad m sc hu ys hm hown hc hlen hbase r hr h
end
end Go.Proofs.YtfllcohnfboccaaGreat
