/- wire.put, Int, Text, Ints; slices.Clone at bytes: contracts, no statement of the seat. | bits.RotateLeft32 as digest.block calls it. No statement of the seat. | Numbers in their cells, by value. No statement of the seat. | mourning.voices. No statement of the seat. | append of statements to a slice of statements that the call owns, one or many, in a plain region or in one that draws its order. No statement of the seat. -/
import Derived.Test.YtfllcohnfboccaaMg04
import Derived.Outline
import Derived.IntWalk
import Derived.Test.YtfllcohnfboccaaMg00
import Derived.Maps.OwnOps
import Derived.Deep.RegionLaw
namespace Go.Proofs.Ytfllcohnfboccaa
open Go.RowKit Go.Sort

set_option maxHeartbeats 1000000 in
theorem cloneBytes_any {P : Nat → Prop} (v : Value) (xs : List UInt8) (w : World) (hv : Sl byRep P w v xs) (hm : xs.length ≤ 5000000) :
    Calls Try.prog 99 #[v] w fun e w' => ∃ ro rc, e = .returned (.slice ro xs.length rc) ∧ OwnB w' w.heap.size ro rc xs ∧ Ex w.heap.size none w w' := by
  have q : ∀ (w : World) (a : Option Addr) (n c n' c' : Nat), (binOp .eql 69 (.slice a n c) (.slice none n' c')).run Try.prog w = .ok (.bool a.isNone) w := fun w a n c n' c' => Lib.run_eql_slice_nil w _ _ a n c n' c' Try.underlying69
  obtain ⟨ao, cap, rfl, hx⟩ := hv
  cases ao with
  | none =>
    obtain rfl := sl_none hx
    go_enter Try.func99, Try.ntmps99
    go_wp2
    go_ret
    exact ⟨none, 0, rfl, OwnE.nil _ _ _ _ _, Ex.refl _ _ _⟩
  | some ad =>
    have HX := Lib.hid (val_cells (by decide) (hx.keep (w' := w.alloc (.cells #[] 5)) (by decide) (fun q _ hq => (Ex.new w _).block q hq (by simp))))
    have HN : Hid (OwnB (w.alloc (.cells #[] 5)) w.heap.size (some ⟨w.heap.size, 0, none⟩) 0 []) := World.ownsRow_lit w #[] 0 (Nat.le_refl _) (by decide) rfl
    clear hx
    go_enter Try.func99, Try.ntmps99
    go_wp2_with (at_builtin; refine wpList_appE2 rfl (.tmp 5) (.tmp 6) _ 5 (by rfl) Try.underlying69 _ 1 1 Try.infoB rfl (by decide) (by decide) byE byE_len one_byE w.heap.size (some ⟨w.heap.size, 0, none⟩) 0 0 [] rfl (by rfl) (some ad) xs.length cap (by rfl) xs rfl HN.out HX.out (by omega) (by simp) xs.length (by omega) ?_; intro ro rc w1 hown hex _ _)
    go_ret
    exact ⟨ro, rc, rfl, hown, (Ex.new w (.cells #[] 5)).trans hex (Nat.le_refl _) (by simp)⟩

set_option maxHeartbeats 4000000 in
theorem put_any (base : Nat) (ao : Option Addr) (cap : Nat) (xs : List UInt8) (n : Int) (w : World) (hown : OwnB w base ao cap xs) (hbase : base ≤ w.heap.size) (hm : xs.length ≤ 5000000) :
    Calls Try.prog 98 #[.slice ao xs.length cap, .int .i64 n] w fun e w' => ∃ ro rc, e = .returned (.slice ro (xs.length + 8) rc) ∧ OwnB w' base ro rc (xs ++ int8 n) ∧ Ex base none w w' := by
  have HO0 := Lib.hid hown
  clear hown
  obtain ⟨m, hml⟩ : ∃ m, m = xs.length := ⟨_, rfl⟩
  have HML := Lib.hid hml
  rw [← hml] at hm ⊢
  clear hml
  go_enter Try.func98, Try.ntmps98
  go_wp2_with fail
  go_loopw [0, 5] (fun v i wr => ∃ (k : Nat) (ro : Option Addr) (rc : Nat), k ≤ 8 ∧ i = .int .i64 (56 - 8 * (k : Int)) ∧ v = .slice ro (m + k) rc ∧ base ≤ wr.heap.size ∧ OwnB wr base ro rc (xs ++ (int8 n).take k) ∧ Ex base none w wr) (fun _ i _ => (intOf i + 8).toNat)
  case atStart => exact ⟨0, ao, cap, by omega, rfl, rfl, hbase, by simpa using HO0.out, Ex.refl _ _ _⟩
  case round =>
    obtain ⟨k, ro, rc, hk, rfl, rfl, hsz, hown, hex⟩ := hrel
    have HO := Lib.hid hown
    have HE := Lib.hid hex
    clear hown hex
    rcases (by omega : k = 0 ∨ k = 1 ∨ k = 2 ∨ k = 3 ∨ k = 4 ∨ k = 5 ∨ k = 6 ∨ k = 7 ∨ k = 8) with rfl | rfl | rfl | rfl | rfl | rfl | rfl | rfl | rfl
    · go_wp2_with (at_builtin; refine wpList_appE2 rfl (.tmp 10) (.tmp 17) _ 5 (by rfl) Try.underlying69 _ 1 1 Try.infoB rfl (by decide) (by decide) byE byE_len one_byE base ro rc m (xs ++ (int8 n).take 0) (by rw [List.length_append, ← HML.out]; rfl) (by rfl) (some ⟨wr.heap.size, 0, none⟩) 1 1 (by rfl) [by8 (n / 72057594037927936)] rfl (HO.out.keep (Ex.new wr _) (Nat.le_refl _) (by simp)) (lit_cells (by simp [byE, by8_toNat, IntKind.wrap_u64] <;> omega)) (by omega) (by simp; omega) (m + 1) (by omega) ?_; intro ro2 rc2 w1 hown hex _ _)
      have HO2 : Hid (OwnB w1 base ro2 rc2 (xs ++ (int8 n).take 1)) := by
        have h : OwnB w1 base ro2 rc2 (xs ++ (int8 n).take 0 ++ [by8 (n / 72057594037927936)]) := hown
        rw [List.append_assoc] at h; exact h
      have HE2 : Hid (Ex base none w w1) := (HE.out.trans (Ex.new wr _) (by omega) (by simp)).trans hex (Nat.le_refl _) (by simp)
      have hz2 : base ≤ w1.heap.size := by have := HE2.out.size; omega
      clear hown hex
      go_roundw
      case rel => exact ⟨1, ro2, rc2, by omega, by first | rfl | go_num, rfl, hz2, HO2.out, HE2.out⟩
      case measure => simp [intOf]
    · go_wp2_with (at_builtin; refine wpList_appE2 rfl (.tmp 10) (.tmp 17) _ 5 (by rfl) Try.underlying69 _ 1 1 Try.infoB rfl (by decide) (by decide) byE byE_len one_byE base ro rc (m + 1) (xs ++ (int8 n).take 1) (by rw [List.length_append, ← HML.out]; rfl) (by rfl) (some ⟨wr.heap.size, 0, none⟩) 1 1 (by rfl) [by8 (n / 281474976710656)] rfl (HO.out.keep (Ex.new wr _) (Nat.le_refl _) (by simp)) (lit_cells (by simp [byE, by8_toNat, IntKind.wrap_u64] <;> omega)) (by omega) (by simp; omega) (m + 2) (by omega) ?_; intro ro2 rc2 w1 hown hex _ _)
      have HO2 : Hid (OwnB w1 base ro2 rc2 (xs ++ (int8 n).take 2)) := by
        have h : OwnB w1 base ro2 rc2 (xs ++ (int8 n).take 1 ++ [by8 (n / 281474976710656)]) := hown
        rw [List.append_assoc] at h; exact h
      have HE2 : Hid (Ex base none w w1) := (HE.out.trans (Ex.new wr _) (by omega) (by simp)).trans hex (Nat.le_refl _) (by simp)
      have hz2 : base ≤ w1.heap.size := by have := HE2.out.size; omega
      clear hown hex
      go_roundw
      case rel => exact ⟨2, ro2, rc2, by omega, by first | rfl | go_num, rfl, hz2, HO2.out, HE2.out⟩
      case measure => simp [intOf]
    · go_wp2_with (at_builtin; refine wpList_appE2 rfl (.tmp 10) (.tmp 17) _ 5 (by rfl) Try.underlying69 _ 1 1 Try.infoB rfl (by decide) (by decide) byE byE_len one_byE base ro rc (m + 2) (xs ++ (int8 n).take 2) (by rw [List.length_append, ← HML.out]; rfl) (by rfl) (some ⟨wr.heap.size, 0, none⟩) 1 1 (by rfl) [by8 (n / 1099511627776)] rfl (HO.out.keep (Ex.new wr _) (Nat.le_refl _) (by simp)) (lit_cells (by simp [byE, by8_toNat, IntKind.wrap_u64] <;> omega)) (by omega) (by simp; omega) (m + 3) (by omega) ?_; intro ro2 rc2 w1 hown hex _ _)
      have HO2 : Hid (OwnB w1 base ro2 rc2 (xs ++ (int8 n).take 3)) := by
        have h : OwnB w1 base ro2 rc2 (xs ++ (int8 n).take 2 ++ [by8 (n / 1099511627776)]) := hown
        rw [List.append_assoc] at h; exact h
      have HE2 : Hid (Ex base none w w1) := (HE.out.trans (Ex.new wr _) (by omega) (by simp)).trans hex (Nat.le_refl _) (by simp)
      have hz2 : base ≤ w1.heap.size := by have := HE2.out.size; omega
      clear hown hex
      go_roundw
      case rel => exact ⟨3, ro2, rc2, by omega, by first | rfl | go_num, rfl, hz2, HO2.out, HE2.out⟩
      case measure => simp [intOf]
    · go_wp2_with (at_builtin; refine wpList_appE2 rfl (.tmp 10) (.tmp 17) _ 5 (by rfl) Try.underlying69 _ 1 1 Try.infoB rfl (by decide) (by decide) byE byE_len one_byE base ro rc (m + 3) (xs ++ (int8 n).take 3) (by rw [List.length_append, ← HML.out]; rfl) (by rfl) (some ⟨wr.heap.size, 0, none⟩) 1 1 (by rfl) [by8 (n / 4294967296)] rfl (HO.out.keep (Ex.new wr _) (Nat.le_refl _) (by simp)) (lit_cells (by simp [byE, by8_toNat, IntKind.wrap_u64] <;> omega)) (by omega) (by simp; omega) (m + 4) (by omega) ?_; intro ro2 rc2 w1 hown hex _ _)
      have HO2 : Hid (OwnB w1 base ro2 rc2 (xs ++ (int8 n).take 4)) := by
        have h : OwnB w1 base ro2 rc2 (xs ++ (int8 n).take 3 ++ [by8 (n / 4294967296)]) := hown
        rw [List.append_assoc] at h; exact h
      have HE2 : Hid (Ex base none w w1) := (HE.out.trans (Ex.new wr _) (by omega) (by simp)).trans hex (Nat.le_refl _) (by simp)
      have hz2 : base ≤ w1.heap.size := by have := HE2.out.size; omega
      clear hown hex
      go_roundw
      case rel => exact ⟨4, ro2, rc2, by omega, by first | rfl | go_num, rfl, hz2, HO2.out, HE2.out⟩
      case measure => simp [intOf]
    · go_wp2_with (at_builtin; refine wpList_appE2 rfl (.tmp 10) (.tmp 17) _ 5 (by rfl) Try.underlying69 _ 1 1 Try.infoB rfl (by decide) (by decide) byE byE_len one_byE base ro rc (m + 4) (xs ++ (int8 n).take 4) (by rw [List.length_append, ← HML.out]; rfl) (by rfl) (some ⟨wr.heap.size, 0, none⟩) 1 1 (by rfl) [by8 (n / 16777216)] rfl (HO.out.keep (Ex.new wr _) (Nat.le_refl _) (by simp)) (lit_cells (by simp [byE, by8_toNat, IntKind.wrap_u64] <;> omega)) (by omega) (by simp; omega) (m + 5) (by omega) ?_; intro ro2 rc2 w1 hown hex _ _)
      have HO2 : Hid (OwnB w1 base ro2 rc2 (xs ++ (int8 n).take 5)) := by
        have h : OwnB w1 base ro2 rc2 (xs ++ (int8 n).take 4 ++ [by8 (n / 16777216)]) := hown
        rw [List.append_assoc] at h; exact h
      have HE2 : Hid (Ex base none w w1) := (HE.out.trans (Ex.new wr _) (by omega) (by simp)).trans hex (Nat.le_refl _) (by simp)
      have hz2 : base ≤ w1.heap.size := by have := HE2.out.size; omega
      clear hown hex
      go_roundw
      case rel => exact ⟨5, ro2, rc2, by omega, by first | rfl | go_num, rfl, hz2, HO2.out, HE2.out⟩
      case measure => simp [intOf]
    · go_wp2_with (at_builtin; refine wpList_appE2 rfl (.tmp 10) (.tmp 17) _ 5 (by rfl) Try.underlying69 _ 1 1 Try.infoB rfl (by decide) (by decide) byE byE_len one_byE base ro rc (m + 5) (xs ++ (int8 n).take 5) (by rw [List.length_append, ← HML.out]; rfl) (by rfl) (some ⟨wr.heap.size, 0, none⟩) 1 1 (by rfl) [by8 (n / 65536)] rfl (HO.out.keep (Ex.new wr _) (Nat.le_refl _) (by simp)) (lit_cells (by simp [byE, by8_toNat, IntKind.wrap_u64] <;> omega)) (by omega) (by simp; omega) (m + 6) (by omega) ?_; intro ro2 rc2 w1 hown hex _ _)
      have HO2 : Hid (OwnB w1 base ro2 rc2 (xs ++ (int8 n).take 6)) := by
        have h : OwnB w1 base ro2 rc2 (xs ++ (int8 n).take 5 ++ [by8 (n / 65536)]) := hown
        rw [List.append_assoc] at h; exact h
      have HE2 : Hid (Ex base none w w1) := (HE.out.trans (Ex.new wr _) (by omega) (by simp)).trans hex (Nat.le_refl _) (by simp)
      have hz2 : base ≤ w1.heap.size := by have := HE2.out.size; omega
      clear hown hex
      go_roundw
      case rel => exact ⟨6, ro2, rc2, by omega, by first | rfl | go_num, rfl, hz2, HO2.out, HE2.out⟩
      case measure => simp [intOf]
    · go_wp2_with (at_builtin; refine wpList_appE2 rfl (.tmp 10) (.tmp 17) _ 5 (by rfl) Try.underlying69 _ 1 1 Try.infoB rfl (by decide) (by decide) byE byE_len one_byE base ro rc (m + 6) (xs ++ (int8 n).take 6) (by rw [List.length_append, ← HML.out]; rfl) (by rfl) (some ⟨wr.heap.size, 0, none⟩) 1 1 (by rfl) [by8 (n / 256)] rfl (HO.out.keep (Ex.new wr _) (Nat.le_refl _) (by simp)) (lit_cells (by simp [byE, by8_toNat, IntKind.wrap_u64] <;> omega)) (by omega) (by simp; omega) (m + 7) (by omega) ?_; intro ro2 rc2 w1 hown hex _ _)
      have HO2 : Hid (OwnB w1 base ro2 rc2 (xs ++ (int8 n).take 7)) := by
        have h : OwnB w1 base ro2 rc2 (xs ++ (int8 n).take 6 ++ [by8 (n / 256)]) := hown
        rw [List.append_assoc] at h; exact h
      have HE2 : Hid (Ex base none w w1) := (HE.out.trans (Ex.new wr _) (by omega) (by simp)).trans hex (Nat.le_refl _) (by simp)
      have hz2 : base ≤ w1.heap.size := by have := HE2.out.size; omega
      clear hown hex
      go_roundw
      case rel => exact ⟨7, ro2, rc2, by omega, by first | rfl | go_num, rfl, hz2, HO2.out, HE2.out⟩
      case measure => simp [intOf]
    · go_wp2_with (at_builtin; refine wpList_appE2 rfl (.tmp 10) (.tmp 17) _ 5 (by rfl) Try.underlying69 _ 1 1 Try.infoB rfl (by decide) (by decide) byE byE_len one_byE base ro rc (m + 7) (xs ++ (int8 n).take 7) (by rw [List.length_append, ← HML.out]; rfl) (by rfl) (some ⟨wr.heap.size, 0, none⟩) 1 1 (by rfl) [by8 (n)] rfl (HO.out.keep (Ex.new wr _) (Nat.le_refl _) (by simp)) (lit_cells (by simp [byE, by8_toNat, IntKind.wrap_u64] <;> omega)) (by omega) (by simp; omega) (m + 8) (by omega) ?_; intro ro2 rc2 w1 hown hex _ _)
      have HO2 : Hid (OwnB w1 base ro2 rc2 (xs ++ (int8 n).take 8)) := by
        have h : OwnB w1 base ro2 rc2 (xs ++ (int8 n).take 7 ++ [by8 (n)]) := hown
        rw [List.append_assoc] at h; exact h
      have HE2 : Hid (Ex base none w w1) := (HE.out.trans (Ex.new wr _) (by omega) (by simp)).trans hex (Nat.le_refl _) (by simp)
      have hz2 : base ≤ w1.heap.size := by have := HE2.out.size; omega
      clear hown hex
      go_roundw
      case rel => exact ⟨8, ro2, rc2, by omega, by first | rfl | go_num, rfl, hz2, HO2.out, HE2.out⟩
      case measure => simp [intOf]
    · go_wp2
      go_ret
      exact ⟨ro, rc, rfl, HO.out, HE.out⟩

set_option maxHeartbeats 1000000 in
theorem int_any {P : Nat → Prop} (v : Value) (xs : List UInt8) (n : Int) (w : World) (hv : Sl byRep P w v xs) (hm : xs.length ≤ 5000000) :
    Calls Try.prog 67 #[v, .int .i64 n] w fun e w' => ∃ ro rc, e = .returned (.slice ro (xs.length + 8) rc) ∧ OwnB w' w.heap.size ro rc (xs ++ int8 n) ∧ Ex w.heap.size none w w' := by
  have HV := Lib.hid hv
  clear hv
  go_enter Try.func67, Try.ntmps67
  go_wp2_with (first
    | (go_at_call 99
       refine (cloneBytes_any v xs w HV.out hm).mono ?_
       rintro e w1 ⟨r1, c1, rfl, hown, hex⟩
       have H1 : Hid (OwnB w1 w.heap.size r1 c1 xs ∧ Ex w.heap.size none w w1) := Lib.hid ⟨hown, hex⟩
       have hz1 : w.heap.size ≤ w1.heap.size := hex.size
       clear hown hex)
    | (go_at_call 98
       refine (put_any w.heap.size r1 c1 xs n w1 H1.out.1 hz1 hm).mono ?_
       rintro e w2 ⟨r2, c2, rfl, hown, hex⟩
       have H2 : Hid (OwnB w2 w.heap.size r2 c2 (xs ++ int8 n) ∧ Ex w.heap.size none w w2) := Lib.hid ⟨hown, H1.out.2.trans hex (Nat.le_refl _) (by simp)⟩
       clear hown hex)
    | fail)
  go_ret
  exact ⟨r2, c2, rfl, H2.out.1, H2.out.2⟩

set_option maxHeartbeats 1000000 in
theorem text_any {P : Nat → Prop} (v : Value) (xs : List UInt8) (s : ByteArray) (w : World) (hv : Sl byRep P w v xs) (hm : xs.length ≤ 4000000) (hs : s.size ≤ 1000000) :
    Calls Try.prog 68 #[v, .string s] w fun e w' => ∃ ro rc, e = .returned (.slice ro (xs.length + 8 + s.size) rc) ∧ OwnB w' w.heap.size ro rc (xs ++ int8 s.size ++ strL s) ∧ Ex w.heap.size none w w' := by
  have HV := Lib.hid hv
  clear hv
  go_enter Try.func68, Try.ntmps68
  go_wp2_with fail
  refine (int_any v xs s.size w HV.out (by omega)).mono ?_
  rintro e w1 ⟨ro, rc, rfl, hown, hex⟩
  have HO := Lib.hid hown
  have HE := Lib.hid hex
  have hz := hex.size
  clear hown hex
  go_wp2_with (at_builtin; refine wpList_appB_str rfl (.tmp 8) (.tmp 9) _ _ (by rfl) Try.underlying69 Try.underlying9 Try.infoB w.heap.size ro rc (xs.length + 8) (xs ++ int8 s.size) (by rw [List.length_append]; rfl) (by rfl) s (by rfl) HO.out (by omega) hz ?_; intro ro2 rc2 w2 hown2 hex2)
  go_ret
  exact ⟨ro2, rc2, rfl, hown2, HE.out.trans hex2 (Nat.le_refl _) (by simp)⟩

set_option maxHeartbeats 1000000 in
theorem ints_any {P : Nat → Prop} (v u : Value) (xs : List UInt8) (l : List Int) (w : World) (hv : Sl byRep P w v xs) (hu : Ints w u l) (hm : xs.length ≤ 3000000) (hl : l.length ≤ 100000) :
    Calls Try.prog 141 #[v, u] w fun e w' => ∃ ro rc, e = .returned (.slice ro (xs.length + 8 + l.length * 8) rc) ∧ OwnB w' w.heap.size ro rc (xs ++ int8 l.length ++ intsB l) ∧ Ex w.heap.size none w w' := by
  obtain ⟨ao, cap, rfl, hx⟩ := hu
  have HV := Lib.hid hv
  have HX := Lib.hid hx
  clear hv hx
  go_enter Try.func141, Try.ntmps141
  go_wp2_with fail
  refine (int_any v xs l.length w HV.out (by omega)).mono ?_
  rintro e w1 ⟨ro, rc, rfl, hown, hex⟩
  have HO := Lib.hid hown
  have HE := Lib.hid hex
  clear hown hex
  go_wp2_with fail
  go_loopw [5, 7, 14] (fun v u i wr => ∃ (k : Nat) (ro : Option Addr) (rc : Nat), k ≤ l.length ∧ i = .int .i64 k ∧ v = .slice ro (xs.length + 8 + k * 8) rc ∧ OwnB wr w.heap.size ro rc (xs ++ int8 l.length ++ intsB (l.take k)) ∧ Ex w.heap.size none w wr) (fun _ _ i _ => l.length - (intOf i).toNat)
  case atStart => exact ⟨0, ro, rc, by omega, rfl, by rw [Nat.zero_mul, Nat.add_zero], by simpa [intsB] using HO.out, HE.out⟩
  case round =>
    obtain ⟨k, ro, rc, hk, rfl, rfl, hown, hex⟩ := hrel
    have hsz := hex.size
    by_cases hlt : k < l.length
    · obtain ⟨b, off, y, rfl, hc, HY⟩ := (HX.out.keep hex (Nat.le_refl _) (by simp)).get k hlt
      have HK : Hid (intsB (l.take (k + 1)) = intsB (l.take k) ++ int8 y) := (show _ = _ by
        have h := HY.out
        rw [List.getD_eq_getElem?_getD, List.getElem?_eq_getElem hlt] at h
        simp only [Option.getD_some] at h
        rw [List.take_add_one, List.getElem?_eq_getElem hlt, h]
        simp [intsB])
      have HTL : Hid ((intsB (l.take k)).length = k * 8) := (show _ = _ by rw [intsB_len]; simp; omega)
      obtain ⟨ys, hys⟩ : ∃ ys, ys = xs ++ int8 l.length ++ intsB (l.take k) := ⟨_, rfl⟩
      have HL : Hid (ys.length = xs.length + 8 + k * 8) := (show _ = _ by rw [hys, List.length_append, List.length_append, HTL.out, int8_len])
      have HYS := Lib.hid hys
      rw [← hys] at hown
      have HO := Lib.hid hown
      have HE := Lib.hid hex
      clear hown hex hys
      have HPC : Hid (Calls Try.prog 98 #[.slice ro (xs.length + 8 + k * 8) rc, .int .i64 y] wr fun e w' => ∃ r2 c2, e = .returned (.slice r2 (xs.length + 8 + k * 8 + 8) c2) ∧ OwnB w' w.heap.size r2 c2 (ys ++ int8 y) ∧ Ex w.heap.size none wr w') := Lib.hid (by
        have h := put_any w.heap.size ro rc ys y wr HO.out hsz (by rw [HL.out]; omega)
        rw [HL.out] at h
        exact h)
      go_wp2_with (go_at_call 98
                   refine HPC.out.mono ?_
                   rintro e w2 ⟨ro2, rc2, rfl, hown2, hex2⟩
                   have HO2 : Hid (OwnB w2 w.heap.size ro2 rc2 (ys ++ int8 y)) := hown2
                   have HE2 := Lib.hid hex2
                   clear hown2 hex2)
      go_roundw
      case rel => exact ⟨k + 1, ro2, rc2, by omega, by go_num, by rw [Nat.add_mul]; rfl, by rw [HK.out, ← List.append_assoc, ← HYS.out]; exact HO2.out, HE.out.trans HE2.out (Nat.le_refl _) (by simp)⟩
      case measure => simp [intOf] <;> omega
    · obtain rfl : k = l.length := by omega
      rw [List.take_length] at hown
      go_wp2
      go_ret
      exact ⟨ro, rc, rfl, hown, hex⟩
end Go.Proofs.Ytfllcohnfboccaa

namespace Go.Proofs.Ytfllcohnfboccaa
open Go.RowKit Go.Sort

theorem u_turnL (x : UInt32) (m : Nat) (h1 : 1 ≤ m) (h2 : m ≤ 31) : bits .or .u32 ((x.toNat : Int) * 2 ^ m % 4294967296) ((x.toNat : Int) / 2 ^ (32 - m)) = ((turnU x (32 - m)).toNat : Int) := by
  rw [u_shl x m (by omega), u_shr x (32 - m) (by omega), u_or, UInt32.or_comm]
  unfold turnU
  rw [show 32 - (32 - m) = m by omega]
set_option maxHeartbeats 1000000 in
theorem rot_any (x : UInt32) (z : Int) (m : Nat) (hz : bits .and .u64 (IntKind.u64.wrap z) 31 = (m : Int)) (h1 : 1 ≤ m) (h2 : m ≤ 31) (w : World) : Calls Try.prog 123 #[.int .u32 x.toNat, .int .i64 z] w fun e w' => e = .returned (.int .u32 (turnU x (32 - m)).toNat) ∧ w = w' := by
  go_enter Try.func123, Try.ntmps123
  go_wp2
  go_ret
  exact ⟨by rw [u_turnL x m h1 h2]; rfl, rfl⟩
set_option maxHeartbeats 1000000 in
theorem turnP_any (x : UInt32) (z : Int) (hb : z ∈ [2, 6, 7, 11, 13, 17, 18, 19, 22, 25]) (w : World) : Calls Try.prog 122 #[.int .u32 x.toNat, .int .i64 z] w fun e w' => e = .returned (.int .u32 (turnU x z.toNat).toNat) ∧ w = w' := by
  obtain ⟨m, hm, h1, h2, h3, hzb⟩ : ∃ m : Nat, bits .and .u64 (IntKind.u64.wrap (-z)) 31 = (m : Int) ∧ 1 ≤ m ∧ m ≤ 31 ∧ 32 - m = z.toNat ∧ (0 ≤ z ∧ z ≤ 31) := by
    simp only [List.mem_cons, List.not_mem_nil, or_false] at hb
    rcases hb with rfl | rfl | rfl | rfl | rfl | rfl | rfl | rfl | rfl | rfl
    · exact ⟨30, by decide, by omega, by omega, rfl, by omega⟩
    · exact ⟨26, by decide, by omega, by omega, rfl, by omega⟩
    · exact ⟨25, by decide, by omega, by omega, rfl, by omega⟩
    · exact ⟨21, by decide, by omega, by omega, rfl, by omega⟩
    · exact ⟨19, by decide, by omega, by omega, rfl, by omega⟩
    · exact ⟨15, by decide, by omega, by omega, rfl, by omega⟩
    · exact ⟨14, by decide, by omega, by omega, rfl, by omega⟩
    · exact ⟨13, by decide, by omega, by omega, rfl, by omega⟩
    · exact ⟨10, by decide, by omega, by omega, rfl, by omega⟩
    · exact ⟨7, by decide, by omega, by omega, rfl, by omega⟩
  have hw : IntKind.i64.wrap (-z) = -z := IntWalk.i64_in _ (by omega)
  clear hb
  go_enter Try.func122, Try.ntmps122
  go_wp2_with (go_at_call 123; refine (rot_any x (-z) m hm h1 h2 _).mono ?_; rw [h3]; rintro e w' ⟨rfl, rfl⟩)
  go_ret
  exact ⟨rfl, rfl⟩
end Go.Proofs.Ytfllcohnfboccaa

namespace Go.Proofs.Ytfllcohnfboccaa
open Go.RowKit Go.Sort

def iE (n : Int) : List Value := [.int .i64 n]
theorem iE_len (n : Int) : (iE n).length = 1 := rfl
theorem one_iE : ∀ n, ∀ v ∈ iE n, v.oneCell' = true := fun n v hv => by simp [iE] at hv; subst hv; rfl
end Go.Proofs.Ytfllcohnfboccaa

namespace Go.Proofs.Ytfllcohnfboccaa
open Go.RowKit Go.Maps Go.Sort

set_option maxHeartbeats 4000000 in
set_option maxRecDepth 100000 in
theorem voices_any (g N : Nat) (l : List (Int × Int)) (lost next : Int) (w : World) (hm : w.ownsMap Try.prog 97 (plainElem Try.prog 3) g N (mapD lost l)) (hl : ∀ p ∈ l, 0 ≤ p.1 ∧ p.1 < 64) (hlost : 0 ≤ lost ∧ lost < 64) :
    Calls Try.prog 35 #[.map (some g), .int .i64 lost, .int .i64 next] w fun e w' => ∃ (ro : Option Addr) (rc n : Nat), e = .returned (.slice ro n rc) ∧ (voicesL l next 64).length = n ∧ OwnE iE 1 3 w' w.heap.size ro rc (voicesL l next 64) ∧ Ex w.heap.size none w w' := by
  have hg : g < w.heap.size := hm.lt
  have HM : Hid (∀ w', Ex w.heap.size none w w' → w'.ownsMap Try.prog 97 (plainElem Try.prog 3) g N (mapD lost l)) := Lib.hid (fun w' h => by
    obtain ⟨es, clock, h1, h2⟩ := hm
    exact ⟨es, clock, (h.block g hg (by simp)).trans h1, h2⟩)
  clear hm
  go_enter Try.func35, Try.ntmps35
  go_wp2_with fail
  go_loopw [7, 8, 9, 10, 11] (fun v _ _ _ i wr => ∃ (k n : Nat) (ro : Option Addr) (rc : Nat), i = .int .i64 k ∧ k ≤ 64 ∧ n ≤ k ∧ v = .slice ro n rc ∧ Hid ((voicesL l next k).length = n) ∧ OwnE iE 1 3 wr w.heap.size ro rc (voicesL l next k) ∧ Ex w.heap.size none w wr) (fun _ _ _ _ i _ => 64 - (intOf i).toNat)
  case atStart => exact ⟨0, 0, none, 0, rfl, by omega, by omega, rfl, Lib.hid rfl, OwnE.nil _ _ _ _ _, Ex.refl _ _ _⟩
  case round =>
    obtain ⟨k, n, ro, rc, rfl, hk, hn, rfl, HN, hown, hex⟩ := hrel
    have hsz := hex.size
    have HO := Lib.hid hown
    have HEX := Lib.hid hex
    clear hown hex
    by_cases h64 : k < 64
    · have hkI : (k : Int) < 64 := by omega
      obtain ⟨b, hb⟩ : ∃ b, b = lastOf l (k : Int) := ⟨_, rfl⟩
      have HLAST : Hid (lastOf l (k : Int) = b) := Lib.hid hb.symm
      clear hb
      have HVQ := voicesL_succ l next k
      rw [HLAST.out] at HVQ
      cases b with
      | none =>
        have HVS : Hid (voicesL l next (k + 1) = voicesL l next k) := Lib.hid (by rw [HVQ, if_neg (by simp), List.append_nil])
        clear HVQ
        go_wp2_with (first
          | (at_lookup; refine wpList_lookup_own_ok_int _ rfl _ _ _ rfl 97 3 .i64 Try.keyedLoss Try.underlying72 Try.underlying3 (by kernel_rfl) g N (mapD lost l) (by rfl) (HM.out _ HEX.out) _ _ (by rfl) (keyOf_loss (k : Int) lost (by omega) hlost) ?_; intro c hat _; have hc : c = 0 := (by rw [mapD_at hl (by omega), HLAST.out] at hat; simpa using hat.symm); rw [hc, mapD_has hl (by omega), HLAST.out]; first | rw [Option.isSome_none] | rw [Option.isSome_some])
          | fail)
        go_roundw
        case rel => exact ⟨k + 1, n, ro, rc, by go_num, by omega, by omega, rfl, Lib.hid (by rw [HVS.out]; exact HN.out), by rw [HVS.out]; exact HO.out, HEX.out⟩
        case measure => simp [intOf] <;> omega
      | some v =>
        by_cases hv : v = next
        · subst hv
          have HVS : Hid (voicesL l v (k + 1) = voicesL l v k ++ [(k : Int)]) := Lib.hid (by rw [HVQ, if_pos rfl])
          clear HVQ
          go_wp2_with (first
            | (at_lookup; refine wpList_lookup_own_ok_int _ rfl _ _ _ rfl 97 3 .i64 Try.keyedLoss Try.underlying72 Try.underlying3 (by kernel_rfl) g N (mapD lost l) (by rfl) (HM.out _ HEX.out) _ _ (by rfl) (keyOf_loss (k : Int) lost (by omega) hlost) ?_; intro c hat _; have hc : c = v := (by rw [mapD_at hl (by omega), HLAST.out] at hat; simpa using hat.symm); rw [hc, mapD_has hl (by omega), HLAST.out]; first | rw [Option.isSome_none] | rw [Option.isSome_some])
            | (at_builtin; refine wpList_appE2 rfl (.tmp 28) (.tmp 30) _ 3 (by rfl) Try.underlying22 _ 1 8 Try.infoInt rfl (by decide) (by decide) iE iE_len one_iE w.heap.size ro rc n (voicesL l v k) HN.out (by rfl) (some ⟨wr.heap.size, 0, none⟩) 1 1 (by rfl) [(k : Int)] rfl (HO.out.keep (Ex.new wr _) (Nat.le_refl _) (by simp)) (lit_cells (by rfl)) (by omega) (by simp; omega) (n + 1) (by omega) ?_; intro ro2 rc2 w2 hown2 hex2 _ _; have H2 : Hid (OwnE iE 1 3 w2 w.heap.size ro2 rc2 (voicesL l v (k + 1)) ∧ Ex w.heap.size none w w2) := Lib.hid ⟨by rw [HVS.out]; exact hown2, (HEX.out.trans (Ex.new wr _) hsz (by simp)).trans hex2 (Nat.le_refl _) (by simp)⟩; clear hown2 hex2)
            | fail)
          go_roundw
          case rel => exact ⟨k + 1, n + 1, ro2, rc2, by go_num, by omega, by omega, rfl, Lib.hid (by rw [HVS.out, List.length_append, HN.out]; rfl), H2.out.1, H2.out.2⟩
          case measure => simp [intOf] <;> omega
        · have hvd : (v == next) = false := by simp [hv]
          have HVS : Hid (voicesL l next (k + 1) = voicesL l next k) := Lib.hid (by rw [HVQ, if_neg (by simpa using hv), List.append_nil])
          clear HVQ hv
          go_wp2_with (first
            | (at_lookup; refine wpList_lookup_own_ok_int _ rfl _ _ _ rfl 97 3 .i64 Try.keyedLoss Try.underlying72 Try.underlying3 (by kernel_rfl) g N (mapD lost l) (by rfl) (HM.out _ HEX.out) _ _ (by rfl) (keyOf_loss (k : Int) lost (by omega) hlost) ?_; intro c hat _; have hc : c = v := (by rw [mapD_at hl (by omega), HLAST.out] at hat; simpa using hat.symm); rw [hc, mapD_has hl (by omega), HLAST.out]; first | rw [Option.isSome_none] | rw [Option.isSome_some])
            | fail)
          go_roundw
          case rel => exact ⟨k + 1, n, ro, rc, by go_num, by omega, by omega, rfl, Lib.hid (by rw [HVS.out]; exact HN.out), by rw [HVS.out]; exact HO.out, HEX.out⟩
          case measure => simp [intOf] <;> omega
    · have hkI : ¬ (k : Int) < 64 := by omega
      have h64e : k = 64 := by omega
      have HV : Hid (voicesL l next k = voicesL l next 64) := Lib.hid (by rw [h64e])
      clear h64e
      go_wp2
      go_ret
      exact ⟨ro, rc, n, rfl, by rw [← HV.out]; exact HN.out, by rw [← HV.out]; exact HO.out, HEX.out⟩
end Go.Proofs.Ytfllcohnfboccaa

namespace Go.Proofs.Ytfllcohnfboccaa
open Go.RowKit Go.Sort

/-- The slice at ao owns the statements l: its row lies from rb on; what their lists lie in, from 'base' on, not in the row. -/
def OwnT (w : World) (rb base : Nat) (ao : Option Addr) (cap : Nat) (l : List St) : Prop :=
  ∃ xs : List (St × Sv × Sv), xs.map (·.1) = l ∧ OwnE stE 13 40 w rb ao cap xs ∧ ∀ x ∈ xs, Lies (fun b => base ≤ b ∧ rowOf ao ≠ some b) w x
theorem OwnS.t {w : World} {base : Nat} {ao : Option Addr} {cap : Nat} {l : List St} (h : OwnS w base ao cap l) : OwnT w base base ao cap l := h
theorem OwnE.lower {α : Type} {enc : α → List Value} {k : Nat} {e : TypeId} {w : World} {base base' : Nat} {ao : Option Addr} {cap : Nat} {xs : List α} (h : OwnE enc k e w base ao cap xs) (hb : base' ≤ base) : OwnE enc k e w base' ao cap xs := by
  refine ⟨h.1, ?_⟩
  rcases h.2 with h | ⟨g, c, cur, e1, e2, e3⟩
  · exact .inl h
  · exact .inr ⟨g, c, cur, e1, by omega, e3⟩
theorem OwnT.s {w : World} {rb base : Nat} {ao : Option Addr} {cap : Nat} {l : List St} (h : OwnT w rb base ao cap l) (hb : base ≤ rb) : OwnS w base ao cap l := by
  obtain ⟨xs, e, h1, h2⟩ := h
  exact ⟨xs, e, h1.lower hb, h2⟩
theorem OwnT.nil (w : World) (rb base : Nat) : OwnT w rb base none 0 [] := ⟨[], rfl, OwnE.nil _ _ _ _ _, fun x hx => by simp at hx⟩
theorem OwnT.keep {w w' : World} {rb base B : Nat} {ao : Option Addr} {cap : Nat} {l : List St} (h : OwnT w rb base ao cap l) (hx : Ex B none w w') (hB : w.heap.size ≤ B) : OwnT w' rb base ao cap l := by
  obtain ⟨xs, e, h1, h2⟩ := h
  exact ⟨xs, e, h1.keep hx hB (by simp), fun x hxx => (h2 x hxx).keep fun b _ hb => hx.block b (by omega) (by simp)⟩
theorem OwnT.len {w : World} {rb base : Nat} {ao : Option Addr} {cap : Nat} {l : List St} (h : OwnT w rb base ao cap l) : l.length ≤ cap := by
  obtain ⟨xs, rfl, h1, _⟩ := h
  rcases h1.cases with ⟨_, rfl, h0⟩ | ⟨g, _, _, _, hc⟩
  · subst h0; exact Nat.le_refl _
  · simpa using hc
theorem flatL_cut (xs : List (St × Sv × Sv)) (j : Nat) : flatL stE xs = flatL stE (xs.take j) ++ flatL stE (xs.drop j) := by
  unfold flatL
  rw [← List.flatMap_append, List.take_append_drop]
theorem add_block (a : Addr) (j : Nat) : (a.add j).block = a.block := by unfold Addr.add; split <;> rfl
theorem OwnT.row {w : World} {rb base : Nat} {ao : Option Addr} {cap : Nat} {l : List St} (h : OwnT w rb base ao cap l) (b : Nat) (hb : rowOf ao = some b) : b < w.heap.size := by
  obtain ⟨xs, _, h1, _⟩ := h
  cases ao with
  | none => cases hb
  | some ad => simp [rowOf] at hb; subst hb; exact (h1.lt _ rfl).2
theorem OwnT.row_ge {w : World} {rb base : Nat} {ao : Option Addr} {cap : Nat} {l : List St} (h : OwnT w rb base ao cap l) (b : Nat) (hb : rowOf ao = some b) : rb ≤ b := by
  obtain ⟨xs, _, h1, _⟩ := h
  cases ao with
  | none => cases hb
  | some ad => simp [rowOf] at hb; subst hb; exact (h1.lt _ rfl).1
/-- Cells of statements by value, to be appended. -/
def Src (w : World) (so : Option Addr) (ys : List (St × Sv × Sv)) : Prop := ys.length = 0 ∨ ∃ ad, so = some ad ∧ ∀ (j : Nat) (v : Value), (flatL stE ys)[j]? = some v → w.cell? (ad.add j) = some v
theorem Src.keep {w w' : World} {so : Option Addr} {ys : List (St × Sv × Sv)} (h : Src w so ys) (hx : ∀ b, rowOf so = some b → b < w.heap.size → w'.heap[b]? = w.heap[b]?) : Src w' so ys := by
  rcases h with h | ⟨ad, e, h⟩
  · exact .inl h
  · refine .inr ⟨ad, e, fun j v hv => ?_⟩
    have h1 := h j v hv
    have hb : (ad.add j).block = ad.block := add_block _ _
    have h2 := World.block_lt_of_cell? w _ h1
    exact (World.cell?_of_block (w := w) (by rw [hb]; exact hx _ (by rw [e]; rfl) (by rw [← hb]; exact h2))).trans h1
/-- The slices of a row. -/
theorem OwnT.parts {w : World} {rb base : Nat} {ao : Option Addr} {cap : Nat} {l : List St} (h : OwnT w rb base ao cap l) (j : Nat) (hj : j ≤ l.length) :
    ∃ (xs : List (St × Sv × Sv)) (a2 : Option Addr), xs.map (·.1) = l ∧ (∀ x ∈ xs, Lies (fun b => base ≤ b ∧ rowOf ao ≠ some b) w x) ∧ Src w ao (xs.take j) ∧ (if cap = j then ao else ao.map (fun x => x.add (j * 13))) = a2 ∧ Src w a2 (xs.drop j) ∧ rowOf a2 = rowOf ao ∧ ∀ b, rowOf ao = some b → b < w.heap.size := by
  obtain ⟨xs, rfl, h1, h2⟩ := h
  have hj' : j ≤ xs.length := by simpa using hj
  refine ⟨xs, _, rfl, h2, ?_, rfl, ?_, ?_, ?_⟩
  · rcases h1.cases with ⟨_, _, h0⟩ | ⟨g, rfl, hb, _, _⟩
    · subst h0; exact .inl (by simp)
    · refine .inr ⟨_, rfl, fun i v hv => ?_⟩
      obtain ⟨_, _, _, _, hc, _⟩ := own_there h1
      rw [Addr.add_lit, Nat.zero_add]
      refine hc i v ?_
      have e : flatL stE xs = flatL stE (xs.take j) ++ flatL stE (xs.drop j) := flatL_cut xs j
      rw [e, List.getElem?_append_left (List.getElem?_eq_some_iff.1 hv).1]
      exact hv
  · by_cases hc : cap = j
    · rw [if_pos hc]
      refine .inl ?_
      rcases h1.cases with ⟨_, _, h0⟩ | ⟨g, _, _, _, hl⟩
      · subst h0; simp
      · simp; omega
    · rw [if_neg hc]
      rcases h1.cases with ⟨_, _, h0⟩ | ⟨g, rfl, hb, _, _⟩
      · subst h0; exact .inl (by simp)
      · refine .inr ⟨_, rfl, fun i v hv => ?_⟩
        obtain ⟨_, _, _, _, hc, _⟩ := own_there h1
        show w.cell? (((⟨g, 0, none⟩ : Addr).add (j * 13)).add i) = some v
        rw [Addr.add_lit, Addr.add_lit, Nat.zero_add]
        refine hc (j * 13 + i) v ?_
        have e : flatL stE xs = flatL stE (xs.take j) ++ flatL stE (xs.drop j) := flatL_cut xs j
        have hl : (flatL stE (xs.take j)).length = j * 13 := by rw [flatL_len stE_len, List.length_take, Nat.min_eq_left hj']
        rw [e, List.getElem?_append_right (by omega), hl, Nat.add_sub_cancel_left]
        exact hv
  · by_cases hc : cap = j
    · rw [if_pos hc]
    · rw [if_neg hc]; cases ao with
      | none => rfl
      | some ad => exact congrArg some (add_block _ _)
  · intro b hb
    cases ao with
    | none => cases hb
    | some ad => simp [rowOf] at hb; subst hb; exact (h1.lt _ rfl).2

/-- append at the operation. -/
theorem wp_appT {P : Program} {w : World} {o : Oper} {a : Act} {K : Act → World → Prop} {Q : Exit → Act → World → Prop} (s u : Operand) (t : TypeId)
    (ho : o.op = .call { callee := .builtin .append, args := #[s, u], argTypes := #[t, t] }) (ht : P.underlying t = some (.slice 40))
    (hinfo : (P.info? 40).map (fun i => (i.zero, i.size, i.bytes)) = some (some (.agg #[.int .i64 0, .int .i64 0, .string ⟨#[]⟩, .int .i64 0, .int .i64 0, .int .i64 0, .int .i64 0, .int .i64 0, .slice none 0 0, .slice none 0 0, .string ⟨#[]⟩, .int .i64 0, .string ⟨#[]⟩]), 13, 160))
    (rb base : Nat) (ao : Option Addr) (cap n : Nat) (l : List St) (hn : l.length = n) (hs : a.eval s = .slice ao n cap) (so : Option Addr) (m sc : Nat) (hu : a.eval u = .slice so m sc) (ys : List (St × Sv × Sv)) (hm : ys.length = m)
    (hown : OwnT w rb base ao cap l) (hsrc : Src w so ys) (hx : ∀ x ∈ ys, Lies (fun b => base ≤ b ∧ rowOf ao ≠ some b) w x) (hlen : n + m ≤ 10000000) (hbase : rb ≤ w.heap.size) (r : Nat) (hr : n + m = r)
    (h : ∀ ao' cap' w', OwnT w' rb base ao' cap' (l ++ ys.map (·.1)) → Ex rb none w w' → (∀ b, b < w.heap.size → rowOf ao ≠ some b → w'.heap[b]? = w.heap[b]?) → (rowOf ao' = rowOf ao ∨ rowOf ao' = some w.heap.size) → K (a.put o.dst (.slice ao' r cap')) w') : o.wp P a w K Q := by
  subst hr hn hm
  obtain ⟨i0, hi, hz0, hz1, hz2⟩ := info_parts hinfo
  obtain ⟨xs, rfl, h1, h2⟩ := hown
  have e1 : (xs.map (·.1)).length = xs.length := by simp
  rw [e1] at hs hlen h
  have key : ∀ so ad, so = some ad → a.eval u = .slice so ys.length sc → (∀ (j : Nat) (v : Value), (flatL stE ys)[j]? = some v → w.cell? (ad.add j) = some v) → o.wp P a w K Q := fun so ad e2 hu hc => by
    subst e2
    obtain ⟨v', w', hr, ho', hg, _, hnew⟩ := run_append_own_at (P := P) w rb t o.type 40 i0 _ 13 160 ht hi hz0 hz1 hz2 rfl (by decide) _ _ _ h1 ad ys.length sc (flatL stE ys) (flatL_len stE_len ys) hc (flatL_one one_stE ys) (by simp only [maxLen]; omega) (by omega) hbase
    obtain ⟨ao', cap', rfl⟩ := own_shape ho'
    have hrow : (Value.slice ao xs.length cap).ownBlock = rowOf ao := by cases ao <;> rfl
    have hrow' : (Value.slice ao' (xs.length + ys.length) cap').ownBlock = rowOf ao' := by cases ao' <;> rfl
    rw [hrow] at hg hnew
    rw [hrow'] at hnew
    have hkeep : ∀ y, Lies (fun b => base ≤ b ∧ rowOf ao ≠ some b) w y → Lies (fun b => base ≤ b ∧ rowOf ao' ≠ some b) w' y := fun y hy => by
      refine Lies.mono (P := fun b => (base ≤ b ∧ rowOf ao ≠ some b) ∧ b < w.heap.size) (Lies.keep (w := w) (hy.mono fun b hb hlt => ⟨hb, hlt⟩) fun b hb hlt => hg.block b hlt (fun e => hb.1.2 e.symm)) (fun b hb _ => ⟨hb.1.1, fun e => ?_⟩)
      rcases hb with ⟨⟨_, hb1⟩, hb2⟩
      rcases hnew with h0 | h0
      · exact hb1 (h0 ▸ e)
      · rw [e] at h0; cases h0; omega
    unfold Oper.wp execOp
    simp only [ho, resolve, invoke, builtin, Sem.run_bind, Sem.run_pure, Result.andThen_ok, List.map_toArray, List.map_cons, List.map_nil, hs, hu, hr]
    refine h ao' cap' w' ⟨xs ++ ys, by simp, ?_, fun y hy => ?_⟩ ?_ (fun b hb hne => hg.block b hb (fun e => hne e.symm)) hnew
    · unfold OwnE
      have e2 : flatL stE (xs ++ ys) = flatL stE xs ++ flatL stE ys := by simp [flatL]
      rw [e2, List.length_append]; exact ho'
    · simp only [List.mem_append] at hy
      rcases hy with hy | hy
      · exact hkeep y (h2 y hy)
      · exact hkeep y (hx y hy)
    · refine ⟨hg.os, hg.tape, hg.output, hg.size, fun k hk _ => hg.block k (by omega) (fun e => ?_)⟩
      cases ao with
      | none => cases e
      | some ad =>
        have := (h1.lt ad rfl).1
        simp [rowOf] at e
        omega
  rcases hsrc with h0 | ⟨ad, e2, hc⟩
  · have hy : ys = [] := List.eq_nil_of_length_eq_zero h0
    cases so with
    | some ad => exact key _ ad rfl hu (fun j v hv => by subst hy; simp [flatL] at hv)
    | none =>
      subst hy
      have hrun := run_append_none (P := P) (w := w) rb t o.type _ i0 13 ht hi _ _ sc _ h1
      unfold Oper.wp execOp
      simp only [ho, resolve, invoke, builtin, Sem.run_bind, Sem.run_pure, Result.andThen_ok, List.map_toArray, List.map_cons, List.map_nil, hs, hu, List.length_nil, hrun]
      exact h ao cap w ⟨xs, by simp, h1, h2⟩ (Ex.refl _ _ _) (fun _ _ _ => rfl) (.inl rfl)
  · exact key so ad e2 hu hc
/-- .. as a step of a region that draws its order. -/
theorem step_appT {P : Program} {w : World} {ops : Array Oper} {o : Oper} {a : Act} {K : Act → World → Prop} {Q : Exit → Act → World → Prop} {E : Prop} (hgd : o.guard = none) (s u : Operand) (t : TypeId)
    (ho : o.op = .call { callee := .builtin .append, args := #[s, u], argTypes := #[t, t] }) (ht : P.underlying t = some (.slice 40))
    (hinfo : (P.info? 40).map (fun i => (i.zero, i.size, i.bytes)) = some (some (.agg #[.int .i64 0, .int .i64 0, .string ⟨#[]⟩, .int .i64 0, .int .i64 0, .int .i64 0, .int .i64 0, .int .i64 0, .slice none 0 0, .slice none 0 0, .string ⟨#[]⟩, .int .i64 0, .string ⟨#[]⟩]), 13, 160))
    (rb base : Nat) (ao : Option Addr) (cap n : Nat) (l : List St) (hn : l.length = n) (hs : a.eval s = .slice ao n cap) (so : Option Addr) (m sc : Nat) (hu : a.eval u = .slice so m sc) (ys : List (St × Sv × Sv)) (hm : ys.length = m)
    (hown : OwnT w rb base ao cap l) (hsrc : Src w so ys) (hx : ∀ x ∈ ys, Lies (fun b => base ≤ b ∧ rowOf ao ≠ some b) w x) (hlen : n + m ≤ 10000000) (hbase : rb ≤ w.heap.size) (r : Nat) (hr : n + m = r)
    (h : ∀ ao' cap' w', OwnT w' rb base ao' cap' (l ++ ys.map (·.1)) → Ex rb none w w' → (∀ b, b < w.heap.size → rowOf ao ≠ some b → w'.heap[b]? = w.heap[b]?) → (rowOf ao' = rowOf ao ∨ rowOf ao' = some w.heap.size) → K (a.put o.dst (.slice ao' r cap')) w') :
    if Region.wanted o (yielded ops a.tmps) = true then o.wp P a w K Q else E := by
  rw [if_pos (show Region.wanted o (yielded ops a.tmps) = true by simp [Region.wanted, hgd])]
  exact wp_appT s u t ho ht hinfo rb base ao cap n l hn hs so m sc hu ys hm hown hsrc hx hlen hbase r hr h
/-- .. in a plain region. -/
theorem wpList_appT {P : Program} {w : World} {ops : Array Oper} {rest : List Oper} {o : Oper} {a : Act} {Q : Exit → Act → World → Prop} (hgd : o.guard = none) (s u : Operand) (t : TypeId)
    (ho : o.op = .call { callee := .builtin .append, args := #[s, u], argTypes := #[t, t] }) (ht : P.underlying t = some (.slice 40))
    (hinfo : (P.info? 40).map (fun i => (i.zero, i.size, i.bytes)) = some (some (.agg #[.int .i64 0, .int .i64 0, .string ⟨#[]⟩, .int .i64 0, .int .i64 0, .int .i64 0, .int .i64 0, .int .i64 0, .slice none 0 0, .slice none 0 0, .string ⟨#[]⟩, .int .i64 0, .string ⟨#[]⟩]), 13, 160))
    (rb base : Nat) (ao : Option Addr) (cap n : Nat) (l : List St) (hn : l.length = n) (hs : a.eval s = .slice ao n cap) (so : Option Addr) (m sc : Nat) (hu : a.eval u = .slice so m sc) (ys : List (St × Sv × Sv)) (hm : ys.length = m)
    (hown : OwnT w rb base ao cap l) (hsrc : Src w so ys) (hx : ∀ x ∈ ys, Lies (fun b => base ≤ b ∧ rowOf ao ≠ some b) w x) (hlen : n + m ≤ 10000000) (hbase : rb ≤ w.heap.size) (r : Nat) (hr : n + m = r)
    (h : ∀ ao' cap' w', OwnT w' rb base ao' cap' (l ++ ys.map (·.1)) → Ex rb none w w' → (∀ b, b < w.heap.size → rowOf ao ≠ some b → w'.heap[b]? = w.heap[b]?) → (rowOf ao' = rowOf ao ∨ rowOf ao' = some w.heap.size) → wpList P ops Q rest (a.put o.dst (.slice ao' r cap')) w') : wpList P ops Q (o :: rest) a w :=
  wpList_plain hgd fun _K hK => wp_appT s u t ho ht hinfo rb base ao cap n l hn hs so m sc hu ys hm hown hsrc hx hlen hbase r hr fun ao' cap' w' h1 h2 h3 h4 => hK _ _ (h ao' cap' w' h1 h2 h3 h4)
end Go.Proofs.Ytfllcohnfboccaa
