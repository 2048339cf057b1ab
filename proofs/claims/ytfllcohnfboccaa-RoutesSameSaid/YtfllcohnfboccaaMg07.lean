/- wire.put, Int, Text, Ints; slices.Clone at bytes: contracts, no statement of the seat. | bits.RotateLeft32 as digest.block calls it. No statement of the seat. -/
import Derived.Test.YtfllcohnfboccaaMg06
import Derived.Outline
import Derived.IntWalk
namespace Go.Proofs.Ytfllcohnfboccaa
open Go.RowKit Go.Sort

set_option maxHeartbeats 1000000 in
theorem cloneBytes_any {P : Nat → Prop} (v : Value) (xs : List UInt8) (w : World) (hv : Sl byRep P w v xs) (hm : xs.length ≤ 5000000) :
    Calls Try.prog 99 #[v] w fun e w' => ∃ ro rc, e = .returned (.slice ro xs.length rc) ∧ OwnB w' w.heap.size ro rc xs ∧ Ex w.heap.size none w w' := by
  have q : ∀ (w : World) (a : Option Addr) (n c n' c' : Nat), (binOp .eql 69 (.slice a n c) (.slice none n' c')).run Try.prog w = .ok (.bool a.isNone) w := fun w a n c n' c' => Lib.run_eql_slice_nil w _ _ a n c n' c' Try.underlying69
  obtain ⟨ao, cap, rfl, hx⟩ := hv
  cases ao with
  | none =>
    obtain rfl := sl_none hx
    go_enter Try.func99, Try.ntmps99
    go_wp2
    go_ret
    exact ⟨none, 0, rfl, OwnE.nil _ _ _ _ _, Ex.refl _ _ _⟩
  | some ad =>
    have HX := Lib.hid (val_cells (by decide) (hx.keep (w' := w.alloc (.cells #[] 5)) (by decide) (fun q _ hq => (Ex.new w _).block q hq (by simp))))
    have HN : Hid (OwnB (w.alloc (.cells #[] 5)) w.heap.size (some ⟨w.heap.size, 0, none⟩) 0 []) := World.ownsRow_lit w #[] 0 (Nat.le_refl _) (by decide) rfl
    clear hx
    go_enter Try.func99, Try.ntmps99
    go_wp2_with (at_builtin; refine wpList_appE2 rfl (.tmp 5) (.tmp 6) _ 5 (by rfl) Try.underlying69 _ 1 1 Try.infoB rfl (by decide) (by decide) byE byE_len one_byE w.heap.size (some ⟨w.heap.size, 0, none⟩) 0 0 [] rfl (by rfl) (some ad) xs.length cap (by rfl) xs rfl HN.out HX.out (by omega) (by simp) xs.length (by omega) ?_; intro ro rc w1 hown hex _ _)
    go_ret
    exact ⟨ro, rc, rfl, hown, (Ex.new w (.cells #[] 5)).trans hex (Nat.le_refl _) (by simp)⟩

set_option maxHeartbeats 4000000 in
theorem put_any (base : Nat) (ao : Option Addr) (cap : Nat) (xs : List UInt8) (n : Int) (w : World) (hown : OwnB w base ao cap xs) (hbase : base ≤ w.heap.size) (hm : xs.length ≤ 5000000) :
    Calls Try.prog 98 #[.slice ao xs.length cap, .int .i64 n] w fun e w' => ∃ ro rc, e = .returned (.slice ro (xs.length + 8) rc) ∧ OwnB w' base ro rc (xs ++ int8 n) ∧ Ex base none w w' := by
  have HO0 := Lib.hid hown
  clear hown
  obtain ⟨m, hml⟩ : ∃ m, m = xs.length := ⟨_, rfl⟩
  have HML := Lib.hid hml
  rw [← hml] at hm ⊢
  clear hml
  go_enter Try.func98, Try.ntmps98
  go_wp2_with fail
  go_loopw [0, 5] (fun v i wr => ∃ (k : Nat) (ro : Option Addr) (rc : Nat), k ≤ 8 ∧ i = .int .i64 (56 - 8 * (k : Int)) ∧ v = .slice ro (m + k) rc ∧ base ≤ wr.heap.size ∧ OwnB wr base ro rc (xs ++ (int8 n).take k) ∧ Ex base none w wr) (fun _ i _ => (intOf i + 8).toNat)
  case atStart => exact ⟨0, ao, cap, by omega, rfl, rfl, hbase, by simpa using HO0.out, Ex.refl _ _ _⟩
  case round =>
    obtain ⟨k, ro, rc, hk, rfl, rfl, hsz, hown, hex⟩ := hrel
    have HO := Lib.hid hown
    have HE := Lib.hid hex
    clear hown hex
    rcases (by omega : k = 0 ∨ k = 1 ∨ k = 2 ∨ k = 3 ∨ k = 4 ∨ k = 5 ∨ k = 6 ∨ k = 7 ∨ k = 8) with rfl | rfl | rfl | rfl | rfl | rfl | rfl | rfl | rfl
    · go_wp2_with (at_builtin; refine wpList_appE2 rfl (.tmp 10) (.tmp 17) _ 5 (by rfl) Try.underlying69 _ 1 1 Try.infoB rfl (by decide) (by decide) byE byE_len one_byE base ro rc m (xs ++ (int8 n).take 0) (by rw [List.length_append, ← HML.out]; rfl) (by rfl) (some ⟨wr.heap.size, 0, none⟩) 1 1 (by rfl) [by8 (n / 72057594037927936)] rfl (HO.out.keep (Ex.new wr _) (Nat.le_refl _) (by simp)) (lit_cells (by simp [byE, by8_toNat, IntKind.wrap_u64] <;> omega)) (by omega) (by simp; omega) (m + 1) (by omega) ?_; intro ro2 rc2 w1 hown hex _ _)
      have HO2 : Hid (OwnB w1 base ro2 rc2 (xs ++ (int8 n).take 1)) := by
        have h : OwnB w1 base ro2 rc2 (xs ++ (int8 n).take 0 ++ [by8 (n / 72057594037927936)]) := hown
        rw [List.append_assoc] at h; exact h
      have HE2 : Hid (Ex base none w w1) := (HE.out.trans (Ex.new wr _) (by omega) (by simp)).trans hex (Nat.le_refl _) (by simp)
      have hz2 : base ≤ w1.heap.size := by have := HE2.out.size; omega
      clear hown hex
      go_roundw
      case rel => exact ⟨1, ro2, rc2, by omega, by first | rfl | go_num, rfl, hz2, HO2.out, HE2.out⟩
      case measure => simp [intOf]
    · go_wp2_with (at_builtin; refine wpList_appE2 rfl (.tmp 10) (.tmp 17) _ 5 (by rfl) Try.underlying69 _ 1 1 Try.infoB rfl (by decide) (by decide) byE byE_len one_byE base ro rc (m + 1) (xs ++ (int8 n).take 1) (by rw [List.length_append, ← HML.out]; rfl) (by rfl) (some ⟨wr.heap.size, 0, none⟩) 1 1 (by rfl) [by8 (n / 281474976710656)] rfl (HO.out.keep (Ex.new wr _) (Nat.le_refl _) (by simp)) (lit_cells (by simp [byE, by8_toNat, IntKind.wrap_u64] <;> omega)) (by omega) (by simp; omega) (m + 2) (by omega) ?_; intro ro2 rc2 w1 hown hex _ _)
      have HO2 : Hid (OwnB w1 base ro2 rc2 (xs ++ (int8 n).take 2)) := by
        have h : OwnB w1 base ro2 rc2 (xs ++ (int8 n).take 1 ++ [by8 (n / 281474976710656)]) := hown
        rw [List.append_assoc] at h; exact h
      have HE2 : Hid (Ex base none w w1) := (HE.out.trans (Ex.new wr _) (by omega) (by simp)).trans hex (Nat.le_refl _) (by simp)
      have hz2 : base ≤ w1.heap.size := by have := HE2.out.size; omega
      clear hown hex
      go_roundw
      case rel => exact ⟨2, ro2, rc2, by omega, by first | rfl | go_num, rfl, hz2, HO2.out, HE2.out⟩
      case measure => simp [intOf]
    · go_wp2_with (at_builtin; refine wpList_appE2 rfl (.tmp 10) (.tmp 17) _ 5 (by rfl) Try.underlying69 _ 1 1 Try.infoB rfl (by decide) (by decide) byE byE_len one_byE base ro rc (m + 2) (xs ++ (int8 n).take 2) (by rw [List.length_append, ← HML.out]; rfl) (by rfl) (some ⟨wr.heap.size, 0, none⟩) 1 1 (by rfl) [by8 (n / 1099511627776)] rfl (HO.out.keep (Ex.new wr _) (Nat.le_refl _) (by simp)) (lit_cells (by simp [byE, by8_toNat, IntKind.wrap_u64] <;> omega)) (by omega) (by simp; omega) (m + 3) (by omega) ?_; intro ro2 rc2 w1 hown hex _ _)
      have HO2 : Hid (OwnB w1 base ro2 rc2 (xs ++ (int8 n).take 3)) := by
        have h : OwnB w1 base ro2 rc2 (xs ++ (int8 n).take 2 ++ [by8 (n / 1099511627776)]) := hown
        rw [List.append_assoc] at h; exact h
      have HE2 : Hid (Ex base none w w1) := (HE.out.trans (Ex.new wr _) (by omega) (by simp)).trans hex (Nat.le_refl _) (by simp)
      have hz2 : base ≤ w1.heap.size := by have := HE2.out.size; omega
      clear hown hex
      go_roundw
      case rel => exact ⟨3, ro2, rc2, by omega, by first | rfl | go_num, rfl, hz2, HO2.out, HE2.out⟩
      case measure => simp [intOf]
    · go_wp2_with (at_builtin; refine wpList_appE2 rfl (.tmp 10) (.tmp 17) _ 5 (by rfl) Try.underlying69 _ 1 1 Try.infoB rfl (by decide) (by decide) byE byE_len one_byE base ro rc (m + 3) (xs ++ (int8 n).take 3) (by rw [List.length_append, ← HML.out]; rfl) (by rfl) (some ⟨wr.heap.size, 0, none⟩) 1 1 (by rfl) [by8 (n / 4294967296)] rfl (HO.out.keep (Ex.new wr _) (Nat.le_refl _) (by simp)) (lit_cells (by simp [byE, by8_toNat, IntKind.wrap_u64] <;> omega)) (by omega) (by simp; omega) (m + 4) (by omega) ?_; intro ro2 rc2 w1 hown hex _ _)
      have HO2 : Hid (OwnB w1 base ro2 rc2 (xs ++ (int8 n).take 4)) := by
        have h : OwnB w1 base ro2 rc2 (xs ++ (int8 n).take 3 ++ [by8 (n / 4294967296)]) := hown
        rw [List.append_assoc] at h; exact h
      have HE2 : Hid (Ex base none w w1) := (HE.out.trans (Ex.new wr _) (by omega) (by simp)).trans hex (Nat.le_refl _) (by simp)
      have hz2 : base ≤ w1.heap.size := by have := HE2.out.size; omega
      clear hown hex
      go_roundw
      case rel => exact ⟨4, ro2, rc2, by omega, by first | rfl | go_num, rfl, hz2, HO2.out, HE2.out⟩
      case measure => simp [intOf]
    · go_wp2_with (at_builtin; refine wpList_appE2 rfl (.tmp 10) (.tmp 17) _ 5 (by rfl) Try.underlying69 _ 1 1 Try.infoB rfl (by decide) (by decide) byE byE_len one_byE base ro rc (m + 4) (xs ++ (int8 n).take 4) (by rw [List.length_append, ← HML.out]; rfl) (by rfl) (some ⟨wr.heap.size, 0, none⟩) 1 1 (by rfl) [by8 (n / 16777216)] rfl (HO.out.keep (Ex.new wr _) (Nat.le_refl _) (by simp)) (lit_cells (by simp [byE, by8_toNat, IntKind.wrap_u64] <;> omega)) (by omega) (by simp; omega) (m + 5) (by omega) ?_; intro ro2 rc2 w1 hown hex _ _)
      have HO2 : Hid (OwnB w1 base ro2 rc2 (xs ++ (int8 n).take 5)) := by
        have h : OwnB w1 base ro2 rc2 (xs ++ (int8 n).take 4 ++ [by8 (n / 16777216)]) := hown
        rw [List.append_assoc] at h; exact h
      have HE2 : Hid (Ex base none w w1) := (HE.out.trans (Ex.new wr _) (by omega) (by simp)).trans hex (Nat.le_refl _) (by simp)
      have hz2 : base ≤ w1.heap.size := by have := HE2.out.size; omega
      clear hown hex
      go_roundw
      case rel => exact ⟨5, ro2, rc2, by omega, by first | rfl | go_num, rfl, hz2, HO2.out, HE2.out⟩
      case measure => simp [intOf]
    · go_wp2_with (at_builtin; refine wpList_appE2 rfl (.tmp 10) (.tmp 17) _ 5 (by rfl) Try.underlying69 _ 1 1 Try.infoB rfl (by decide) (by decide) byE byE_len one_byE base ro rc (m + 5) (xs ++ (int8 n).take 5) (by rw [List.length_append, ← HML.out]; rfl) (by rfl) (some ⟨wr.heap.size, 0, none⟩) 1 1 (by rfl) [by8 (n / 65536)] rfl (HO.out.keep (Ex.new wr _) (Nat.le_refl _) (by simp)) (lit_cells (by simp [byE, by8_toNat, IntKind.wrap_u64] <;> omega)) (by omega) (by simp; omega) (m + 6) (by omega) ?_; intro ro2 rc2 w1 hown hex _ _)
      have HO2 : Hid (OwnB w1 base ro2 rc2 (xs ++ (int8 n).take 6)) := by
        have h : OwnB w1 base ro2 rc2 (xs ++ (int8 n).take 5 ++ [by8 (n / 65536)]) := hown
        rw [List.append_assoc] at h; exact h
      have HE2 : Hid (Ex base none w w1) := (HE.out.trans (Ex.new wr _) (by omega) (by simp)).trans hex (Nat.le_refl _) (by simp)
      have hz2 : base ≤ w1.heap.size := by have := HE2.out.size; omega
      clear hown hex
      go_roundw
      case rel => exact ⟨6, ro2, rc2, by omega, by first | rfl | go_num, rfl, hz2, HO2.out, HE2.out⟩
      case measure => simp [intOf]
    · go_wp2_with (at_builtin; refine wpList_appE2 rfl (.tmp 10) (.tmp 17) _ 5 (by rfl) Try.underlying69 _ 1 1 Try.infoB rfl (by decide) (by decide) byE byE_len one_byE base ro rc (m + 6) (xs ++ (int8 n).take 6) (by rw [List.length_append, ← HML.out]; rfl) (by rfl) (some ⟨wr.heap.size, 0, none⟩) 1 1 (by rfl) [by8 (n / 256)] rfl (HO.out.keep (Ex.new wr _) (Nat.le_refl _) (by simp)) (lit_cells (by simp [byE, by8_toNat, IntKind.wrap_u64] <;> omega)) (by omega) (by simp; omega) (m + 7) (by omega) ?_; intro ro2 rc2 w1 hown hex _ _)
      have HO2 : Hid (OwnB w1 base ro2 rc2 (xs ++ (int8 n).take 7)) := by
        have h : OwnB w1 base ro2 rc2 (xs ++ (int8 n).take 6 ++ [by8 (n / 256)]) := hown
        rw [List.append_assoc] at h; exact h
      have HE2 : Hid (Ex base none w w1) := (HE.out.trans (Ex.new wr _) (by omega) (by simp)).trans hex (Nat.le_refl _) (by simp)
      have hz2 : base ≤ w1.heap.size := by have := HE2.out.size; omega
      clear hown hex
      go_roundw
      case rel => exact ⟨7, ro2, rc2, by omega, by first | rfl | go_num, rfl, hz2, HO2.out, HE2.out⟩
      case measure => simp [intOf]
    · go_wp2_with (at_builtin; refine wpList_appE2 rfl (.tmp 10) (.tmp 17) _ 5 (by rfl) Try.underlying69 _ 1 1 Try.infoB rfl (by decide) (by decide) byE byE_len one_byE base ro rc (m + 7) (xs ++ (int8 n).take 7) (by rw [List.length_append, ← HML.out]; rfl) (by rfl) (some ⟨wr.heap.size, 0, none⟩) 1 1 (by rfl) [by8 (n)] rfl (HO.out.keep (Ex.new wr _) (Nat.le_refl _) (by simp)) (lit_cells (by simp [byE, by8_toNat, IntKind.wrap_u64] <;> omega)) (by omega) (by simp; omega) (m + 8) (by omega) ?_; intro ro2 rc2 w1 hown hex _ _)
      have HO2 : Hid (OwnB w1 base ro2 rc2 (xs ++ (int8 n).take 8)) := by
        have h : OwnB w1 base ro2 rc2 (xs ++ (int8 n).take 7 ++ [by8 (n)]) := hown
        rw [List.append_assoc] at h; exact h
      have HE2 : Hid (Ex base none w w1) := (HE.out.trans (Ex.new wr _) (by omega) (by simp)).trans hex (Nat.le_refl _) (by simp)
      have hz2 : base ≤ w1.heap.size := by have := HE2.out.size; omega
      clear hown hex
      go_roundw
      case rel => exact ⟨8, ro2, rc2, by omega, by first | rfl | go_num, rfl, hz2, HO2.out, HE2.out⟩
      case measure => simp [intOf]
    · go_wp2
      go_ret
      exact ⟨ro, rc, rfl, HO.out, HE.out⟩

set_option maxHeartbeats 1000000 in
theorem int_any {P : Nat → Prop} (v : Value) (xs : List UInt8) (n : Int) (w : World) (hv : Sl byRep P w v xs) (hm : xs.length ≤ 5000000) :
    Calls Try.prog 67 #[v, .int .i64 n] w fun e w' => ∃ ro rc, e = .returned (.slice ro (xs.length + 8) rc) ∧ OwnB w' w.heap.size ro rc (xs ++ int8 n) ∧ Ex w.heap.size none w w' := by
  have HV := Lib.hid hv
  clear hv
  go_enter Try.func67, Try.ntmps67
  go_wp2_with (first
    | (go_at_call 99
       refine (cloneBytes_any v xs w HV.out hm).mono ?_
       rintro e w1 ⟨r1, c1, rfl, hown, hex⟩
       have H1 : Hid (OwnB w1 w.heap.size r1 c1 xs ∧ Ex w.heap.size none w w1) := Lib.hid ⟨hown, hex⟩
       have hz1 : w.heap.size ≤ w1.heap.size := hex.size
       clear hown hex)
    | (go_at_call 98
       refine (put_any w.heap.size r1 c1 xs n w1 H1.out.1 hz1 hm).mono ?_
       rintro e w2 ⟨r2, c2, rfl, hown, hex⟩
       have H2 : Hid (OwnB w2 w.heap.size r2 c2 (xs ++ int8 n) ∧ Ex w.heap.size none w w2) := Lib.hid ⟨hown, H1.out.2.trans hex (Nat.le_refl _) (by simp)⟩
       clear hown hex)
    | fail)
  go_ret
  exact ⟨r2, c2, rfl, H2.out.1, H2.out.2⟩

set_option maxHeartbeats 1000000 in
theorem text_any {P : Nat → Prop} (v : Value) (xs : List UInt8) (s : ByteArray) (w : World) (hv : Sl byRep P w v xs) (hm : xs.length ≤ 4000000) (hs : s.size ≤ 1000000) :
    Calls Try.prog 68 #[v, .string s] w fun e w' => ∃ ro rc, e = .returned (.slice ro (xs.length + 8 + s.size) rc) ∧ OwnB w' w.heap.size ro rc (xs ++ int8 s.size ++ strL s) ∧ Ex w.heap.size none w w' := by
  have HV := Lib.hid hv
  clear hv
  go_enter Try.func68, Try.ntmps68
  go_wp2_with fail
  refine (int_any v xs s.size w HV.out (by omega)).mono ?_
  rintro e w1 ⟨ro, rc, rfl, hown, hex⟩
  have HO := Lib.hid hown
  have HE := Lib.hid hex
  have hz := hex.size
  clear hown hex
  go_wp2_with (at_builtin; refine wpList_appB_str rfl (.tmp 8) (.tmp 9) _ _ (by rfl) Try.underlying69 Try.underlying9 Try.infoB w.heap.size ro rc (xs.length + 8) (xs ++ int8 s.size) (by rw [List.length_append]; rfl) (by rfl) s (by rfl) HO.out (by omega) hz ?_; intro ro2 rc2 w2 hown2 hex2)
  go_ret
  exact ⟨ro2, rc2, rfl, hown2, HE.out.trans hex2 (Nat.le_refl _) (by simp)⟩

set_option maxHeartbeats 1000000 in
theorem ints_any {P : Nat → Prop} (v u : Value) (xs : List UInt8) (l : List Int) (w : World) (hv : Sl byRep P w v xs) (hu : Ints w u l) (hm : xs.length ≤ 3000000) (hl : l.length ≤ 100000) :
    Calls Try.prog 141 #[v, u] w fun e w' => ∃ ro rc, e = .returned (.slice ro (xs.length + 8 + l.length * 8) rc) ∧ OwnB w' w.heap.size ro rc (xs ++ int8 l.length ++ intsB l) ∧ Ex w.heap.size none w w' := by
  obtain ⟨ao, cap, rfl, hx⟩ := hu
  have HV := Lib.hid hv
  have HX := Lib.hid hx
  clear hv hx
  go_enter Try.func141, Try.ntmps141
  go_wp2_with fail
  refine (int_any v xs l.length w HV.out (by omega)).mono ?_
  rintro e w1 ⟨ro, rc, rfl, hown, hex⟩
  have HO := Lib.hid hown
  have HE := Lib.hid hex
  clear hown hex
  go_wp2_with fail
  go_loopw [5, 7, 14] (fun v u i wr => ∃ (k : Nat) (ro : Option Addr) (rc : Nat), k ≤ l.length ∧ i = .int .i64 k ∧ v = .slice ro (xs.length + 8 + k * 8) rc ∧ OwnB wr w.heap.size ro rc (xs ++ int8 l.length ++ intsB (l.take k)) ∧ Ex w.heap.size none w wr) (fun _ _ i _ => l.length - (intOf i).toNat)
  case atStart => exact ⟨0, ro, rc, by omega, rfl, by rw [Nat.zero_mul, Nat.add_zero], by simpa [intsB] using HO.out, HE.out⟩
  case round =>
    obtain ⟨k, ro, rc, hk, rfl, rfl, hown, hex⟩ := hrel
    have hsz := hex.size
    by_cases hlt : k < l.length
    · obtain ⟨b, off, y, rfl, hc, HY⟩ := (HX.out.keep hex (Nat.le_refl _) (by simp)).get k hlt
      have HK : Hid (intsB (l.take (k + 1)) = intsB (l.take k) ++ int8 y) := (show _ = _ by
        have h := HY.out
        rw [List.getD_eq_getElem?_getD, List.getElem?_eq_getElem hlt] at h
        simp only [Option.getD_some] at h
        rw [List.take_add_one, List.getElem?_eq_getElem hlt, h]
        simp [intsB])
      have HTL : Hid ((intsB (l.take k)).length = k * 8) := (show _ = _ by rw [intsB_len]; simp; omega)
      obtain ⟨ys, hys⟩ : ∃ ys, ys = xs ++ int8 l.length ++ intsB (l.take k) := ⟨_, rfl⟩
      have HL : Hid (ys.length = xs.length + 8 + k * 8) := (show _ = _ by rw [hys, List.length_append, List.length_append, HTL.out, int8_len])
      have HYS := Lib.hid hys
      rw [← hys] at hown
      have HO := Lib.hid hown
      have HE := Lib.hid hex
      clear hown hex hys
      have HPC : Hid (Calls Try.prog 98 #[.slice ro (xs.length + 8 + k * 8) rc, .int .i64 y] wr fun e w' => ∃ r2 c2, e = .returned (.slice r2 (xs.length + 8 + k * 8 + 8) c2) ∧ OwnB w' w.heap.size r2 c2 (ys ++ int8 y) ∧ Ex w.heap.size none wr w') := Lib.hid (by
        have h := put_any w.heap.size ro rc ys y wr HO.out hsz (by rw [HL.out]; omega)
        rw [HL.out] at h
        exact h)
      go_wp2_with (go_at_call 98
                   refine HPC.out.mono ?_
                   rintro e w2 ⟨ro2, rc2, rfl, hown2, hex2⟩
                   have HO2 : Hid (OwnB w2 w.heap.size ro2 rc2 (ys ++ int8 y)) := hown2
                   have HE2 := Lib.hid hex2
                   clear hown2 hex2)
      go_roundw
      case rel => exact ⟨k + 1, ro2, rc2, by omega, by go_num, by rw [Nat.add_mul]; rfl, by rw [HK.out, ← List.append_assoc, ← HYS.out]; exact HO2.out, HE.out.trans HE2.out (Nat.le_refl _) (by simp)⟩
      case measure => simp [intOf] <;> omega
    · obtain rfl : k = l.length := by omega
      rw [List.take_length] at hown
      go_wp2
      go_ret
      exact ⟨ro, rc, rfl, hown, hex⟩
end Go.Proofs.Ytfllcohnfboccaa

namespace Go.Proofs.Ytfllcohnfboccaa
open Go.RowKit Go.Sort

theorem u_turnL (x : UInt32) (m : Nat) (h1 : 1 ≤ m) (h2 : m ≤ 31) : bits .or .u32 ((x.toNat : Int) * 2 ^ m % 4294967296) ((x.toNat : Int) / 2 ^ (32 - m)) = ((turnU x (32 - m)).toNat : Int) := by
  rw [u_shl x m (by omega), u_shr x (32 - m) (by omega), u_or, UInt32.or_comm]
  unfold turnU
  rw [show 32 - (32 - m) = m by omega]
set_option maxHeartbeats 1000000 in
theorem rot_any (x : UInt32) (z : Int) (m : Nat) (hz : bits .and .u64 (IntKind.u64.wrap z) 31 = (m : Int)) (h1 : 1 ≤ m) (h2 : m ≤ 31) (w : World) : Calls Try.prog 123 #[.int .u32 x.toNat, .int .i64 z] w fun e w' => e = .returned (.int .u32 (turnU x (32 - m)).toNat) ∧ w = w' := by
  go_enter Try.func123, Try.ntmps123
  go_wp2
  go_ret
  exact ⟨by rw [u_turnL x m h1 h2]; rfl, rfl⟩
set_option maxHeartbeats 1000000 in
theorem turnP_any (x : UInt32) (z : Int) (hb : z ∈ [2, 6, 7, 11, 13, 17, 18, 19, 22, 25]) (w : World) : Calls Try.prog 122 #[.int .u32 x.toNat, .int .i64 z] w fun e w' => e = .returned (.int .u32 (turnU x z.toNat).toNat) ∧ w = w' := by
  obtain ⟨m, hm, h1, h2, h3, hzb⟩ : ∃ m : Nat, bits .and .u64 (IntKind.u64.wrap (-z)) 31 = (m : Int) ∧ 1 ≤ m ∧ m ≤ 31 ∧ 32 - m = z.toNat ∧ (0 ≤ z ∧ z ≤ 31) := by
    simp only [List.mem_cons, List.not_mem_nil, or_false] at hb
    rcases hb with rfl | rfl | rfl | rfl | rfl | rfl | rfl | rfl | rfl | rfl
    · exact ⟨30, by decide, by omega, by omega, rfl, by omega⟩
    · exact ⟨26, by decide, by omega, by omega, rfl, by omega⟩
    · exact ⟨25, by decide, by omega, by omega, rfl, by omega⟩
    · exact ⟨21, by decide, by omega, by omega, rfl, by omega⟩
    · exact ⟨19, by decide, by omega, by omega, rfl, by omega⟩
    · exact ⟨15, by decide, by omega, by omega, rfl, by omega⟩
    · exact ⟨14, by decide, by omega, by omega, rfl, by omega⟩
    · exact ⟨13, by decide, by omega, by omega, rfl, by omega⟩
    · exact ⟨10, by decide, by omega, by omega, rfl, by omega⟩
    · exact ⟨7, by decide, by omega, by omega, rfl, by omega⟩
  have hw : IntKind.i64.wrap (-z) = -z := IntWalk.i64_in _ (by omega)
  clear hb
  go_enter Try.func122, Try.ntmps122
  go_wp2_with (go_at_call 123; refine (rot_any x (-z) m hm h1 h2 _).mono ?_; rw [h3]; rintro e w' ⟨rfl, rfl⟩)
  go_ret
  exact ⟨rfl, rfl⟩
end Go.Proofs.Ytfllcohnfboccaa
