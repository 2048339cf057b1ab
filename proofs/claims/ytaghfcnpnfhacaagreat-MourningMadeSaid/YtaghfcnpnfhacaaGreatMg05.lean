/- wire.put, Int, Text, Ints; slices.Clone at bytes: contracts, no statement of the seat. | bits.RotateLeft32 as digest.block calls it. No statement of the seat. | Numbers in their cells, by value. No statement of the seat. | mourning.voices at whatever votes. No statement of the seat. | Lists of numbers as what append takes and gives. No statement of the seat. | Dice.Of, Bytes, Digest of the made inputs: contracts, no statement of the seat. -/
import Derived.Test.YtaghfcnpnfhacaaGreatMg04
import Derived.Outline
import Derived.IntWalk
import Derived.Test.YtaghfcnpnfhacaaGreatMg01
import Derived.Test.YtaghfcnpnfhacaaGreatMg00
import Derived.Maps.OwnOps
import Derived.Deep.RegionLawGrows
import Derived.Test.YtaghfcnpnfhacaaGreatMg03
namespace Go.Proofs.YtaghfcnpnfhacaaGreat
open Go.RowKit Go.Sort

set_option maxHeartbeats 1000000 in
theorem cloneBytes_any {P : Nat → Prop} (v : Value) (xs : List UInt8) (w : World) (hv : Sl byRep P w v xs) (hm : xs.length ≤ 5000000) :
    Calls Tryz.prog 305 #[v] w fun e w' => ∃ ro rc, e = .returned (.slice ro xs.length rc) ∧ OwnB w' w.heap.size ro rc xs ∧ Ex w.heap.size none w w' := by
  have q : ∀ (w : World) (a : Option Addr) (n c n' c' : Nat), (binOp .eql 51 (.slice a n c) (.slice none n' c')).run Tryz.prog w = .ok (.bool a.isNone) w := fun w a n c n' c' => Lib.run_eql_slice_nil w _ _ a n c n' c' Tryz.underlying51
  obtain ⟨ao, cap, rfl, hx⟩ := hv
  cases ao with
  | none =>
    obtain rfl := sl_none hx
    go_enter Tryz.func305, Tryz.ntmps305
    go_wp2
    go_ret
    exact ⟨none, 0, rfl, OwnE.nil _ _ _ _ _, Ex.refl _ _ _⟩
  | some ad =>
    have HX := Lib.hid (val_cells (by decide) (hx.keep (w' := w.alloc (.cells #[] 5)) (by decide) (fun q _ hq => (Ex.new w _).block q hq (by simp))))
    have HN : Hid (OwnB (w.alloc (.cells #[] 5)) w.heap.size (some ⟨w.heap.size, 0, none⟩) 0 []) := World.ownsRow_lit w #[] 0 (Nat.le_refl _) (by decide) rfl
    clear hx
    go_enter Tryz.func305, Tryz.ntmps305
    go_wp2_with (at_builtin; refine wpList_appE2 rfl (.tmp 5) (.tmp 6) _ 5 (by rfl) Tryz.underlying51 _ 1 1 Tryz.infoB rfl (by decide) (by decide) byE byE_len one_byE w.heap.size (some ⟨w.heap.size, 0, none⟩) 0 0 [] rfl (by rfl) (some ad) xs.length cap (by rfl) xs rfl HN.out HX.out (by omega) (by simp) xs.length (by omega) ?_; intro ro rc w1 hown hex _ _)
    go_ret
    exact ⟨ro, rc, rfl, hown, (Ex.new w (.cells #[] 5)).trans hex (Nat.le_refl _) (by simp)⟩

set_option maxHeartbeats 4000000 in
theorem put_any (base : Nat) (ao : Option Addr) (cap : Nat) (xs : List UInt8) (n : Int) (w : World) (hown : OwnB w base ao cap xs) (hbase : base ≤ w.heap.size) (hm : xs.length ≤ 5000000) :
    Calls Tryz.prog 304 #[.slice ao xs.length cap, .int .i64 n] w fun e w' => ∃ ro rc, e = .returned (.slice ro (xs.length + 8) rc) ∧ OwnB w' base ro rc (xs ++ int8 n) ∧ Ex base none w w' := by
  have HO0 := Lib.hid hown
  clear hown
  obtain ⟨m, hml⟩ : ∃ m, m = xs.length := ⟨_, rfl⟩
  have HML := Lib.hid hml
  rw [← hml] at hm ⊢
  clear hml
  go_enter Tryz.func304, Tryz.ntmps304
  go_wp2_with fail
  go_loopw [0, 5] (fun v i wr => ∃ (k : Nat) (ro : Option Addr) (rc : Nat), k ≤ 8 ∧ i = .int .i64 (56 - 8 * (k : Int)) ∧ v = .slice ro (m + k) rc ∧ base ≤ wr.heap.size ∧ OwnB wr base ro rc (xs ++ (int8 n).take k) ∧ Ex base none w wr) (fun _ i _ => (intOf i + 8).toNat)
  case atStart => exact ⟨0, ao, cap, by omega, rfl, rfl, hbase, by simpa using HO0.out, Ex.refl _ _ _⟩
  case round =>
    obtain ⟨k, ro, rc, hk, rfl, rfl, hsz, hown, hex⟩ := hrel
    have HO := Lib.hid hown
    have HE := Lib.hid hex
    clear hown hex
    rcases (by omega : k = 0 ∨ k = 1 ∨ k = 2 ∨ k = 3 ∨ k = 4 ∨ k = 5 ∨ k = 6 ∨ k = 7 ∨ k = 8) with rfl | rfl | rfl | rfl | rfl | rfl | rfl | rfl | rfl
    · go_wp2_with (at_builtin; refine wpList_appE2 rfl (.tmp 10) (.tmp 17) _ 5 (by rfl) Tryz.underlying51 _ 1 1 Tryz.infoB rfl (by decide) (by decide) byE byE_len one_byE base ro rc m (xs ++ (int8 n).take 0) (by rw [List.length_append, ← HML.out]; rfl) (by rfl) (some ⟨wr.heap.size, 0, none⟩) 1 1 (by rfl) [by8 (n / 72057594037927936)] rfl (HO.out.keep (Ex.new wr _) (Nat.le_refl _) (by simp)) (lit_cells (by simp [byE, by8_toNat, IntKind.wrap_u64] <;> omega)) (by omega) (by simp; omega) (m + 1) (by omega) ?_; intro ro2 rc2 w1 hown hex _ _)
      have HO2 : Hid (OwnB w1 base ro2 rc2 (xs ++ (int8 n).take 1)) := by
        have h : OwnB w1 base ro2 rc2 (xs ++ (int8 n).take 0 ++ [by8 (n / 72057594037927936)]) := hown
        rw [List.append_assoc] at h; exact h
      have HE2 : Hid (Ex base none w w1) := (HE.out.trans (Ex.new wr _) (by omega) (by simp)).trans hex (Nat.le_refl _) (by simp)
      have hz2 : base ≤ w1.heap.size := by have := HE2.out.size; omega
      clear hown hex
      go_roundw
      case rel => exact ⟨1, ro2, rc2, by omega, by first | rfl | go_num, rfl, hz2, HO2.out, HE2.out⟩
      case measure => simp [intOf]
    · go_wp2_with (at_builtin; refine wpList_appE2 rfl (.tmp 10) (.tmp 17) _ 5 (by rfl) Tryz.underlying51 _ 1 1 Tryz.infoB rfl (by decide) (by decide) byE byE_len one_byE base ro rc (m + 1) (xs ++ (int8 n).take 1) (by rw [List.length_append, ← HML.out]; rfl) (by rfl) (some ⟨wr.heap.size, 0, none⟩) 1 1 (by rfl) [by8 (n / 281474976710656)] rfl (HO.out.keep (Ex.new wr _) (Nat.le_refl _) (by simp)) (lit_cells (by simp [byE, by8_toNat, IntKind.wrap_u64] <;> omega)) (by omega) (by simp; omega) (m + 2) (by omega) ?_; intro ro2 rc2 w1 hown hex _ _)
      have HO2 : Hid (OwnB w1 base ro2 rc2 (xs ++ (int8 n).take 2)) := by
        have h : OwnB w1 base ro2 rc2 (xs ++ (int8 n).take 1 ++ [by8 (n / 281474976710656)]) := hown
        rw [List.append_assoc] at h; exact h
      have HE2 : Hid (Ex base none w w1) := (HE.out.trans (Ex.new wr _) (by omega) (by simp)).trans hex (Nat.le_refl _) (by simp)
      have hz2 : base ≤ w1.heap.size := by have := HE2.out.size; omega
      clear hown hex
      go_roundw
      case rel => exact ⟨2, ro2, rc2, by omega, by first | rfl | go_num, rfl, hz2, HO2.out, HE2.out⟩
      case measure => simp [intOf]
    · go_wp2_with (at_builtin; refine wpList_appE2 rfl (.tmp 10) (.tmp 17) _ 5 (by rfl) Tryz.underlying51 _ 1 1 Tryz.infoB rfl (by decide) (by decide) byE byE_len one_byE base ro rc (m + 2) (xs ++ (int8 n).take 2) (by rw [List.length_append, ← HML.out]; rfl) (by rfl) (some ⟨wr.heap.size, 0, none⟩) 1 1 (by rfl) [by8 (n / 1099511627776)] rfl (HO.out.keep (Ex.new wr _) (Nat.le_refl _) (by simp)) (lit_cells (by simp [byE, by8_toNat, IntKind.wrap_u64] <;> omega)) (by omega) (by simp; omega) (m + 3) (by omega) ?_; intro ro2 rc2 w1 hown hex _ _)
      have HO2 : Hid (OwnB w1 base ro2 rc2 (xs ++ (int8 n).take 3)) := by
        have h : OwnB w1 base ro2 rc2 (xs ++ (int8 n).take 2 ++ [by8 (n / 1099511627776)]) := hown
        rw [List.append_assoc] at h; exact h
      have HE2 : Hid (Ex base none w w1) := (HE.out.trans (Ex.new wr _) (by omega) (by simp)).trans hex (Nat.le_refl _) (by simp)
      have hz2 : base ≤ w1.heap.size := by have := HE2.out.size; omega
      clear hown hex
      go_roundw
      case rel => exact ⟨3, ro2, rc2, by omega, by first | rfl | go_num, rfl, hz2, HO2.out, HE2.out⟩
      case measure => simp [intOf]
    · go_wp2_with (at_builtin; refine wpList_appE2 rfl (.tmp 10) (.tmp 17) _ 5 (by rfl) Tryz.underlying51 _ 1 1 Tryz.infoB rfl (by decide) (by decide) byE byE_len one_byE base ro rc (m + 3) (xs ++ (int8 n).take 3) (by rw [List.length_append, ← HML.out]; rfl) (by rfl) (some ⟨wr.heap.size, 0, none⟩) 1 1 (by rfl) [by8 (n / 4294967296)] rfl (HO.out.keep (Ex.new wr _) (Nat.le_refl _) (by simp)) (lit_cells (by simp [byE, by8_toNat, IntKind.wrap_u64] <;> omega)) (by omega) (by simp; omega) (m + 4) (by omega) ?_; intro ro2 rc2 w1 hown hex _ _)
      have HO2 : Hid (OwnB w1 base ro2 rc2 (xs ++ (int8 n).take 4)) := by
        have h : OwnB w1 base ro2 rc2 (xs ++ (int8 n).take 3 ++ [by8 (n / 4294967296)]) := hown
        rw [List.append_assoc] at h; exact h
      have HE2 : Hid (Ex base none w w1) := (HE.out.trans (Ex.new wr _) (by omega) (by simp)).trans hex (Nat.le_refl _) (by simp)
      have hz2 : base ≤ w1.heap.size := by have := HE2.out.size; omega
      clear hown hex
      go_roundw
      case rel => exact ⟨4, ro2, rc2, by omega, by first | rfl | go_num, rfl, hz2, HO2.out, HE2.out⟩
      case measure => simp [intOf]
    · go_wp2_with (at_builtin; refine wpList_appE2 rfl (.tmp 10) (.tmp 17) _ 5 (by rfl) Tryz.underlying51 _ 1 1 Tryz.infoB rfl (by decide) (by decide) byE byE_len one_byE base ro rc (m + 4) (xs ++ (int8 n).take 4) (by rw [List.length_append, ← HML.out]; rfl) (by rfl) (some ⟨wr.heap.size, 0, none⟩) 1 1 (by rfl) [by8 (n / 16777216)] rfl (HO.out.keep (Ex.new wr _) (Nat.le_refl _) (by simp)) (lit_cells (by simp [byE, by8_toNat, IntKind.wrap_u64] <;> omega)) (by omega) (by simp; omega) (m + 5) (by omega) ?_; intro ro2 rc2 w1 hown hex _ _)
      have HO2 : Hid (OwnB w1 base ro2 rc2 (xs ++ (int8 n).take 5)) := by
        have h : OwnB w1 base ro2 rc2 (xs ++ (int8 n).take 4 ++ [by8 (n / 16777216)]) := hown
        rw [List.append_assoc] at h; exact h
      have HE2 : Hid (Ex base none w w1) := (HE.out.trans (Ex.new wr _) (by omega) (by simp)).trans hex (Nat.le_refl _) (by simp)
      have hz2 : base ≤ w1.heap.size := by have := HE2.out.size; omega
      clear hown hex
      go_roundw
      case rel => exact ⟨5, ro2, rc2, by omega, by first | rfl | go_num, rfl, hz2, HO2.out, HE2.out⟩
      case measure => simp [intOf]
    · go_wp2_with (at_builtin; refine wpList_appE2 rfl (.tmp 10) (.tmp 17) _ 5 (by rfl) Tryz.underlying51 _ 1 1 Tryz.infoB rfl (by decide) (by decide) byE byE_len one_byE base ro rc (m + 5) (xs ++ (int8 n).take 5) (by rw [List.length_append, ← HML.out]; rfl) (by rfl) (some ⟨wr.heap.size, 0, none⟩) 1 1 (by rfl) [by8 (n / 65536)] rfl (HO.out.keep (Ex.new wr _) (Nat.le_refl _) (by simp)) (lit_cells (by simp [byE, by8_toNat, IntKind.wrap_u64] <;> omega)) (by omega) (by simp; omega) (m + 6) (by omega) ?_; intro ro2 rc2 w1 hown hex _ _)
      have HO2 : Hid (OwnB w1 base ro2 rc2 (xs ++ (int8 n).take 6)) := by
        have h : OwnB w1 base ro2 rc2 (xs ++ (int8 n).take 5 ++ [by8 (n / 65536)]) := hown
        rw [List.append_assoc] at h; exact h
      have HE2 : Hid (Ex base none w w1) := (HE.out.trans (Ex.new wr _) (by omega) (by simp)).trans hex (Nat.le_refl _) (by simp)
      have hz2 : base ≤ w1.heap.size := by have := HE2.out.size; omega
      clear hown hex
      go_roundw
      case rel => exact ⟨6, ro2, rc2, by omega, by first | rfl | go_num, rfl, hz2, HO2.out, HE2.out⟩
      case measure => simp [intOf]
    · go_wp2_with (at_builtin; refine wpList_appE2 rfl (.tmp 10) (.tmp 17) _ 5 (by rfl) Tryz.underlying51 _ 1 1 Tryz.infoB rfl (by decide) (by decide) byE byE_len one_byE base ro rc (m + 6) (xs ++ (int8 n).take 6) (by rw [List.length_append, ← HML.out]; rfl) (by rfl) (some ⟨wr.heap.size, 0, none⟩) 1 1 (by rfl) [by8 (n / 256)] rfl (HO.out.keep (Ex.new wr _) (Nat.le_refl _) (by simp)) (lit_cells (by simp [byE, by8_toNat, IntKind.wrap_u64] <;> omega)) (by omega) (by simp; omega) (m + 7) (by omega) ?_; intro ro2 rc2 w1 hown hex _ _)
      have HO2 : Hid (OwnB w1 base ro2 rc2 (xs ++ (int8 n).take 7)) := by
        have h : OwnB w1 base ro2 rc2 (xs ++ (int8 n).take 6 ++ [by8 (n / 256)]) := hown
        rw [List.append_assoc] at h; exact h
      have HE2 : Hid (Ex base none w w1) := (HE.out.trans (Ex.new wr _) (by omega) (by simp)).trans hex (Nat.le_refl _) (by simp)
      have hz2 : base ≤ w1.heap.size := by have := HE2.out.size; omega
      clear hown hex
      go_roundw
      case rel => exact ⟨7, ro2, rc2, by omega, by first | rfl | go_num, rfl, hz2, HO2.out, HE2.out⟩
      case measure => simp [intOf]
    · go_wp2_with (at_builtin; refine wpList_appE2 rfl (.tmp 10) (.tmp 17) _ 5 (by rfl) Tryz.underlying51 _ 1 1 Tryz.infoB rfl (by decide) (by decide) byE byE_len one_byE base ro rc (m + 7) (xs ++ (int8 n).take 7) (by rw [List.length_append, ← HML.out]; rfl) (by rfl) (some ⟨wr.heap.size, 0, none⟩) 1 1 (by rfl) [by8 (n)] rfl (HO.out.keep (Ex.new wr _) (Nat.le_refl _) (by simp)) (lit_cells (by simp [byE, by8_toNat, IntKind.wrap_u64] <;> omega)) (by omega) (by simp; omega) (m + 8) (by omega) ?_; intro ro2 rc2 w1 hown hex _ _)
      have HO2 : Hid (OwnB w1 base ro2 rc2 (xs ++ (int8 n).take 8)) := by
        have h : OwnB w1 base ro2 rc2 (xs ++ (int8 n).take 7 ++ [by8 (n)]) := hown
        rw [List.append_assoc] at h; exact h
      have HE2 : Hid (Ex base none w w1) := (HE.out.trans (Ex.new wr _) (by omega) (by simp)).trans hex (Nat.le_refl _) (by simp)
      have hz2 : base ≤ w1.heap.size := by have := HE2.out.size; omega
      clear hown hex
      go_roundw
      case rel => exact ⟨8, ro2, rc2, by omega, by first | rfl | go_num, rfl, hz2, HO2.out, HE2.out⟩
      case measure => simp [intOf]
    · go_wp2
      go_ret
      exact ⟨ro, rc, rfl, HO.out, HE.out⟩

set_option maxHeartbeats 1000000 in
theorem int_any {P : Nat → Prop} (v : Value) (xs : List UInt8) (n : Int) (w : World) (hv : Sl byRep P w v xs) (hm : xs.length ≤ 5000000) :
    Calls Tryz.prog 234 #[v, .int .i64 n] w fun e w' => ∃ ro rc, e = .returned (.slice ro (xs.length + 8) rc) ∧ OwnB w' w.heap.size ro rc (xs ++ int8 n) ∧ Ex w.heap.size none w w' := by
  have HV := Lib.hid hv
  clear hv
  go_enter Tryz.func234, Tryz.ntmps234
  go_wp2_with (first
    | (go_at_call 305
       refine (cloneBytes_any v xs w HV.out hm).mono ?_
       rintro e w1 ⟨r1, c1, rfl, hown, hex⟩
       have H1 : Hid (OwnB w1 w.heap.size r1 c1 xs ∧ Ex w.heap.size none w w1) := Lib.hid ⟨hown, hex⟩
       have hz1 : w.heap.size ≤ w1.heap.size := hex.size
       clear hown hex)
    | (go_at_call 304
       refine (put_any w.heap.size r1 c1 xs n w1 H1.out.1 hz1 hm).mono ?_
       rintro e w2 ⟨r2, c2, rfl, hown, hex⟩
       have H2 : Hid (OwnB w2 w.heap.size r2 c2 (xs ++ int8 n) ∧ Ex w.heap.size none w w2) := Lib.hid ⟨hown, H1.out.2.trans hex (Nat.le_refl _) (by simp)⟩
       clear hown hex)
    | fail)
  go_ret
  exact ⟨r2, c2, rfl, H2.out.1, H2.out.2⟩

set_option maxHeartbeats 1000000 in
theorem text_any {P : Nat → Prop} (v : Value) (xs : List UInt8) (s : ByteArray) (w : World) (hv : Sl byRep P w v xs) (hm : xs.length ≤ 4000000) (hs : s.size ≤ 1200000) :
    Calls Tryz.prog 164 #[v, .string s] w fun e w' => ∃ ro rc, e = .returned (.slice ro (xs.length + 8 + s.size) rc) ∧ OwnB w' w.heap.size ro rc (xs ++ int8 s.size ++ strL s) ∧ Ex w.heap.size none w w' := by
  have HV := Lib.hid hv
  clear hv
  go_enter Tryz.func164, Tryz.ntmps164
  go_wp2_with fail
  refine (int_any v xs s.size w HV.out (by omega)).mono ?_
  rintro e w1 ⟨ro, rc, rfl, hown, hex⟩
  have HO := Lib.hid hown
  have HE := Lib.hid hex
  have hz := hex.size
  clear hown hex
  go_wp2_with (at_builtin; refine wpList_appB_str rfl (.tmp 8) (.tmp 9) _ _ (by rfl) Tryz.underlying51 Tryz.underlying9 Tryz.infoB w.heap.size ro rc (xs.length + 8) (xs ++ int8 s.size) (by rw [List.length_append]; rfl) (by rfl) s (by rfl) HO.out (by omega) hz ?_; intro ro2 rc2 w2 hown2 hex2)
  go_ret
  exact ⟨ro2, rc2, rfl, hown2, HE.out.trans hex2 (Nat.le_refl _) (by simp)⟩

set_option maxHeartbeats 1000000 in
theorem ints_any {P : Nat → Prop} (v u : Value) (xs : List UInt8) (l : List Int) (w : World) (hv : Sl byRep P w v xs) (hu : Ints w u l) (hm : xs.length ≤ 3000000) (hl : l.length ≤ 100000) :
    Calls Tryz.prog 288 #[v, u] w fun e w' => ∃ ro rc, e = .returned (.slice ro (xs.length + 8 + l.length * 8) rc) ∧ OwnB w' w.heap.size ro rc (xs ++ int8 l.length ++ intsB l) ∧ Ex w.heap.size none w w' := by
  obtain ⟨ao, cap, rfl, hx⟩ := hu
  have HV := Lib.hid hv
  have HX := Lib.hid hx
  clear hv hx
  go_enter Tryz.func288, Tryz.ntmps288
  go_wp2_with fail
  refine (int_any v xs l.length w HV.out (by omega)).mono ?_
  rintro e w1 ⟨ro, rc, rfl, hown, hex⟩
  have HO := Lib.hid hown
  have HE := Lib.hid hex
  clear hown hex
  go_wp2_with fail
  go_loopw [5, 7, 14] (fun v u i wr => ∃ (k : Nat) (ro : Option Addr) (rc : Nat), k ≤ l.length ∧ i = .int .i64 k ∧ v = .slice ro (xs.length + 8 + k * 8) rc ∧ OwnB wr w.heap.size ro rc (xs ++ int8 l.length ++ intsB (l.take k)) ∧ Ex w.heap.size none w wr) (fun _ _ i _ => l.length - (intOf i).toNat)
  case atStart => exact ⟨0, ro, rc, by omega, rfl, by rw [Nat.zero_mul, Nat.add_zero], by simpa [intsB] using HO.out, HE.out⟩
  case round =>
    obtain ⟨k, ro, rc, hk, rfl, rfl, hown, hex⟩ := hrel
    have hsz := hex.size
    by_cases hlt : k < l.length
    · obtain ⟨b, off, y, rfl, hc, HY⟩ := (HX.out.keep hex (Nat.le_refl _) (by simp)).get k hlt
      have HK : Hid (intsB (l.take (k + 1)) = intsB (l.take k) ++ int8 y) := (show _ = _ by
        have h := HY.out
        rw [List.getD_eq_getElem?_getD, List.getElem?_eq_getElem hlt] at h
        simp only [Option.getD_some] at h
        rw [List.take_add_one, List.getElem?_eq_getElem hlt, h]
        simp [intsB])
      have HTL : Hid ((intsB (l.take k)).length = k * 8) := (show _ = _ by rw [intsB_len]; simp; omega)
      obtain ⟨ys, hys⟩ : ∃ ys, ys = xs ++ int8 l.length ++ intsB (l.take k) := ⟨_, rfl⟩
      have HL : Hid (ys.length = xs.length + 8 + k * 8) := (show _ = _ by rw [hys, List.length_append, List.length_append, HTL.out, int8_len])
      have HYS := Lib.hid hys
      rw [← hys] at hown
      have HO := Lib.hid hown
      have HE := Lib.hid hex
      clear hown hex hys
      have HPC : Hid (Calls Tryz.prog 304 #[.slice ro (xs.length + 8 + k * 8) rc, .int .i64 y] wr fun e w' => ∃ r2 c2, e = .returned (.slice r2 (xs.length + 8 + k * 8 + 8) c2) ∧ OwnB w' w.heap.size r2 c2 (ys ++ int8 y) ∧ Ex w.heap.size none wr w') := Lib.hid (by
        have h := put_any w.heap.size ro rc ys y wr HO.out hsz (by rw [HL.out]; omega)
        rw [HL.out] at h
        exact h)
      go_wp2_with (go_at_call 304
                   refine HPC.out.mono ?_
                   rintro e w2 ⟨ro2, rc2, rfl, hown2, hex2⟩
                   have HO2 : Hid (OwnB w2 w.heap.size ro2 rc2 (ys ++ int8 y)) := hown2
                   have HE2 := Lib.hid hex2
                   clear hown2 hex2)
      go_roundw
      case rel => exact ⟨k + 1, ro2, rc2, by omega, by go_num, by rw [Nat.add_mul]; rfl, by rw [HK.out, ← List.append_assoc, ← HYS.out]; exact HO2.out, HE.out.trans HE2.out (Nat.le_refl _) (by simp)⟩
      case measure => simp [intOf] <;> omega
    · obtain rfl : k = l.length := by omega
      rw [List.take_length] at hown
      go_wp2
      go_ret
      exact ⟨ro, rc, rfl, hown, hex⟩
end Go.Proofs.YtaghfcnpnfhacaaGreat

namespace Go.Proofs.YtaghfcnpnfhacaaGreat
open Go.RowKit Go.Sort

theorem u_turnL (x : UInt32) (m : Nat) (h1 : 1 ≤ m) (h2 : m ≤ 31) : bits .or .u32 ((x.toNat : Int) * 2 ^ m % 4294967296) ((x.toNat : Int) / 2 ^ (32 - m)) = ((turnU x (32 - m)).toNat : Int) := by
  rw [u_shl x m (by omega), u_shr x (32 - m) (by omega), u_or, UInt32.or_comm]
  unfold turnU
  rw [show 32 - (32 - m) = m by omega]
set_option maxHeartbeats 1000000 in
theorem rot_any (x : UInt32) (z : Int) (m : Nat) (hz : bits .and .u64 (IntKind.u64.wrap z) 31 = (m : Int)) (h1 : 1 ≤ m) (h2 : m ≤ 31) (w : World) : Calls Tryz.prog 326 #[.int .u32 x.toNat, .int .i64 z] w fun e w' => e = .returned (.int .u32 (turnU x (32 - m)).toNat) ∧ w = w' := by
  go_enter Tryz.func326, Tryz.ntmps326
  go_wp2
  go_ret
  exact ⟨by rw [u_turnL x m h1 h2]; rfl, rfl⟩
set_option maxHeartbeats 1000000 in
theorem turnP_any (x : UInt32) (z : Int) (hb : z ∈ [2, 6, 7, 11, 13, 17, 18, 19, 22, 25]) (w : World) : Calls Tryz.prog 325 #[.int .u32 x.toNat, .int .i64 z] w fun e w' => e = .returned (.int .u32 (turnU x z.toNat).toNat) ∧ w = w' := by
  obtain ⟨m, hm, h1, h2, h3, hzb⟩ : ∃ m : Nat, bits .and .u64 (IntKind.u64.wrap (-z)) 31 = (m : Int) ∧ 1 ≤ m ∧ m ≤ 31 ∧ 32 - m = z.toNat ∧ (0 ≤ z ∧ z ≤ 31) := by
    simp only [List.mem_cons, List.not_mem_nil, or_false] at hb
    rcases hb with rfl | rfl | rfl | rfl | rfl | rfl | rfl | rfl | rfl | rfl
    · exact ⟨30, by decide, by omega, by omega, rfl, by omega⟩
    · exact ⟨26, by decide, by omega, by omega, rfl, by omega⟩
    · exact ⟨25, by decide, by omega, by omega, rfl, by omega⟩
    · exact ⟨21, by decide, by omega, by omega, rfl, by omega⟩
    · exact ⟨19, by decide, by omega, by omega, rfl, by omega⟩
    · exact ⟨15, by decide, by omega, by omega, rfl, by omega⟩
    · exact ⟨14, by decide, by omega, by omega, rfl, by omega⟩
    · exact ⟨13, by decide, by omega, by omega, rfl, by omega⟩
    · exact ⟨10, by decide, by omega, by omega, rfl, by omega⟩
    · exact ⟨7, by decide, by omega, by omega, rfl, by omega⟩
  have hw : IntKind.i64.wrap (-z) = -z := IntWalk.i64_in _ (by omega)
  clear hb
  go_enter Tryz.func325, Tryz.ntmps325
  go_wp2_with (go_at_call 326; refine (rot_any x (-z) m hm h1 h2 _).mono ?_; rw [h3]; rintro e w' ⟨rfl, rfl⟩)
  go_ret
  exact ⟨rfl, rfl⟩
end Go.Proofs.YtaghfcnpnfhacaaGreat

namespace Go.Proofs.YtaghfcnpnfhacaaGreat
open Go.RowKit Go.Sort

def iE (n : Int) : List Value := [.int .i64 n]
theorem iE_len (n : Int) : (iE n).length = 1 := rfl
theorem one_iE : ∀ n, ∀ v ∈ iE n, v.oneCell' = true := fun n v hv => by simp [iE] at hv; subst hv; rfl
end Go.Proofs.YtaghfcnpnfhacaaGreat

namespace Go.Proofs.YtaghfcnpnfhacaaGreat
open Go.RowKit Go.Maps Go.Sort

set_option maxHeartbeats 4000000 in
set_option maxRecDepth 100000 in
theorem voicesGW_any (g N : Nat) (vl : List Vote) (l : List (Int × Int)) (lost next : Int) (w : World) (hm : w.ownsMap Tryz.prog 180 (plainElem Tryz.prog 3) g N (mapG vl)) (hl : KeysOK vl) (hvl : onLost vl lost = l) (hlost : -9223372036854775808 ≤ lost ∧ lost ≤ 9223372036854775807) :
    Calls Tryz.prog 70 #[.map (some g), .int .i64 lost, .int .i64 next] w fun e w' => ∃ (ro : Option Addr) (rc n : Nat), e = .returned (.slice ro n rc) ∧ (voicesL l next 64).length = n ∧ OwnE iE 1 3 w' w.heap.size ro rc (voicesL l next 64) ∧ Ex w.heap.size none w w' := by
  have hg : g < w.heap.size := hm.lt
  have HM : Hid (∀ w', Ex w.heap.size none w w' → w'.ownsMap Tryz.prog 180 (plainElem Tryz.prog 3) g N (mapG vl)) := Lib.hid (fun w' h => by
    obtain ⟨es, clock, h1, h2⟩ := hm
    exact ⟨es, clock, (h.block g hg (by simp)).trans h1, h2⟩)
  clear hm
  go_enter Tryz.func70, Tryz.ntmps70
  go_wp2_with fail
  go_loopw [7, 8, 9, 10, 11] (fun v _ _ _ i wr => ∃ (k n : Nat) (ro : Option Addr) (rc : Nat), i = .int .i64 k ∧ k ≤ 64 ∧ n ≤ k ∧ v = .slice ro n rc ∧ Hid ((voicesL l next k).length = n) ∧ OwnE iE 1 3 wr w.heap.size ro rc (voicesL l next k) ∧ Ex w.heap.size none w wr) (fun _ _ _ _ i _ => 64 - (intOf i).toNat)
  case atStart => exact ⟨0, 0, none, 0, rfl, by omega, by omega, rfl, Lib.hid rfl, OwnE.nil _ _ _ _ _, Ex.refl _ _ _⟩
  case round =>
    obtain ⟨k, n, ro, rc, rfl, hk, hn, rfl, HN, hown, hex⟩ := hrel
    have hsz := hex.size
    have HO := Lib.hid hown
    have HEX := Lib.hid hex
    clear hown hex
    by_cases h64 : k < 64
    · have hkI : (k : Int) < 64 := by omega
      obtain ⟨b, hb⟩ : ∃ b, b = lastOf l (k : Int) := ⟨_, rfl⟩
      have HLAST : Hid (lastOf l (k : Int) = b) := Lib.hid hb.symm
      clear hb
      have HVQ := voicesL_succ l next k
      rw [HLAST.out] at HVQ
      cases b with
      | none =>
        have HVS : Hid (voicesL l next (k + 1) = voicesL l next k) := Lib.hid (by rw [HVQ, if_neg (by simp), List.append_nil])
        clear HVQ
        go_wp2_with (first
          | (at_lookup; refine wpList_lookup_own_ok_int _ rfl _ _ _ rfl 180 3 .i64 Tryz.keyedLoss Tryz.underlying118 Tryz.underlying3 (by kernel_rfl) g N (mapG vl) (by rfl) (HM.out _ HEX.out) _ _ (by rfl) (keyOf_lossW (k : Int) lost (by omega) hlost) ?_; intro c hat _; have hc : c = 0 := (by rw [mapG_atW hl (by omega) hlost, hvl, HLAST.out] at hat; simpa using hat.symm); rw [hc, mapG_hasW hl (by omega) hlost, hvl, HLAST.out]; first | rw [Option.isSome_none] | rw [Option.isSome_some])
          | fail)
        go_roundw
        case rel => exact ⟨k + 1, n, ro, rc, by go_num, by omega, by omega, rfl, Lib.hid (by rw [HVS.out]; exact HN.out), by rw [HVS.out]; exact HO.out, HEX.out⟩
        case measure => simp [intOf] <;> omega
      | some v =>
        by_cases hv : v = next
        · subst hv
          have HVS : Hid (voicesL l v (k + 1) = voicesL l v k ++ [(k : Int)]) := Lib.hid (by rw [HVQ, if_pos rfl])
          clear HVQ
          go_wp2_with (first
            | (at_lookup; refine wpList_lookup_own_ok_int _ rfl _ _ _ rfl 180 3 .i64 Tryz.keyedLoss Tryz.underlying118 Tryz.underlying3 (by kernel_rfl) g N (mapG vl) (by rfl) (HM.out _ HEX.out) _ _ (by rfl) (keyOf_lossW (k : Int) lost (by omega) hlost) ?_; intro c hat _; have hc : c = v := (by rw [mapG_atW hl (by omega) hlost, hvl, HLAST.out] at hat; simpa using hat.symm); rw [hc, mapG_hasW hl (by omega) hlost, hvl, HLAST.out]; first | rw [Option.isSome_none] | rw [Option.isSome_some])
            | (at_builtin; refine wpList_appE2 rfl (.tmp 28) (.tmp 30) _ 3 (by rfl) Tryz.underlying22 _ 1 8 Tryz.infoInt rfl (by decide) (by decide) iE iE_len one_iE w.heap.size ro rc n (voicesL l v k) HN.out (by rfl) (some ⟨wr.heap.size, 0, none⟩) 1 1 (by rfl) [(k : Int)] rfl (HO.out.keep (Ex.new wr _) (Nat.le_refl _) (by simp)) (lit_cells (by rfl)) (by omega) (by simp; omega) (n + 1) (by omega) ?_; intro ro2 rc2 w2 hown2 hex2 _ _; have H2 : Hid (OwnE iE 1 3 w2 w.heap.size ro2 rc2 (voicesL l v (k + 1)) ∧ Ex w.heap.size none w w2) := Lib.hid ⟨by rw [HVS.out]; exact hown2, (HEX.out.trans (Ex.new wr _) hsz (by simp)).trans hex2 (Nat.le_refl _) (by simp)⟩; clear hown2 hex2)
            | fail)
          go_roundw
          case rel => exact ⟨k + 1, n + 1, ro2, rc2, by go_num, by omega, by omega, rfl, Lib.hid (by rw [HVS.out, List.length_append, HN.out]; rfl), H2.out.1, H2.out.2⟩
          case measure => simp [intOf] <;> omega
        · have hvd : (v == next) = false := by simp [hv]
          have HVS : Hid (voicesL l next (k + 1) = voicesL l next k) := Lib.hid (by rw [HVQ, if_neg (by simpa using hv), List.append_nil])
          clear HVQ hv
          go_wp2_with (first
            | (at_lookup; refine wpList_lookup_own_ok_int _ rfl _ _ _ rfl 180 3 .i64 Tryz.keyedLoss Tryz.underlying118 Tryz.underlying3 (by kernel_rfl) g N (mapG vl) (by rfl) (HM.out _ HEX.out) _ _ (by rfl) (keyOf_lossW (k : Int) lost (by omega) hlost) ?_; intro c hat _; have hc : c = v := (by rw [mapG_atW hl (by omega) hlost, hvl, HLAST.out] at hat; simpa using hat.symm); rw [hc, mapG_hasW hl (by omega) hlost, hvl, HLAST.out]; first | rw [Option.isSome_none] | rw [Option.isSome_some])
            | fail)
          go_roundw
          case rel => exact ⟨k + 1, n, ro, rc, by go_num, by omega, by omega, rfl, Lib.hid (by rw [HVS.out]; exact HN.out), by rw [HVS.out]; exact HO.out, HEX.out⟩
          case measure => simp [intOf] <;> omega
    · have hkI : ¬ (k : Int) < 64 := by omega
      have h64e : k = 64 := by omega
      have HV : Hid (voicesL l next k = voicesL l next 64) := Lib.hid (by rw [h64e])
      clear h64e
      go_wp2
      go_ret
      exact ⟨ro, rc, n, rfl, by rw [← HV.out]; exact HN.out, by rw [← HV.out]; exact HO.out, HEX.out⟩
theorem voicesG_any (g N : Nat) (vl : List Vote) (l : List (Int × Int)) (lost next : Int) (w : World) (hm : w.ownsMap Tryz.prog 180 (plainElem Tryz.prog 3) g N (mapG vl)) (hl : KeysOK vl) (hvl : onLost vl lost = l) (hlost : 0 ≤ lost ∧ lost < 64) :
    Calls Tryz.prog 70 #[.map (some g), .int .i64 lost, .int .i64 next] w fun e w' => ∃ (ro : Option Addr) (rc n : Nat), e = .returned (.slice ro n rc) ∧ (voicesL l next 64).length = n ∧ OwnE iE 1 3 w' w.heap.size ro rc (voicesL l next 64) ∧ Ex w.heap.size none w w' :=
  voicesGW_any g N vl l lost next w hm hl hvl ⟨by omega, by omega⟩
end Go.Proofs.YtaghfcnpnfhacaaGreat

namespace Go.Proofs.YtaghfcnpnfhacaaGreat
open Go.RowKit Go.Sort

theorem flat_iE (xs : List Int) : flatL iE xs = xs.map (Value.int .i64) := by
  induction xs with
  | nil => rfl
  | cons x r ih => unfold flatL at *; simp [iE, ih]
theorem ints_srcE {w : World} {ao : Option Addr} {n c : Nat} {xs : List Int} (h : Ints w (.slice ao n c) xs) : xs.length = 0 ∨ ∃ ad, ao = some ad ∧ ∀ (j : Nat) (v : Value), (flatL iE xs)[j]? = some v → w.cell? (ad.add j) = some v := by
  rcases Nat.eq_zero_or_pos xs.length with h0 | h0
  · exact .inl h0
  · obtain ⟨b, off, e, hc⟩ := h.at' 0 h0
    refine .inr ⟨_, e, fun j v hv => ?_⟩
    have hf := flat_iE xs
    rw [hf] at hv
    have hj : j < xs.length := by have := (List.getElem?_eq_some_iff.1 hv).1; simpa using this
    rw [Addr.add_lit, hc j hj]
    rw [← hv]; simp [List.getD, hj]
theorem iE_slE {w : World} {base n : Nat} {ro : Option Addr} {rc : Nat} {xs : List Int} (hn : xs.length = n) (h : OwnE iE 1 3 w base ro rc xs) : Sl intRep (fun b => base ≤ b) w (.slice ro n rc) xs := by
  subst hn
  refine own_ints_sl ?_
  have hf := flat_iE xs
  unfold OwnI
  rw [← hf]; exact h
/-- append of some numbers to nothing: a new row, above all that was there. -/
theorem step_appI_new {ops : Array Oper} {o : Oper} {a : Act} {w : World} {K : Act → World → Prop} {Q : Exit → Act → World → Prop} {E : Prop} (hg : o.guard = none) (s x : Operand) (hop : o.op = .call { callee := .builtin .append, args := #[s, x], argTypes := #[22, 22] })
    (ao : Option Addr) (hs : a.eval s = .slice ao 0 0) (so : Option Addr) (m c : Nat) (hx : a.eval x = .slice so m c) (gs : List Int) (hm : gs.length = m) (h1 : 1 ≤ m) (h2 : m ≤ 1000000) (hi : Ints w (.slice so m c) gs)
    (hK : ∀ ao' cap' w', OwnE iE 1 3 w' w.heap.size ao' cap' gs → Ex w.heap.size none w w' → K (a.put o.dst (.slice ao' m cap')) w') :
    if Region.wanted o (yielded ops a.tmps) = true then Oper.wp Tryz.prog o a w K Q else E := by
  rcases ints_srcE hi with h0 | ⟨ad, rfl, hc⟩
  · omega
  · obtain ⟨i0, hii, hz0, hz1, hz2⟩ := info_parts Tryz.infoInt
    refine step_append_grows hg s x _ hop 3 i0 _ 1 8 Tryz.underlying22 hii hz0 hz1 hz2 rfl (by decide) ao 0 0 [] hs (fun _ => ⟨rfl, rfl⟩) rfl (fun _ _ j u h => by simp at h) ad m c (flatL iE gs) hx (by rw [flatL_len iE_len, hm]) hc (flatL_one one_iE gs) (by omega) (by simp only [maxLen]; omega) (by omega) fun v' w' ho hgr => ?_
    obtain ⟨ao', cap', rfl⟩ := own_shape ho
    rw [Nat.zero_add] at ho ⊢
    exact hK _ _ _ (by unfold OwnE; rw [hm]; simpa using ho) ((Ex.refl _ _ w).grown hgr (Nat.le_refl _) (by simp))
theorem own_emptyI {w : World} {base g : Nat} (h : w.heap[g]? = some (.cells #[] 3 (0, 0))) (hb : base ≤ g) : OwnE iE 1 3 w base (some ⟨g, 0, none⟩) 0 [] := ⟨by simp [flatL], .inr ⟨g, 0, #[], rfl, hb, h, Nat.le_refl _, by decide, rfl, rfl⟩⟩
theorem iE_slR {w : World} {base n a c : Nat} {ro : Option Addr} {rc : Nat} {xs : List Int} (hn : xs.length = n) (h : OwnE iE 1 3 w base ro rc xs) (hr : rowOf ro = some a ∨ rowOf ro = some c) : Sl intRep (fun b => b = a ∨ b = c) w (.slice ro n rc) xs := by
  obtain ⟨ao, cap, e, hs⟩ := iE_slE hn h
  refine ⟨ao, cap, e, fun i hi => ?_⟩
  obtain ⟨b, off, cs, e1, _, e3, e4⟩ := hs i hi
  cases e
  refine ⟨b, off, cs, e1, ?_, e3, e4⟩
  subst e1
  rcases hr with h | h
  · exact .inl (by simpa [rowOf] using h)
  · exact .inr (by simpa [rowOf] using h)
/-- append of numbers to an empty row. -/
theorem step_appI_any {ops : Array Oper} {o : Oper} {a : Act} {w : World} {K : Act → World → Prop} {Q : Exit → Act → World → Prop} {E : Prop} (hgd : o.guard = none) (s x : Operand) (hop : o.op = .call { callee := .builtin .append, args := #[s, x], argTypes := #[22, 22] })
    (g : Nat) (hs : a.eval s = .slice (some ⟨g, 0, none⟩) 0 0) (hg : w.heap[g]? = some (.cells #[] 3 (0, 0))) (so : Option Addr) (m c : Nat) (hx : a.eval x = .slice so m c) (gs : List Int) (hm : gs.length = m) (h2 : m ≤ 1000000) (hi : Ints w (.slice so m c) gs)
    (hK : ∀ ao' cap' w', Sl intRep (fun b => b = g ∨ b = w.heap.size) w' (.slice ao' m cap') gs → Ex g none w w' → (∀ b, b < w.heap.size → b ≠ g → w'.heap[b]? = w.heap[b]?) → K (a.put o.dst (.slice ao' m cap')) w') :
    if Region.wanted o (yielded ops a.tmps) = true then Oper.wp Tryz.prog o a w K Q else E :=
  step_appE hgd s x _ 3 hop Tryz.underlying22 _ 1 8 Tryz.infoInt rfl (by decide) (by decide) iE iE_len one_iE g (some ⟨g, 0, none⟩) 0 0 [] rfl hs so m c hx gs hm (own_emptyI hg (Nat.le_refl _)) (ints_srcE hi) (by omega) (Nat.le_of_lt (Array.getElem?_eq_some_iff.1 hg).1) m (by omega) fun ao' cap' w' ho hex hb hr => hK ao' cap' w' (iE_slR hm ho hr) hex fun b h1 h2 => hb b h1 (by simp [rowOf]; exact fun e => h2 e.symm)
end Go.Proofs.YtaghfcnpnfhacaaGreat

namespace Go.Proofs.YtaghfcnpnfhacaaGreat
open Go.RowKit Go.Sort

theorem OwnS.keepP {w w' : World} {base B : Nat} {p : Option Nat} {ao : Option Addr} {cap : Nat} {l : List St} (h : OwnS w base ao cap l) (hx : Ex B p w w') (hB : w.heap.size ≤ B) (hp : ∀ q, p = some q → q < base) : OwnS w' base ao cap l := by
  obtain ⟨xs, e, h1, h2⟩ := h
  exact ⟨xs, e, h1.keep hx hB hp, fun x hxx => (h2 x hxx).keep fun b hb hlt => hx.block b (by omega) (fun e => by have := hp b e.symm; omega)⟩
theorem dVal_nat {d : List Int} {n : Int} (h : 1 ≤ n) : ∃ k : Nat, dVal d n = k ∧ (k : Int) < n := by
  obtain ⟨h1, h2⟩ := dVal_bd (d := d) h
  exact ⟨(dVal d n).toNat, by omega, by omega⟩

set_option maxHeartbeats 400000 in
theorem ofD_any (N p : Nat) (d : List Int) (v : Value) (xs : List Int) (w : World) (hd : DiceAt N w p d) (hv : IntsO p w v xs) (h1 : 1 ≤ xs.length) (hm : xs.length ≤ 100000) :
    Calls Tryz.prog 15 #[.pointer (some ⟨p, 0, none⟩), v] w fun e w' => e = .returned (.int .i64 (xs.getD (dVal d xs.length).toNat 0)) ∧ DiceAt N w' p d.tail ∧ Ex w.heap.size (some p) w w' := by
  obtain ⟨ao, cap, rfl, hx, haw⟩ := hv
  obtain ⟨k, hk, hkl⟩ := dVal_nat (d := d) (n := xs.length) (by omega)
  have HK : Hid ((dVal d xs.length).toNat = k) := (show _ = _ by rw [hk]; simp)
  have hkl' : k < xs.length := by omega
  have HX := Lib.hid hx
  have HA := Lib.hid haw
  have HD := Lib.hid hd
  clear hx haw hd
  go_enter Tryz.func15, Tryz.ntmps15
  go_wp2_with fail
  refine (next_any N p d xs.length w HD.out (by omega)).mono ?_
  rw [hk]
  clear hk
  rintro e w1 ⟨rfl, hd1, hex1⟩
  obtain ⟨b, off, y, rfl, hc, HY⟩ := (HX.out.keep hex1 (Nat.le_refl _) (fun q hq hne => by cases hq; exact HA.out hne)).get k hkl'
  have HD1 := Lib.hid hd1
  have HE1 := Lib.hid hex1
  clear hd1 hex1
  go_wp2
  go_ret
  exact ⟨by rw [HK.out, HY.out]; rfl, HD1.out, HE1.out⟩
end Go.Proofs.YtaghfcnpnfhacaaGreat
