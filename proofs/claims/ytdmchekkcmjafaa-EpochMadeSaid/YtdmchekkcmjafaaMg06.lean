/- ref02.Int, Text, Ints: contracts, no statement of the seat. | Byte slices as values whose header nobody looks at: ref02's contracts once more. No statement of the seat. -/
import Derived.Test.YtdmchekkcmjafaaMg05
import Derived.Outline
namespace Go.Proofs.Ytdmchekkcmjafaa
open Go.RowKit Go.Sort

/-- A number as eight bytes. -/
def int8 (n : Int) : List UInt8 := [by8 (n / 72057594037927936), by8 (n / 281474976710656), by8 (n / 1099511627776), by8 (n / 4294967296), by8 (n / 16777216), by8 (n / 65536), by8 (n / 256), by8 (n)]
theorem int8_len (v : Int) : (int8 v).length = 8 := rfl
theorem by8_toNat (z : Int) : ((by8 z).toNat : Int) = z % 256 := by rw [← by8_wrap, IntKind.wrap_u8]

set_option maxHeartbeats 4000000 in
theorem int02_any {P : Nat → Prop} (v : Value) (xs : List UInt8) (n : Int) (w : World) (hv : Sl byRep P w v xs) (hm : xs.length ≤ 5000000) :
    Calls Try.prog 79 #[v, .int .i64 n] w fun e w' => ∃ ro rc, e = .returned (.slice ro (xs.length + 8) rc) ∧ OwnB w' w.heap.size ro rc (xs ++ int8 n) ∧ Ex w.heap.size none w w' := by
  obtain ⟨ao, cap, rfl, hx⟩ := hv
  have HX := Lib.hid (val_cells (by decide) hx)
  have HN : Hid (OwnB w w.heap.size none 0 []) := OwnE.nil _ _ _ _ _
  clear hx
  obtain ⟨m, hml⟩ : ∃ m, m = xs.length := ⟨_, rfl⟩
  have HML := Lib.hid hml
  rw [← hml] at hm ⊢
  clear hml
  go_enter Try.func79, Try.ntmps79
  go_wp2_with (at_builtin; refine wpList_appE2 rfl (.const (.slice none 0 0)) (.tmp 7) _ 5 (by rfl) Try.underlying81 _ 1 1 Try.infoB rfl (by decide) (by decide) byE byE_len one_byE w.heap.size none 0 0 [] rfl (by rfl) ao m cap (by rfl) xs HML.out.symm HN.out HX.out (by omega) (Nat.le_refl _) m (by omega) ?_; intro ro rc w1 hown hex _ _)
  have HO : Hid (OwnB w1 w.heap.size ro rc xs) := hown
  have HE := Lib.hid hex
  clear hown hex
  go_loopw [5, 6] (fun v i wr => ∃ (k : Nat) (ro : Option Addr) (rc : Nat), k ≤ 8 ∧ i = .int .i64 (7 - (k : Int)) ∧ v = .slice ro (m + k) rc ∧ OwnB wr w.heap.size ro rc (xs ++ (int8 n).take k) ∧ Ex w.heap.size none w wr) (fun _ i _ => (intOf i + 1).toNat)
  case atStart => exact ⟨0, ro, rc, by omega, rfl, rfl, by simpa using HO.out, HE.out⟩
  case round =>
    obtain ⟨k, ro, rc, hk, rfl, rfl, hown, hex⟩ := hrel
    have hsz := hex.size
    have HO := Lib.hid hown
    have HE := Lib.hid hex
    clear hown hex
    rcases (by omega : k = 0 ∨ k = 1 ∨ k = 2 ∨ k = 3 ∨ k = 4 ∨ k = 5 ∨ k = 6 ∨ k = 7 ∨ k = 8) with rfl | rfl | rfl | rfl | rfl | rfl | rfl | rfl | rfl
    · go_wp2_with (at_builtin; refine wpList_appE2 rfl (.tmp 13) (.tmp 20) _ 5 (by rfl) Try.underlying81 _ 1 1 Try.infoB rfl (by decide) (by decide) byE byE_len one_byE w.heap.size ro rc m (xs ++ (int8 n).take 0) (by rw [List.length_append, ← HML.out]; rfl) (by rfl) (some ⟨wr.heap.size, 0, none⟩) 1 1 (by rfl) [by8 (n / 72057594037927936)] rfl (HO.out.keep (Ex.new wr _) (Nat.le_refl _) (by simp)) (lit_cells (by simp [byE, by8_toNat])) (by omega) (by simp; omega) (m + 1) (by omega) ?_; intro ro2 rc2 w1 hown hex _ _)
      have HO2 : Hid (OwnB w1 w.heap.size ro2 rc2 (xs ++ (int8 n).take 1)) := by
        have h : OwnB w1 w.heap.size ro2 rc2 (xs ++ (int8 n).take 0 ++ [by8 (n / 72057594037927936)]) := hown
        rw [List.append_assoc] at h; exact h
      have HE2 : Hid (Ex w.heap.size none w w1) := (HE.out.trans (Ex.new wr _) hsz (by simp)).trans hex (Nat.le_refl _) (by simp)
      clear hown hex
      go_roundw
      case rel => exact ⟨1, ro2, rc2, by omega, by first | rfl | go_num, rfl, HO2.out, HE2.out⟩
      case measure => simp [intOf]
    · go_wp2_with (at_builtin; refine wpList_appE2 rfl (.tmp 13) (.tmp 20) _ 5 (by rfl) Try.underlying81 _ 1 1 Try.infoB rfl (by decide) (by decide) byE byE_len one_byE w.heap.size ro rc (m + 1) (xs ++ (int8 n).take 1) (by rw [List.length_append, ← HML.out]; rfl) (by rfl) (some ⟨wr.heap.size, 0, none⟩) 1 1 (by rfl) [by8 (n / 281474976710656)] rfl (HO.out.keep (Ex.new wr _) (Nat.le_refl _) (by simp)) (lit_cells (by simp [byE, by8_toNat])) (by omega) (by simp; omega) (m + 2) (by omega) ?_; intro ro2 rc2 w1 hown hex _ _)
      have HO2 : Hid (OwnB w1 w.heap.size ro2 rc2 (xs ++ (int8 n).take 2)) := by
        have h : OwnB w1 w.heap.size ro2 rc2 (xs ++ (int8 n).take 1 ++ [by8 (n / 281474976710656)]) := hown
        rw [List.append_assoc] at h; exact h
      have HE2 : Hid (Ex w.heap.size none w w1) := (HE.out.trans (Ex.new wr _) hsz (by simp)).trans hex (Nat.le_refl _) (by simp)
      clear hown hex
      go_roundw
      case rel => exact ⟨2, ro2, rc2, by omega, by first | rfl | go_num, rfl, HO2.out, HE2.out⟩
      case measure => simp [intOf]
    · go_wp2_with (at_builtin; refine wpList_appE2 rfl (.tmp 13) (.tmp 20) _ 5 (by rfl) Try.underlying81 _ 1 1 Try.infoB rfl (by decide) (by decide) byE byE_len one_byE w.heap.size ro rc (m + 2) (xs ++ (int8 n).take 2) (by rw [List.length_append, ← HML.out]; rfl) (by rfl) (some ⟨wr.heap.size, 0, none⟩) 1 1 (by rfl) [by8 (n / 1099511627776)] rfl (HO.out.keep (Ex.new wr _) (Nat.le_refl _) (by simp)) (lit_cells (by simp [byE, by8_toNat])) (by omega) (by simp; omega) (m + 3) (by omega) ?_; intro ro2 rc2 w1 hown hex _ _)
      have HO2 : Hid (OwnB w1 w.heap.size ro2 rc2 (xs ++ (int8 n).take 3)) := by
        have h : OwnB w1 w.heap.size ro2 rc2 (xs ++ (int8 n).take 2 ++ [by8 (n / 1099511627776)]) := hown
        rw [List.append_assoc] at h; exact h
      have HE2 : Hid (Ex w.heap.size none w w1) := (HE.out.trans (Ex.new wr _) hsz (by simp)).trans hex (Nat.le_refl _) (by simp)
      clear hown hex
      go_roundw
      case rel => exact ⟨3, ro2, rc2, by omega, by first | rfl | go_num, rfl, HO2.out, HE2.out⟩
      case measure => simp [intOf]
    · go_wp2_with (at_builtin; refine wpList_appE2 rfl (.tmp 13) (.tmp 20) _ 5 (by rfl) Try.underlying81 _ 1 1 Try.infoB rfl (by decide) (by decide) byE byE_len one_byE w.heap.size ro rc (m + 3) (xs ++ (int8 n).take 3) (by rw [List.length_append, ← HML.out]; rfl) (by rfl) (some ⟨wr.heap.size, 0, none⟩) 1 1 (by rfl) [by8 (n / 4294967296)] rfl (HO.out.keep (Ex.new wr _) (Nat.le_refl _) (by simp)) (lit_cells (by simp [byE, by8_toNat])) (by omega) (by simp; omega) (m + 4) (by omega) ?_; intro ro2 rc2 w1 hown hex _ _)
      have HO2 : Hid (OwnB w1 w.heap.size ro2 rc2 (xs ++ (int8 n).take 4)) := by
        have h : OwnB w1 w.heap.size ro2 rc2 (xs ++ (int8 n).take 3 ++ [by8 (n / 4294967296)]) := hown
        rw [List.append_assoc] at h; exact h
      have HE2 : Hid (Ex w.heap.size none w w1) := (HE.out.trans (Ex.new wr _) hsz (by simp)).trans hex (Nat.le_refl _) (by simp)
      clear hown hex
      go_roundw
      case rel => exact ⟨4, ro2, rc2, by omega, by first | rfl | go_num, rfl, HO2.out, HE2.out⟩
      case measure => simp [intOf]
    · go_wp2_with (at_builtin; refine wpList_appE2 rfl (.tmp 13) (.tmp 20) _ 5 (by rfl) Try.underlying81 _ 1 1 Try.infoB rfl (by decide) (by decide) byE byE_len one_byE w.heap.size ro rc (m + 4) (xs ++ (int8 n).take 4) (by rw [List.length_append, ← HML.out]; rfl) (by rfl) (some ⟨wr.heap.size, 0, none⟩) 1 1 (by rfl) [by8 (n / 16777216)] rfl (HO.out.keep (Ex.new wr _) (Nat.le_refl _) (by simp)) (lit_cells (by simp [byE, by8_toNat])) (by omega) (by simp; omega) (m + 5) (by omega) ?_; intro ro2 rc2 w1 hown hex _ _)
      have HO2 : Hid (OwnB w1 w.heap.size ro2 rc2 (xs ++ (int8 n).take 5)) := by
        have h : OwnB w1 w.heap.size ro2 rc2 (xs ++ (int8 n).take 4 ++ [by8 (n / 16777216)]) := hown
        rw [List.append_assoc] at h; exact h
      have HE2 : Hid (Ex w.heap.size none w w1) := (HE.out.trans (Ex.new wr _) hsz (by simp)).trans hex (Nat.le_refl _) (by simp)
      clear hown hex
      go_roundw
      case rel => exact ⟨5, ro2, rc2, by omega, by first | rfl | go_num, rfl, HO2.out, HE2.out⟩
      case measure => simp [intOf]
    · go_wp2_with (at_builtin; refine wpList_appE2 rfl (.tmp 13) (.tmp 20) _ 5 (by rfl) Try.underlying81 _ 1 1 Try.infoB rfl (by decide) (by decide) byE byE_len one_byE w.heap.size ro rc (m + 5) (xs ++ (int8 n).take 5) (by rw [List.length_append, ← HML.out]; rfl) (by rfl) (some ⟨wr.heap.size, 0, none⟩) 1 1 (by rfl) [by8 (n / 65536)] rfl (HO.out.keep (Ex.new wr _) (Nat.le_refl _) (by simp)) (lit_cells (by simp [byE, by8_toNat])) (by omega) (by simp; omega) (m + 6) (by omega) ?_; intro ro2 rc2 w1 hown hex _ _)
      have HO2 : Hid (OwnB w1 w.heap.size ro2 rc2 (xs ++ (int8 n).take 6)) := by
        have h : OwnB w1 w.heap.size ro2 rc2 (xs ++ (int8 n).take 5 ++ [by8 (n / 65536)]) := hown
        rw [List.append_assoc] at h; exact h
      have HE2 : Hid (Ex w.heap.size none w w1) := (HE.out.trans (Ex.new wr _) hsz (by simp)).trans hex (Nat.le_refl _) (by simp)
      clear hown hex
      go_roundw
      case rel => exact ⟨6, ro2, rc2, by omega, by first | rfl | go_num, rfl, HO2.out, HE2.out⟩
      case measure => simp [intOf]
    · go_wp2_with (at_builtin; refine wpList_appE2 rfl (.tmp 13) (.tmp 20) _ 5 (by rfl) Try.underlying81 _ 1 1 Try.infoB rfl (by decide) (by decide) byE byE_len one_byE w.heap.size ro rc (m + 6) (xs ++ (int8 n).take 6) (by rw [List.length_append, ← HML.out]; rfl) (by rfl) (some ⟨wr.heap.size, 0, none⟩) 1 1 (by rfl) [by8 (n / 256)] rfl (HO.out.keep (Ex.new wr _) (Nat.le_refl _) (by simp)) (lit_cells (by simp [byE, by8_toNat])) (by omega) (by simp; omega) (m + 7) (by omega) ?_; intro ro2 rc2 w1 hown hex _ _)
      have HO2 : Hid (OwnB w1 w.heap.size ro2 rc2 (xs ++ (int8 n).take 7)) := by
        have h : OwnB w1 w.heap.size ro2 rc2 (xs ++ (int8 n).take 6 ++ [by8 (n / 256)]) := hown
        rw [List.append_assoc] at h; exact h
      have HE2 : Hid (Ex w.heap.size none w w1) := (HE.out.trans (Ex.new wr _) hsz (by simp)).trans hex (Nat.le_refl _) (by simp)
      clear hown hex
      go_roundw
      case rel => exact ⟨7, ro2, rc2, by omega, by first | rfl | go_num, rfl, HO2.out, HE2.out⟩
      case measure => simp [intOf]
    · go_wp2_with (at_builtin; refine wpList_appE2 rfl (.tmp 13) (.tmp 20) _ 5 (by rfl) Try.underlying81 _ 1 1 Try.infoB rfl (by decide) (by decide) byE byE_len one_byE w.heap.size ro rc (m + 7) (xs ++ (int8 n).take 7) (by rw [List.length_append, ← HML.out]; rfl) (by rfl) (some ⟨wr.heap.size, 0, none⟩) 1 1 (by rfl) [by8 (n)] rfl (HO.out.keep (Ex.new wr _) (Nat.le_refl _) (by simp)) (lit_cells (by simp [byE, by8_toNat])) (by omega) (by simp; omega) (m + 8) (by omega) ?_; intro ro2 rc2 w1 hown hex _ _)
      have HO2 : Hid (OwnB w1 w.heap.size ro2 rc2 (xs ++ (int8 n).take 8)) := by
        have h : OwnB w1 w.heap.size ro2 rc2 (xs ++ (int8 n).take 7 ++ [by8 (n)]) := hown
        rw [List.append_assoc] at h; exact h
      have HE2 : Hid (Ex w.heap.size none w w1) := (HE.out.trans (Ex.new wr _) hsz (by simp)).trans hex (Nat.le_refl _) (by simp)
      clear hown hex
      go_roundw
      case rel => exact ⟨8, ro2, rc2, by omega, by first | rfl | go_num, rfl, HO2.out, HE2.out⟩
      case measure => simp [intOf]
    · go_wp2
      go_ret
      exact ⟨ro, rc, rfl, HO.out, HE.out⟩
theorem OwnB.len {w : World} {base : Nat} {ao : Option Addr} {cap : Nat} {xs : List UInt8} (h : OwnB w base ao cap xs) {v : Value} {n : Nat} (hv : v = .slice ao n cap) (hn : n = xs.length) : Sl byRep (fun b => base ≤ b) w v xs := by
  subst hv hn; exact h.sl

set_option maxHeartbeats 1000000 in
theorem text02_any {P : Nat → Prop} (v : Value) (xs : List UInt8) (s : ByteArray) (w : World) (hv : Sl byRep P w v xs) (hm : xs.length ≤ 4000000) (hs : s.size ≤ 1000000) :
    Calls Try.prog 78 #[v, .string s] w fun e w' => ∃ ro rc, e = .returned (.slice ro (xs.length + 8 + s.size) rc) ∧ OwnB w' w.heap.size ro rc (xs ++ int8 s.size ++ strL s) ∧ Ex w.heap.size none w w' := by
  have HV := Lib.hid hv
  clear hv
  go_enter Try.func78, Try.ntmps78
  go_wp2_with fail
  refine (int02_any v xs s.size w HV.out (by omega)).mono ?_
  rintro e w1 ⟨ro, rc, rfl, hown, hex⟩
  have HO := Lib.hid hown
  have HE := Lib.hid hex
  have hz := hex.size
  clear hown hex
  go_wp2_with (at_builtin; refine wpList_appB_str rfl (.tmp 8) (.tmp 9) _ _ (by rfl) Try.underlying81 Try.underlying9 Try.infoB w.heap.size ro rc (xs.length + 8) (xs ++ int8 s.size) (by rw [List.length_append]; rfl) (by rfl) s (by rfl) HO.out (by omega) hz ?_; intro ro2 rc2 w2 hown2 hex2)
  go_ret
  exact ⟨ro2, rc2, rfl, hown2, HE.out.trans hex2 (Nat.le_refl _) (by simp)⟩

def intsB (l : List Int) : List UInt8 := l.flatMap int8
theorem intsB_len (l : List Int) : (intsB l).length = l.length * 8 := by
  induction l with
  | nil => rfl
  | cons x r ih => simp only [intsB, List.flatMap_cons, List.length_append, int8_len, List.length_cons] at *; omega
set_option maxHeartbeats 1000000 in
theorem ints02_any {P : Nat → Prop} (v u : Value) (xs : List UInt8) (l : List Int) (w : World) (hv : Sl byRep P w v xs) (hu : Ints w u l) (hm : xs.length ≤ 3000000) (hl : l.length ≤ 100000) :
    Calls Try.prog 80 #[v, u] w fun e w' => ∃ ro rc, e = .returned (.slice ro (xs.length + 8 + l.length * 8) rc) ∧ OwnB w' w.heap.size ro rc (xs ++ int8 l.length ++ intsB l) ∧ Ex w.heap.size none w w' := by
  obtain ⟨ao, cap, rfl, hx⟩ := hu
  have HV := Lib.hid hv
  have HX := Lib.hid hx
  clear hv hx
  go_enter Try.func80, Try.ntmps80
  go_wp2_with fail
  refine (int02_any v xs l.length w HV.out (by omega)).mono ?_
  rintro e w1 ⟨ro, rc, rfl, hown, hex⟩
  have HO := Lib.hid hown
  have HE := Lib.hid hex
  clear hown hex
  go_wp2_with fail
  go_loopw [5, 6] (fun v i wr => ∃ (k : Nat) (ro : Option Addr) (rc : Nat), k ≤ l.length ∧ i = .int .i64 k ∧ v = .slice ro (xs.length + 8 + k * 8) rc ∧ OwnB wr w.heap.size ro rc (xs ++ int8 l.length ++ intsB (l.take k)) ∧ Ex w.heap.size none w wr) (fun _ i _ => l.length - (intOf i).toNat)
  case atStart => exact ⟨0, ro, rc, by omega, rfl, by rw [Nat.zero_mul, Nat.add_zero], by simpa [intsB] using HO.out, HE.out⟩
  case round =>
    obtain ⟨k, ro, rc, hk, rfl, rfl, hown, hex⟩ := hrel
    have hsz := hex.size
    by_cases hlt : k < l.length
    · obtain ⟨b, off, y, rfl, hc, HY⟩ := (HX.out.keep hex (Nat.le_refl _) (by simp)).get k hlt
      have HK : Hid (intsB (l.take (k + 1)) = intsB (l.take k) ++ int8 y) := (show _ = _ by
        have h := HY.out
        rw [List.getD_eq_getElem?_getD, List.getElem?_eq_getElem hlt] at h
        simp only [Option.getD_some] at h
        rw [List.take_add_one, List.getElem?_eq_getElem hlt, h]
        simp [intsB])
      have HTL : Hid ((intsB (l.take k)).length = k * 8) := (show _ = _ by rw [intsB_len]; simp; omega)
      have HL : Hid ((xs ++ int8 l.length ++ intsB (l.take k)).length = xs.length + 8 + k * 8) := (show _ = _ by rw [List.length_append, List.length_append, HTL.out, int8_len])
      have HO := Lib.hid hown
      have HE := Lib.hid hex
      clear hown hex
      go_wp2_with fail
      refine (int02_any _ (xs ++ int8 l.length ++ intsB (l.take k)) y _ (HO.out.len rfl HL.out.symm) (by rw [HL.out]; omega)).mono ?_
      rw [HL.out]
      rintro e w2 ⟨ro2, rc2, rfl, hown2, hex2⟩
      have HO2 : Hid (OwnB w2 wr.heap.size ro2 rc2 (xs ++ int8 l.length ++ intsB (l.take k) ++ int8 y)) := hown2
      have HE2 := Lib.hid hex2
      clear hown2 hex2
      go_wp2
      go_roundw
      case rel => exact ⟨k + 1, ro2, rc2, by omega, by go_num, by rw [Nat.add_mul]; rfl, by rw [HK.out, ← List.append_assoc]; exact (show OwnE _ _ _ _ _ _ _ _ from HO2.out).lowerE hsz, HE.out.trans HE2.out hsz (by simp)⟩
      case measure => simp [intOf] <;> omega
    · obtain rfl : k = l.length := by omega
      rw [List.take_length] at hown
      go_wp2
      go_ret
      exact ⟨ro, rc, rfl, hown, hex⟩
end Go.Proofs.Ytdmchekkcmjafaa

namespace Go.Proofs.Ytdmchekkcmjafaa
open Go.RowKit Go.Sort

/-- The slice value v owns the bytes xs. -/
def ByV (w : World) (base : Nat) (v : Value) (xs : List UInt8) : Prop := ∃ ro rc, v = .slice ro xs.length rc ∧ OwnB w base ro rc xs
theorem ByV.sl {w : World} {base : Nat} {v : Value} {xs : List UInt8} (h : ByV w base v xs) : Sl byRep (fun b => base ≤ b) w v xs := by
  obtain ⟨ro, rc, rfl, h⟩ := h
  exact h.sl
theorem ByV.lower {w : World} {base base' : Nat} {v : Value} {xs : List UInt8} (h : ByV w base v xs) (hb : base' ≤ base) : ByV w base' v xs := by
  obtain ⟨ro, rc, e, h⟩ := h
  exact ⟨ro, rc, e, OwnE.lowerE h hb⟩
theorem ByV.keep {w w' : World} {base B : Nat} {v : Value} {xs : List UInt8} (h : ByV w base v xs) (hx : Ex B none w w') (hB : w.heap.size ≤ B) : ByV w' base v xs := by
  obtain ⟨ro, rc, e, h⟩ := h
  exact ⟨ro, rc, e, OwnE.keep h hx hB (by simp)⟩
theorem int02_v {P : Nat → Prop} (v : Value) (xs : List UInt8) (n : Int) (w : World) (hv : Sl byRep P w v xs) (hm : xs.length ≤ 5000000) :
    Calls Try.prog 79 #[v, .int .i64 n] w fun e w' => ∃ u, e = .returned u ∧ ByV w' w.heap.size u (xs ++ int8 n) ∧ Ex w.heap.size none w w' :=
  (int02_any v xs n w hv hm).mono fun e w' ⟨ro, rc, h1, h2, h3⟩ => ⟨_, h1, ⟨ro, rc, by rw [List.length_append]; rfl, h2⟩, h3⟩
theorem text02_v {P : Nat → Prop} (v : Value) (xs : List UInt8) (s : ByteArray) (w : World) (hv : Sl byRep P w v xs) (hm : xs.length ≤ 4000000) (hs : s.size ≤ 1000000) :
    Calls Try.prog 78 #[v, .string s] w fun e w' => ∃ u, e = .returned u ∧ ByV w' w.heap.size u (xs ++ int8 s.size ++ strL s) ∧ Ex w.heap.size none w w' :=
  (text02_any v xs s w hv hm hs).mono fun e w' ⟨ro, rc, h1, h2, h3⟩ => ⟨_, h1, ⟨ro, rc, by rw [List.length_append, List.length_append, strL_len]; rfl, h2⟩, h3⟩
theorem ints02_v {P : Nat → Prop} (v u : Value) (xs : List UInt8) (l : List Int) (w : World) (hv : Sl byRep P w v xs) (hu : Ints w u l) (hm : xs.length ≤ 3000000) (hl : l.length ≤ 100000) :
    Calls Try.prog 80 #[v, u] w fun e w' => ∃ u, e = .returned u ∧ ByV w' w.heap.size u (xs ++ int8 l.length ++ intsB l) ∧ Ex w.heap.size none w w' :=
  (ints02_any v u xs l w hv hu hm hl).mono fun e w' ⟨ro, rc, h1, h2, h3⟩ => ⟨_, h1, ⟨ro, rc, by rw [List.length_append, List.length_append, intsB_len]; rfl, h2⟩, h3⟩
end Go.Proofs.Ytdmchekkcmjafaa
