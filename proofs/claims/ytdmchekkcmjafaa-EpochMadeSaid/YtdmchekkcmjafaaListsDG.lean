/- made.Dice.Lists: a contract that tells bounds. No statement of the seat. -/
import Derived.Test.YtdmchekkcmjafaaSpoilDG
namespace Go.Proofs.Ytdmchekkcmjafaa
open Go.RowKit Go.Sort

theorem ElL.A {A B : Int → Prop} {T : Int} {l : List St} (h : ElL A T l) (k : ∀ x, A x → B x) : ElL B T l := fun s hs => ⟨k _ (h s hs).1, (h s hs).2⟩
set_option maxHeartbeats 8000000 in
set_option maxRecDepth 100000 in
theorem listsD_w (N p : Nat) (authors most : Nat) (w : World) (hd : DiceOK N w p) (hN : N ≤ w.heap.size) (ha : authors ≤ 10) (hm : most ≤ 10) :
    Calls Try.prog 24 #[.pointer (some ⟨p, 0, none⟩), .int .i64 authors, .int .i64 most] w fun e w' => ∃ (ro : Option Addr) (rc k : Nat) (l : List St), e = .returned (.slice ro k rc) ∧ (k = l.length ∧ k ≤ 200) ∧ OwnS w' w.heap.size ro rc l ∧ ElL (fun x => 0 ≤ x ∧ x < (authors : Int)) (11 + 20 * (most : Int)) l ∧ DiceOK N w' p ∧ Ex w.heap.size (some p) w w' := by
  have hp := hd.lt
  have HD0 := Lib.hid hd
  clear hd
  go_enter Try.func24, Try.ntmps24
  go_wp2
  go_loopw [7, 8] (fun v i wr => ∃ (j k : Nat) (ro : Option Addr) (rc : Nat) (l : List St), i = .int .i64 j ∧ v = .slice ro k rc ∧ Hid (l.length = k) ∧ j ≤ authors ∧ k ≤ j * 12 ∧ Hid (ElL (fun x => 0 ≤ x ∧ x < (authors : Int)) (11 + 20 * (most : Int)) l) ∧ Hid (OwnS wr w.heap.size ro rc l) ∧ Hid (DiceOK N wr p) ∧ Ex w.heap.size (some p) w wr) (fun _ i _ => authors - (intOf i).toNat)
  case atStart => exact ⟨0, 0, none, 0, [], rfl, rfl, Lib.hid rfl, by omega, by omega, Lib.hid (ElL.nil _ _), Lib.hid (OwnS.nil _ _), HD0, Ex.refl _ _ _⟩
  case round =>
    obtain ⟨j, k, ro, rc, l, rfl, rfl, HK, hj, hk, HEL, HO, HD, hex⟩ := hrel
    have hsz := hex.size
    by_cases h0 : j < authors
    · have h0I : (j : Int) < (authors : Int) := by omega
      go_wp2_with (first
        | (go_at_call 43
           refine (chainD_w N p j most wr HD.out (by omega) (by omega) hm).mono ?_
           rintro e w2 ⟨r2, c2, k2, l2, rfl, ⟨hk2, hk2m⟩, hown, hel, hd, hex2⟩
           have H2 : Hid (OwnS w2 wr.heap.size r2 c2 l2 ∧ ElL (fun x => x = (j : Int)) (9 + 20 * (most : Int)) l2 ∧ DiceOK N w2 p ∧ Ex wr.heap.size (some p) wr w2 ∧ k2 = l2.length) := Lib.hid ⟨hown, hel, hd, hex2, hk2⟩
           have hz2 : wr.heap.size ≤ w2.heap.size := hex2.size
           clear hown hel hd hex2 hk2)
        | (go_at_call 42
           refine (spoilD_w N p _ l2 (fun x => x = (j : Int)) (9 + 20 * (most : Int)) w2 H2.out.2.2.1 (by omega) (by have h := H2.out.1.sl; rw [← H2.out.2.2.2.2] at h; exact h) H2.out.2.1 (by omega) (by have := H2.out.2.2.2.2; omega)).mono ?_
           rintro e w3 ⟨r3, c3, k3, l3, rfl, ⟨hk3, hk3m⟩, hown, hel, hd, hex3⟩
           have hk3n : k3 ≤ 12 := by have := H2.out.2.2.2.2; omega
           obtain ⟨xs, a2, hxs, hlies, hs1, _, _, _, _⟩ := hown.t.parts k3 (by omega)
           have H3 : Hid (xs.map (·.1) = l3 ∧ (∀ x ∈ xs, Lies (fun b => w2.heap.size ≤ b ∧ rowOf r3 ≠ some b) w3 x) ∧ Src w3 r3 (xs.take k3) ∧ k3 = l3.length ∧ ElL (fun x => x = (j : Int)) (9 + 20 * (most : Int) + 2) l3 ∧ DiceOK N w3 p ∧ Ex wr.heap.size (some p) wr w3) := Lib.hid ⟨hxs, hlies, hs1, hk3, hel, hd, H2.out.2.2.2.1.trans hex3 hz2 (fun q e _ => by cases e; rfl)⟩
           have hz3 : w2.heap.size ≤ w3.heap.size := hex3.size
           have HO3 : Hid (OwnS w3 w.heap.size ro rc l) := Lib.hid (HO.out.keepP H3.out.2.2.2.2.2.2 (Nat.le_refl _) (fun q e => by cases e; omega))
           have HXL : Hid (xs.take k3 = xs) := Lib.hid (List.take_of_length_le (by rw [hk3, ← hxs]; simp))
           clear hxs hlies hs1 hk3 hk3m hown hel hd hex3)
        | (at_builtin; refine wpList_appT rfl (.tmp 14) (.tmp 20) _ (by rfl) Try.underlying22 Try.infoSt w.heap.size w.heap.size ro rc k l HK.out (by rfl) r3 k3 c3 (by rfl) (xs.take k3) (by rw [HXL.out, H3.out.2.2.2.1, ← H3.out.1]; simp) HO3.out.t H3.out.2.2.1 (fun x hx => (H3.out.2.1 x (List.mem_of_mem_take hx)).mono fun b h _ => ⟨by omega, fun e => by have := HO.out.t.row b e; omega⟩) (by omega) (by omega) (k + k3) rfl ?_; intro ao4 cap4 w4 hod hed hbd hrd; have H4 : Hid (OwnS w4 w.heap.size ao4 cap4 (l ++ l3) ∧ Ex w.heap.size none w3 w4) := Lib.hid ⟨by rw [HXL.out, H3.out.1] at hod; exact hod, hed⟩; clear hod hed hbd hrd)
        | fail)
      go_roundw
      case rel => exact ⟨j + 1, k + k3, ao4, cap4, l ++ l3, by go_num, rfl, Lib.hid (by rw [List.length_append, HK.out, ← H3.out.2.2.2.1]), by omega, by omega, Lib.hid (HEL.out.app ((H3.out.2.2.2.2.1.A fun x hx => by omega).le (by omega))), Lib.hid H4.out.1, Lib.hid (H3.out.2.2.2.2.2.1.keep H4.out.2 hN), (hex.trans H3.out.2.2.2.2.2.2 hsz (fun q e _ => by cases e; rfl)).trans H4.out.2 (Nat.le_refl _) (by simp)⟩
      case measure => simp [intOf] <;> omega
    · have h0I : ¬ (j : Int) < (authors : Int) := by omega
      go_wp2
      go_ret
      exact ⟨ro, rc, k, rfl, l, ⟨HK.out.symm, by omega⟩, HO.out, HEL.out, HD.out, hex⟩
end Go.Proofs.Ytdmchekkcmjafaa
