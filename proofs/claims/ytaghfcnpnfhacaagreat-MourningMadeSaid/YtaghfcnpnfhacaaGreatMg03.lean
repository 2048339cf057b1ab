/- Dice: Roll, Next, Some, Keys: contracts, no statement of the seat. | Dice.One: a contract, no statement of the seat. | ref35.Same: a contract, no statement of the seat. | Minus: a contract, no statement of the seat. | Some: contracts, no statement of the seat. | mill.Keys: contracts, no statement of the seat. | mill.Light: contracts, no statement of the seat. | mill.Roll: contracts, no statement of the seat. -/
import Derived.Test.YtaghfcnpnfhacaaGreatMg02
import Derived.Test.YtaghfcnpnfhacaaGreatMg00
import Derived.Test.YtaghfcnpnfhacaaGreatMg01
import Derived.BigQuiet
import Derived.Test.YtaghfcnpnfhacaaGreatRows
namespace Go.Proofs.YtaghfcnpnfhacaaGreat
open Go.RowKit

/-- Block p is a Dice whose numbers that are left are d; it and its list lie below block N. -/
def DiceAt (N : Nat) (w : World) (p : Nat) (d : List Int) : Prop :=
  ∃ (L : List Int) (at' : Nat) (ao : Option Addr) (cap : Nat), w.heap[p]? = some (.cells #[.slice ao L.length cap, .int .i64 at'] 158 (0, 0)) ∧ at' ≤ L.length ∧ d = L.drop at' ∧ L.length ≤ 1000000 ∧ IntsAt w ao L ∧ (L ≠ [] → ∀ a, ao = some a → a.block < N ∧ a.block ≠ p) ∧ p < N

theorem DiceAt.keep {N : Nat} {w w' : World} {p B : Nat} {d : List Int} (h : DiceAt N w p d) (hx : Ex B none w w') (hB : N ≤ B) : DiceAt N w' p d := by
  obtain ⟨L, at', ao, cap, h1, h2, h3, h4, h5, h6, h7⟩ := h
  refine ⟨L, at', ao, cap, ?_, h2, h3, h4, fun j hj => ?_, h6, h7⟩
  · rw [hx.block p (by omega) (by simp)]
    exact h1
  · obtain ⟨b, off, e, hc⟩ := h5 j hj
    refine ⟨b, off, e, fun i hi => ?_⟩
    have hbN : b < N := (h6 (by intro h; simp [h] at hj) _ e).1
    exact (World.cell?_of_block (w := w) (hx.block b (by omega) (by simp))).trans (hc i hi)
theorem DiceAt.lt {N : Nat} {w : World} {p : Nat} {d : List Int} (h : DiceAt N w p d) : p < N := by
  obtain ⟨L, at', ao, cap, _, _, _, _, _, _, h7⟩ := h
  exact h7

theorem cell_at {w : World} {b o : Nat} {cs : Array Value} {e : TypeId} {fr : Nat × Nat} {v : Value} (h : w.heap[b]? = some (.cells cs e fr)) (hv : cs[o]? = some v) : w.cell? ⟨b, o, none⟩ = some v := by
  simp [World.cell?, h, hv]
theorem free_at {w : World} {b o : Nat} {cs : Array Value} {e : TypeId} (h : w.heap[b]? = some (.cells cs e (0, 0))) : w.frozen? ⟨b, o, none⟩ = false := by
  simp [World.frozen?, h]
/-- A block of literals that the call has just laid owns them. -/
theorem own_lit {base : Nat} (w : World) (hb : base ≤ w.heap.size) (xs : List Int) (n : Nat) (hn : xs.length = n) (hm : n ≤ maxLen) (hx : 0 < n) : OwnI (w.alloc (.cells (xs.map (Value.int .i64)).toArray 3)) base (some ⟨w.heap.size, 0, none⟩) n xs := by
  subst hn
  refine ⟨by simp, .inr ⟨w.heap.size, xs.length, _, rfl, hb, heap_alloc_new w _, Nat.le_refl _, hm, by simp, ?_⟩⟩
  rw [List.take_of_length_le (by simp)]
theorem own_lit1 {base : Nat} (w : World) (hb : base ≤ w.heap.size) (x : Int) : OwnI (w.alloc (.cells #[.int .i64 x] 3)) base (some ⟨w.heap.size, 0, none⟩) 1 [x] := own_lit w hb [x] 1 rfl (by decide) (by decide)

theorem heap_setCell {w : World} {b o : Nat} {cs : Array Value} {e : TypeId} {fr : Nat × Nat} (h : w.heap[b]? = some (.cells cs e fr)) (v : Value) : (w.setCell ⟨b, o, none⟩ v).heap[b]? = some (.cells (cs.setIfInBounds o v) e fr) := by
  simp [World.setCell, Array.getElem?_modify, h]

set_option maxHeartbeats 400000 in
theorem next_any (N p : Nat) (d : List Int) (n : Int) (w : World) (hd : DiceAt N w p d) (hn : n ≤ 4611686018427387904) :
    Calls Tryz.prog 38 #[.pointer (some ⟨p, 0, none⟩), .int .i64 n] w fun e w' => e = .returned (.int .i64 (dVal d n)) ∧ DiceAt N w' p d.tail ∧ Ex w.heap.size (some p) w w' := by
  obtain ⟨L, k, ao, cap, hh, hk, hdl, hL, hx, haw, hpN⟩ := hd
  have c0 := cell_at (o := 0) hh rfl
  have c1 := cell_at (o := 1) hh rfl
  have f1 := free_at (o := 1) hh
  by_cases hlt : k < L.length
  · obtain ⟨b, off, y, rfl, hck, HY⟩ := hx.get k hlt
    have hbp : b ≠ p := (haw (by intro h; simp [h] at hlt) _ rfl).2
    have HA := Lib.hid haw
    have hdd : d = y :: L.drop (k + 1) := by
      rw [hdl, List.drop_eq_getElem_cons hlt, ← HY.out]; simp [List.getD, hlt]
    have HD := Lib.hid hdd
    have HH := Lib.hid hh
    have HX := Lib.hid hx
    clear hdd hdl hh hx haw
    have hbp2 : p ≠ b := fun h => hbp h.symm
    go_enter Tryz.func38, Tryz.ntmps38
    go_wp2
    go_quiet (fail)
    go_wp2
    go_quiet ((go_at_call 118; exact Calls.quiet_of_same ((mod_any _ _ _ hn).mono fun _ _ h => ⟨h.1, h.2.symm⟩)))
    go_wp2
    go_ret
    refine ⟨by rw [HD.out]; rfl, ?_, (((Ex.refl _ _ _).drewN).setCell _ _ _ (Or.inl rfl)).drewN⟩
    refine ⟨L, k + 1, some ⟨b, off, none⟩, cap, ?_, by omega, by rw [HD.out]; rfl, hL, fun j hj => ?_, HA.out, hpN⟩
    · exact (heap_setCell (w := w) (o := 1) HH.out (.int .i64 ((k : Int) + 1))).trans (by simp)
    · obtain ⟨b', off', e, hc⟩ := HX.out j hj
      refine ⟨b', off', e, fun i hi => ?_⟩
      cases e
      exact (World.cell?_setCell_other (w := w) _ _ _ (by simp)).trans (hc i hi)
  · have hd0 : d = [] := by rw [hdl, List.drop_eq_nil_of_le (by omega)]
    have hge : L.length ≤ k := by omega
    have HH : DiceAt N w p [] := ⟨L, k, ao, cap, hh, hk, by rw [List.drop_eq_nil_of_le (by omega)], hL, hx, haw, hpN⟩
    have HH := Lib.hid HH
    subst hd0
    clear hdl hh hx haw
    go_enter Tryz.func38, Tryz.ntmps38
    go_wp2
    go_quiet (fail)
    go_wp2
    go_ret
    exact ⟨rfl, HH.out, (Ex.refl _ _ _).drewN⟩

set_option maxHeartbeats 400000 in
theorem madeRoll_any (v1 : Value) (L : List Int) (w : World) (hv1 : Ints w v1 L) (hL : L.length ≤ 1000000) :
    Calls Tryz.prog 63 #[v1] w fun e w' => ∃ p, e = .returned (.pointer (some ⟨p, 0, none⟩)) ∧ DiceAt (p + 1) w' p L ∧ w.heap.size ≤ p ∧ p + 1 ≤ w'.heap.size ∧ Ex w.heap.size none w w' := by
  obtain ⟨ao, cap, rfl, hx⟩ := hv1
  have HX := Lib.hid hx
  clear hx
  go_enter Tryz.func63, Tryz.ntmps63
  go_wp2
  go_ret
  exact ⟨_, rfl, ⟨L, 0, ao, cap, heap_alloc_new w _, Nat.zero_le _, rfl, hL, HX.out.keep (Ex.new w _) (Nat.le_refl _) (by simp), fun hne a ha => by have := HX.out.lt hne a ha; omega, by omega⟩, Nat.le_refl _, by simp, Ex.new w _⟩

end Go.Proofs.YtaghfcnpnfhacaaGreat

namespace Go.Proofs.YtaghfcnpnfhacaaGreat
open Go.RowKit

end Go.Proofs.YtaghfcnpnfhacaaGreat

namespace Go.Proofs.YtaghfcnpnfhacaaGreat
open Go.RowKit Go.Sort

theorem heirs_neq (y z : (Int × Int)) : ∀ w, (binOp .neq 25 (.agg #[.int .i64 y.1, .int .i64 y.2]) (.agg #[.int .i64 z.1, .int .i64 z.2])).run Tryz.prog w = .ok (.bool (!decide (y = z))) w := fun w => by
  obtain ⟨y1, y2⟩ := y
  obtain ⟨z1, z2⟩ := z
  simp [go_sem]
  by_cases h1 : y1 = z1 <;> by_cases h2 : y2 = z2 <;> simp [h1, h2]

set_option maxHeartbeats 400000 in
theorem same35_any {P Q : Nat → Prop} (v1 v2 : Value) (xs ys : List (Int × Int)) (w : World) (hv1 : Sl heirRep P w v1 xs) (hv2 : Sl heirRep Q w v2 ys) (hm : xs.length ≤ 9223372036854775807) :
    Calls Tryz.prog 22 #[v1, v2] w fun e w' => e = .returned (.bool (decide (xs = ys))) ∧ Ex w.heap.size none w w' := by
  obtain ⟨ao, cap, rfl, hx⟩ := hv1
  obtain ⟨bo, cbp, rfl, hy⟩ := hv2
  by_cases hl : xs.length = ys.length
  · have hl1 : ((xs.length : Int) != ys.length) = false := by simp [hl]
    have HL := Lib.hid hl
    go_enter Tryz.func22, Tryz.ntmps22
    clear hl
    go_wp2
    clear hl1
    go_loopw [5] (fun i wr => ∃ k : Nat, k ≤ xs.length ∧ i = .int .i64 k ∧ xs.take k = ys.take k ∧ ∃ n, w.drewN n = wr) (fun i _ => xs.length - (intOf i).toNat)
    case atStart => exact ⟨0, Nat.zero_le _, rfl, by simp, 0, rfl⟩
    case round =>
      obtain ⟨k, hk, rfl, ht, n, rfl⟩ := hrel
      have HT := Lib.hid ht
      clear ht
      by_cases hlt : k < xs.length
      · have hlt2 : k < ys.length := by have := HL.out; omega
        obtain ⟨b, off, cs, y, rfl, _, hr, hR, HY⟩ := hx.get k hlt
        obtain ⟨b', off', cs', z, rfl, _, hr', hR', HZ⟩ := hy.get k hlt2
        have c0 : ∀ q, (w.drewN q).cell? ⟨b, off + k * 2, none⟩ = some (.int .i64 y.1) := fun q => hr 0 _ (by rw [show cs = _ from hR]; rfl)
        have c1 : ∀ q, (w.drewN q).cell? ⟨b, off + k * 2 + 1, none⟩ = some (.int .i64 y.2) := fun q => hr 1 _ (by rw [show cs = _ from hR]; rfl)
        have d0 : ∀ q, (w.drewN q).cell? ⟨b', off' + k * 2, none⟩ = some (.int .i64 z.1) := fun q => hr' 0 _ (by rw [show cs' = _ from hR']; rfl)
        have d1 : ∀ q, (w.drewN q).cell? ⟨b', off' + k * 2 + 1, none⟩ = some (.int .i64 z.2) := fun q => hr' 1 _ (by rw [show cs' = _ from hR']; rfl)
        have hne := heirs_neq y z
        clear hr hR hr' hR'
        by_cases he : y = z
        · have HR := Lib.hid (same_takeG HT.out HY.out HZ.out he)
          have hne' : ∀ w, (binOp .neq 25 (.agg #[.int .i64 y.1, .int .i64 y.2]) (.agg #[.int .i64 z.1, .int .i64 z.2])).run Tryz.prog w = .ok (.bool false) w := fun w => by
            have := hne w; rw [decide_eq_true he] at this; exact this
          clear hne he
          go_wp2_with fail
          go_quiet (fail)
          go_wp2
          go_roundw
          case rel => exact ⟨k + 1, by omega, by go_num, HR.out, _, rfl⟩
          case measure => simp [intOf]; omega
        · have HR : Hid (xs ≠ ys) := fun h => he (by have := HY.out; rw [h, HZ.out] at this; cases this; rfl)
          have hne' : ∀ w, (binOp .neq 25 (.agg #[.int .i64 y.1, .int .i64 y.2]) (.agg #[.int .i64 z.1, .int .i64 z.2])).run Tryz.prog w = .ok (.bool true) w := fun w => by
            have := hne w; rw [decide_eq_false he] at this; exact this
          clear hne he
          go_wp2_with fail
          go_quiet (fail)
          go_wp2
          go_ret
          exact ⟨ret_bool (by simp [HR.out]), by repeat (first | exact Ex.refl _ _ _ | refine Ex.drewN ?_)⟩
      · have HR : Hid (xs = ys) := by
          have h := HT.out
          have := HL.out
          rwa [List.take_of_length_le (by omega), List.take_of_length_le (by omega)] at h
        go_wp2
        go_ret
        exact ⟨ret_bool (by simp [HR.out]), by repeat (first | exact Ex.refl _ _ _ | refine Ex.drewN ?_)⟩
  · have hl1 : ((xs.length : Int) != ys.length) = true := by simp; omega
    have HR : Hid (xs ≠ ys) := fun h => hl (by rw [h])
    clear hl
    go_enter Tryz.func22, Tryz.ntmps22
    go_wp2
    go_ret
    exact ⟨ret_bool (by simp [HR.out]), Ex.refl _ _ _⟩
end Go.Proofs.YtaghfcnpnfhacaaGreat

namespace Go.Proofs.YtaghfcnpnfhacaaGreat
open Go.RowKit

set_option maxHeartbeats 400000 in
theorem minus_any (v1 v2 : Value) (xs ys : List Int) (w : World) (hv1 : Ints w v1 xs) (hv2 : Ints w v2 ys) (hm : xs.length ≤ 9223372036854775807) (hm2 : ys.length ≤ 9223372036854775807) :
    Calls Tryz.prog 64 #[v1, v2] w fun e w' => ∃ ro rc, e = .returned (.slice ro (minusI xs ys).length rc) ∧ OwnI w' w.heap.size ro rc (minusI xs ys) ∧ Ex w.heap.size none w w' := by
  obtain ⟨ao, cap, rfl, hx⟩ := hv1
  obtain ⟨bo, cbp, rfl, hy⟩ := hv2
  go_enter Tryz.func64, Tryz.ntmps64
  go_wp2
  go_loopw [5, 6] (fun v i wr => ∃ (k : Nat) (ro : Option Addr) (rc : Nat), k ≤ 64 ∧ i = .int .i64 k ∧ v = .slice ro (keysTo (fun k => hasI xs k && !hasI ys k) k).length rc ∧ OwnI wr w.heap.size ro rc (keysTo (fun k => hasI xs k && !hasI ys k) k) ∧ Ex w.heap.size none w wr) (fun _ i _ => 64 - (intOf i).toNat)
  case atStart => exact ⟨0, none, 0, by omega, rfl, rfl, OwnI.nil _ _, Ex.refl _ _ _⟩
  case round =>
    obtain ⟨k, ro, rc, hk, rfl, rfl, hown, hex⟩ := hrel
    have hle := keysTo_le (fun k => hasI xs k && !hasI ys k) k
    have hsz := hex.size
    have hx1 := hx.keep hex (Nat.le_refl _) (by simp)
    have hy1 := hy.keep hex (Nat.le_refl _) (by simp)
    by_cases hlt : k < 64
    · by_cases h2 : hasI xs (k : Int) = true
      · by_cases h3 : hasI ys (k : Int) = true
        · have HK := Lib.hid (keysTo_no (c := (fun k => hasI xs k && !hasI ys k)) (k := k) (by simp [h3]))
          go_wp2_with (first
            | (go_at_call 44; refine (refHas_any _ _ _ _ (by first | exact ⟨_, _, rfl, hx1⟩ | exact ⟨_, _, rfl, hy1⟩) (by first | exact hm | exact hm2)).mono ?_; rintro e w' ⟨rfl, rfl⟩)
            | (at_builtin; refine wpList_appI rfl _ _ _ rfl Tryz.underlying22 Tryz.infoInt w.heap.size ro rc _ wr.heap.size k rfl rfl hown (Ex.new _ _) (by go_simp) (by omega) hsz ?_; intro ro' rc' w1 hown1 hex1))
          go_roundw
          case rel => exact ⟨k + 1, ro, rc, by omega, by go_num, by rw [HK.out], by rw [HK.out]; exact hown, hex⟩
          case measure => simp [intOf]; omega
        · replace h3 : hasI ys (k : Int) = false := by simpa using h3
          have HK := Lib.hid (keysTo_yes (c := (fun k => hasI xs k && !hasI ys k)) (k := k) (by simp [h2, h3]))
          go_wp2_with (first
            | (go_at_call 44; refine (refHas_any _ _ _ _ (by first | exact ⟨_, _, rfl, hx1⟩ | exact ⟨_, _, rfl, hy1⟩) (by first | exact hm | exact hm2)).mono ?_; rintro e w' ⟨rfl, rfl⟩)
            | (at_builtin; refine wpList_appI rfl _ _ _ rfl Tryz.underlying22 Tryz.infoInt w.heap.size ro rc _ wr.heap.size k rfl rfl hown (Ex.new _ _) (by go_simp) (by omega) hsz ?_; intro ro' rc' w1 hown1 hex1))
          go_roundw
          case rel => exact ⟨k + 1, ro', rc', by omega, by go_num, by rw [HK.out, List.length_append]; rfl, by rw [HK.out]; exact hown1, hex.trans hex1 (Nat.le_refl _) (by simp)⟩
          case measure => simp [intOf]; omega
      · replace h2 : hasI xs (k : Int) = false := by simpa using h2
        have HK := Lib.hid (keysTo_no (c := (fun k => hasI xs k && !hasI ys k)) (k := k) (by simp [h2]))
        go_wp2_with (first
          | (go_at_call 44; refine (refHas_any _ _ _ _ (by first | exact ⟨_, _, rfl, hx1⟩ | exact ⟨_, _, rfl, hy1⟩) (by first | exact hm | exact hm2)).mono ?_; rintro e w' ⟨rfl, rfl⟩)
          | (at_builtin; refine wpList_appI rfl _ _ _ rfl Tryz.underlying22 Tryz.infoInt w.heap.size ro rc _ wr.heap.size k rfl rfl hown (Ex.new _ _) (by go_simp) (by omega) hsz ?_; intro ro' rc' w1 hown1 hex1))
        go_roundw
        case rel => exact ⟨k + 1, ro, rc, by omega, by go_num, by rw [HK.out], by rw [HK.out]; exact hown, hex⟩
        case measure => simp [intOf]; omega
    · obtain rfl : k = 64 := by omega
      go_wp2
      go_ret
      exact ⟨ro, rc, rfl, hown, hex⟩
end Go.Proofs.YtaghfcnpnfhacaaGreat

namespace Go.Proofs.YtaghfcnpnfhacaaGreat
open Go.RowKit

theorem someTo_yes {d : List Int} {k : Nat} (h : dVal (someTo d k).2 3 = 0) : (someTo d (k + 1)).1 = (someTo d k).1 ++ [(k : Int)] := by rw [someTo, if_pos h]
theorem someTo_no {d : List Int} {k : Nat} (h : ¬ dVal (someTo d k).2 3 = 0) : (someTo d (k + 1)).1 = (someTo d k).1 := by rw [someTo, if_neg h, List.append_nil]
theorem someTo_rest {d : List Int} {k : Nat} : (someTo d (k + 1)).2 = (someTo d k).2.tail := rfl

set_option maxHeartbeats 400000 in
theorem some_any (N p : Nat) (d : List Int) (n : Int) (w : World) (hd : DiceAt N w p d) (hN : N ≤ w.heap.size) (h0 : 0 ≤ n) (hn : n ≤ 100000) :
    Calls Tryz.prog 117 #[.pointer (some ⟨p, 0, none⟩), .int .i64 n] w fun e w' => ∃ ro rc, e = .returned (.slice ro (someTo d n.toNat).1.length rc) ∧
      OwnI w' w.heap.size ro rc (someTo d n.toNat).1 ∧ DiceAt N w' p (someTo d n.toNat).2 ∧ Ex w.heap.size (some p) w w' := by
  obtain ⟨m, rfl⟩ := Int.eq_ofNat_of_zero_le h0
  rw [Int.toNat_natCast]
  have hp := hd.lt
  have hm : m ≤ 100000 := by omega
  go_enter Tryz.func117, Tryz.ntmps117
  go_wp2
  go_loopw [5, 6] (fun v i wr => ∃ (k : Nat) (ro : Option Addr) (rc : Nat), k ≤ m ∧ i = .int .i64 k ∧ v = .slice ro (someTo d k).1.length rc ∧ OwnI wr w.heap.size ro rc (someTo d k).1 ∧ DiceAt N wr p (someTo d k).2 ∧ Ex w.heap.size (some p) w wr) (fun _ i _ => m - (intOf i).toNat)
  case atStart => exact ⟨0, none, 0, by omega, rfl, rfl, OwnI.nil _ _, hd, Ex.refl _ _ _⟩
  case round =>
    obtain ⟨k, ro, rc, hk, rfl, rfl, hown, hdr, hex⟩ := hrel
    have hle := someTo_le d k
    have hsz := hex.size
    by_cases hlt : k < m
    · by_cases hv : dVal (someTo d k).2 3 = 0
      · have HK := Lib.hid (someTo_yes hv)
        have hb : (dVal (someTo d k).2 3 == 0) = true := by simpa using hv
        clear hv
        go_wp2_with (first
          | (go_at_call 38; refine (next_any N p _ _ _ hdr (by omega)).mono ?_; rintro e w2 ⟨rfl, hd2, hex2⟩; have hsz2 := hex2.size; have hown2 := hown.keep hex2 (Nat.le_refl _) (fun q e => by cases e; omega))
          | (at_builtin; refine wpList_appI (w0 := w2) rfl _ _ _ rfl Tryz.underlying22 Tryz.infoInt w.heap.size ro rc _ w2.heap.size k rfl rfl hown2 (Ex.new _ _) (by go_simp) (by omega) (by omega) ?_; intro ro' rc' w1 hown1 hex1))
        go_roundw
        case rel => exact ⟨k + 1, ro', rc', by omega, by go_num, by rw [HK.out, List.length_append]; rfl, by rw [HK.out]; exact hown1, hd2.keep hex1 (by omega), (hex.trans hex2 hsz (fun q e _ => by cases e; rfl)).trans hex1 (Nat.le_refl _) (by simp)⟩
        case measure => simp [intOf]; omega
      · have HK := Lib.hid (someTo_no hv)
        have hb : (dVal (someTo d k).2 3 == 0) = false := by simpa using hv
        clear hv
        go_wp2_with (first
          | (go_at_call 38; refine (next_any N p _ _ _ hdr (by omega)).mono ?_; rintro e w2 ⟨rfl, hd2, hex2⟩; have hsz2 := hex2.size; have hown2 := hown.keep hex2 (Nat.le_refl _) (fun q e => by cases e; omega)))
        go_roundw
        case rel => exact ⟨k + 1, ro, rc, by omega, by go_num, by rw [HK.out], by rw [HK.out]; exact hown2, by rw [someTo_rest]; exact hd2, hex.trans hex2 hsz (fun q e _ => by cases e; rfl)⟩
        case measure => simp [intOf]; omega
    · obtain rfl : k = m := by omega
      go_wp2
      go_ret
      exact ⟨ro, rc, rfl, hown, hdr, hex⟩

end Go.Proofs.YtaghfcnpnfhacaaGreat

namespace Go.Proofs.YtaghfcnpnfhacaaGreat
open Go.RowKit

set_option maxHeartbeats 400000 in
theorem keys_any (N p : Nat) (d : List Int) (n : Int) (w : World) (hd : DiceAt N w p d) (hN : N ≤ w.heap.size) (h0 : 0 ≤ n) (hn : n ≤ 100000) :
    Calls Tryz.prog 65 #[.pointer (some ⟨p, 0, none⟩), .int .i64 n] w fun e w' => ∃ ro rc, e = .returned (.slice ro (keysD d n).1.length rc) ∧
      OwnI w' w.heap.size ro rc (keysD d n).1 ∧ DiceAt N w' p (keysD d n).2 ∧ Ex w.heap.size (some p) w w' := by
  have hp := hd.lt
  by_cases h : (someTo d n.toNat).1 = []
  · have HK : Hid (keysD d n = ([dVal (someTo d n.toNat).2 n], (someTo d n.toNat).2.tail)) := if_pos h
    have hl : (((someTo d n.toNat).1.length : Int) == 0) = true := by simp [h]
    clear h
    go_enter Tryz.func65, Tryz.ntmps65
    go_wp2_with (first
      | (go_at_call 117; refine (some_any N p _ _ _ hd hN h0 hn).mono ?_; rintro e w2 ⟨ro, rc, rfl, hown2, hd2, hex2⟩; have hsz2 := hex2.size)
      | (go_at_call 38; refine (next_any N p _ _ _ hd2 (by omega)).mono ?_; rintro e w3 ⟨rfl, hd3, hex3⟩; have hsz3 := hex3.size))
    go_ret
    refine ⟨some ⟨w3.heap.size, 0, none⟩, 1, by rw [HK.out]; rfl, ?_, by rw [HK.out]; exact hd3.keep (Ex.new _ _) (by omega), ((hex2.trans hex3 hsz2 (fun q e _ => by cases e; rfl)).alloc (by omega) _)⟩
    rw [HK.out]
    exact own_lit1 w3 (by omega) _
  · have HK : Hid (keysD d n = someTo d n.toNat) := if_neg h
    have hl : (((someTo d n.toNat).1.length : Int) == 0) = false := by simpa using h
    clear h
    go_enter Tryz.func65, Tryz.ntmps65
    go_wp2_with (first
      | (go_at_call 117; refine (some_any N p _ _ _ hd hN h0 hn).mono ?_; rintro e w2 ⟨ro, rc, rfl, hown2, hd2, hex2⟩; have hsz2 := hex2.size))
    go_ret
    exact ⟨ro, rc, by rw [HK.out]; rfl, by rw [HK.out]; exact hown2, by rw [HK.out]; exact hd2, hex2⟩
end Go.Proofs.YtaghfcnpnfhacaaGreat

namespace Go.Proofs.YtaghfcnpnfhacaaGreat
open Go.RowKit

theorem light_any (ao : Option Addr) (cap n : Nat) (w : World) :
    Calls Tryz.prog 11 #[.slice ao n cap] w fun e w' => e = .returned (.bool (decide ((n : Int) ≤ 400))) ∧ w = w' := by
  go_enter Tryz.func11, Tryz.ntmps11
  go_wp2
  go_ret
  exact ⟨rfl, rfl⟩

end Go.Proofs.YtaghfcnpnfhacaaGreat

namespace Go.Proofs.YtaghfcnpnfhacaaGreat
open Go.RowKit

theorem roll_any (v1 : Value) (L : List Int) (w : World) (hv1 : Ints w v1 L) (hL : L.length ≤ 1000000) :
    Calls Tryz.prog 13 #[v1] w fun e w' => ∃ p, e = .returned (.pointer (some ⟨p, 0, none⟩)) ∧ DiceAt (p + 1) w' p L ∧ w.heap.size ≤ p ∧ p + 1 ≤ w'.heap.size ∧ Ex w.heap.size none w w' := by
  obtain ⟨ao, cap, rfl, hx⟩ := hv1
  go_enter Tryz.func13, Tryz.ntmps13
  go_wp2_with (go_at_call 63; refine (madeRoll_any _ _ _ ⟨_, _, rfl, hx⟩ hL).mono ?_; rintro e w' ⟨p, rfl, h1, h2, h3, h4⟩)
  go_ret
  exact ⟨_, rfl, h1, h2, h3, h4⟩

end Go.Proofs.YtaghfcnpnfhacaaGreat
