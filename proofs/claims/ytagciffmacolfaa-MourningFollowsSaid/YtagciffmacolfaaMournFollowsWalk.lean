/- MourningFollows: the walk of the law. -/
import Derived.Test.YtagciffmacolfaaAwake35
import Derived.Test.YtagciffmacolfaaMillMod
import Derived.Deep.RegionHeld3
import Derived.Deep.RegionLaw
import Derived.Deep.RegionWith
import Derived.BigRegion
namespace Go.Proofs.Ytagciffmacolfaa
open Go.RowKit Go.Sort

/-- A slice value that reads as heirs, in a block of its own from 'base' on. -/
def HeirsIn (w : World) (base : Nat) (v : Value) (d : List (Int × Int)) : Prop := ∃ ao cap, v = .slice ao d.length cap ∧ (d = [] ∨ ∃ g, ao = some ⟨g, 0, none⟩ ∧ base ≤ g ∧ g < w.heap.size ∧ HoldsK encH 2 w g 0 d.toArray)
theorem HeirsIn.sl {w : World} {base : Nat} {v : Value} {d : List (Int × Int)} (h : HeirsIn w base v d) : Sl heirRep (fun _ => True) w v d := by
  obtain ⟨ao, cap, rfl, h⟩ := h
  rcases h with rfl | ⟨g, rfl, _, _, hH⟩
  · exact ⟨ao, cap, rfl, SlAt.nil _ _ _⟩
  · exact ⟨_, cap, rfl, sl_holdsK trivial hH⟩
theorem own_heirsIn {w : World} {base : Nat} {ao : Option Addr} {cap n : Nat} {d : List (Int × Int)} (h : OwnE encH 2 43 w base ao cap d) (hn : n = d.length) : HeirsIn w base (.slice ao n cap) d := by
  subst hn
  refine ⟨ao, cap, rfl, ?_⟩
  rcases h.cases with ⟨_, _, h0⟩ | ⟨g, rfl, h1, h2, _⟩
  · exact Or.inl h0
  · exact Or.inr ⟨g, rfl, h1, h2, OwnE.holds (enc := encH) (k := 2) (fun _ => rfl) h⟩
theorem HeirsIn.keep {w w' : World} {base B : Nat} {p : Option Nat} {v : Value} {d : List (Int × Int)} (h : HeirsIn w base v d) (hx : Ex B p w w') (hB : w.heap.size ≤ B) (hp : ∀ g, base ≤ g → g < w.heap.size → p ≠ some g) : HeirsIn w' base v d := by
  obtain ⟨ao, cap, rfl, h⟩ := h
  refine ⟨ao, cap, rfl, h.imp id fun ⟨g, e, h1, h2, h3⟩ => ⟨g, e, h1, Nat.lt_of_lt_of_le h2 hx.size, holdsK_ex h3 (hx.block g (by omega) (fun e' => hp g h1 h2 e'.symm))⟩⟩
theorem sl_src {P : Nat → Prop} {w w' : World} {B : Nat} {ao : Option Addr} {xs : List (Int × Int)} (h : SlAt heirRep P w ao xs) (hx : Ex B none w w') (hB : w.heap.size ≤ B) : xs.length = 0 ∨ ∃ ad, ao = some ad ∧ ∀ (j : Nat) (v : Value), (flatL encH xs)[j]? = some v → w'.cell? (ad.add j) = some v :=
  sl_cells (h.keep (by decide) (fun b _ hb => hx.block b (by omega) (by simp)))
/-- A slice value that reads as numbers, in a block of its own from 'base' on. -/
def NumsIn (w : World) (base : Nat) (v : Value) (d : List Int) : Prop := ∃ ao cap, v = .slice ao d.length cap ∧ (d = [] ∨ ∃ g, ao = some ⟨g, 0, none⟩ ∧ base ≤ g ∧ g < w.heap.size ∧ Holds (Value.int .i64) w g 0 d.toArray)
theorem NumsIn.ints {w : World} {base : Nat} {v : Value} {d : List Int} (h : NumsIn w base v d) : Ints w v d := by
  obtain ⟨ao, cap, rfl, h⟩ := h
  rcases h with rfl | ⟨g, rfl, _, _, hH⟩
  · exact ⟨ao, cap, rfl, IntsAt.nil _ _⟩
  · exact ⟨_, cap, rfl, holds_ints hH⟩
theorem own_numsIn {w : World} {base : Nat} {ao : Option Addr} {cap n : Nat} {d : List Int} (h : OwnI w base ao cap d) (hn : n = d.length) : NumsIn w base (.slice ao n cap) d := by
  subst hn
  refine ⟨ao, cap, rfl, ?_⟩
  rcases h.2 with ⟨h1, h2⟩ | ⟨g, cap', cur, hv, hg, hh, _⟩
  · exact Or.inl (List.eq_nil_of_length_eq_zero h2)
  · cases hv
    exact Or.inr ⟨g, rfl, hg, (Array.getElem?_eq_some_iff.1 hh).1, own_holds h⟩
theorem holds_ex {α : Type} [Inhabited α] {enc : α → Value} {w w' : World} {g off : Nat} {d : Array α} (h : Holds enc w g off d) (he : w'.heap[g]? = w.heap[g]?) : Holds enc w' g off d := fun t ht => by
  have := h t ht
  simpa [World.cell?, World.frozen?, he] using this
theorem holds_set1 {w : World} {g : Nat} {d : List Int} (h : Holds (Value.int .i64) w g 0 d.toArray) (i : Nat) (x : Int) (hi : i < d.length) : Holds (Value.int .i64) (w.setCell ⟨g, i, none⟩ (.int .i64 x)) g 0 (d.set i x).toArray := fun j hj => by
  have hj' : j < d.length := by simpa using hj
  obtain ⟨h1, h2⟩ := h j (by simpa using hj')
  rw [World.frozen?_setCell]
  refine ⟨?_, h2⟩
  rw [getElem!_pos (d.set i x).toArray j hj, List.getElem_toArray, List.getElem_set]
  rw [Nat.zero_add] at h1 ⊢
  by_cases e : i = j
  · subst e
    rw [World.cell?_setCell_same _ _ _ h1]
    simp
  · rw [World.cell?_setCell_other _ _ _ _ (by simp [e]), h1, if_neg e, getElem!_pos d.toArray j (by simpa using hj'), List.getElem_toArray]

set_option maxHeartbeats 800000 in
set_option maxRecDepth 100000 in
theorem mourningFollows_walk {P : Nat → Prop} (vh vl : Value) (hs : List (Int × Int)) (l : List Int) (key : Int) (w : World) (fh : Sl heirRep P w vh hs) (fl : Ints w vl l) (mh : hs.length ≤ 9223372036854775807) (ml : l.length ≤ 9223372036854775807) :
    Calls Try.prog 4 #[vh, vl, .int .i64 key] w fun e w' => e = .returned (.bool true) ∧ Below w.heap.size w w' := by
  have fh0 := fh
  have fl0 := fl
  obtain ⟨ho, hc, rfl, hx⟩ := fh
  obtain ⟨lo, lc, rfl, hy⟩ := fl
  by_cases h1 : 40 < (hs.length : Int)
  · go_enter Try.func4, Try.ntmps4
    go_wp2_with (go_at_call 18; refine (awake35_any _).mono ?_; rintro e w1 ⟨rfl, hex⟩)
    go_ret
    exact ⟨rfl, hex.below⟩
  by_cases h2 : 60 < (l.length : Int)
  · go_enter Try.func4, Try.ntmps4
    go_wp2_with (go_at_call 18; refine (awake35_any _).mono ?_; rintro e w1 ⟨rfl, hex⟩)
    go_ret
    exact ⟨rfl, hex.below⟩
  have b1 : hs.length ≤ 40 := by omega
  have b2 : l.length ≤ 60 := by omega
  have fh1 : Sl heirRep (fun _ => True) w (.slice ho hs.length hc) hs := fh0.mono (by decide) (fun _ _ _ => trivial)
  clear hx hy fh0
  go_enter Try.func4, Try.ntmps4
  go_wp2
  go_loopw [0, 1, 2, 7] (fun v0 v1 v2 v7 wr => ∃ (d : List (Int × Int)) (n : List Int) (key i : Nat → Int) (k : Nat), Sl heirRep (fun _ => True) wr v0 d ∧ Ints wr v1 n ∧ v2 = .int .i64 (key 0) ∧ v7 = .int .i64 k ∧ k ≤ 2 ∧ d.length ≤ 40 ∧ n.length ≤ 60 ∧ Ex w.heap.size none w wr) (fun _ _ _ v7 _ => 2 - (intOf v7).toNat)
  case atStart => exact ⟨hs, l, fun _ => key, fun _ => 0, 0, fh1, fl0, rfl, rfl, by omega, b1, b2, Ex.refl _ _ _⟩
  case round =>
    clear fh1 fl0 b1 b2 h1 h2
    obtain ⟨d, n, key, _, k, fh, fl, rfl, rfl, hk, b1, b2, hex⟩ := hrel
    obtain ⟨key, hkey⟩ : ∃ y, y = key 0 := ⟨_, rfl⟩
    rw [← hkey]
    clear hkey
    have hsz := hex.size
    obtain ⟨wo, rfl⟩ : ∃ wo : World, wo = wr := ⟨_, rfl⟩
    by_cases hlt : k < 2
    · obtain ⟨ho, hc, rfl, hx⟩ := fh
      obtain ⟨lo, lc, rfl, hy⟩ := fl
      have fh : Sl heirRep (fun _ => True) wo (.slice ho d.length hc) d := ⟨_, _, rfl, hx⟩
      have fl : Ints wo (.slice lo n.length lc) n := ⟨_, _, rfl, hy⟩
      have HX := Lib.hid hx
      have HY := Lib.hid hy
      clear hx hy
      go_wp2_with fail
      refine (follow_any key wo fh (by omega)).mono ?_
      rintro e w1 ⟨rfl, hex1⟩
      have hs1 := hex1.size
      have fh1 := fh.keep (by decide) (fun b _ hb => hex1.block b hb (by simp))
      have fl1 := fl.keep hex1 (Nat.le_refl _)
      go_wp2_with fail
      refine (refFollow_any key w1 fh1 (by omega)).mono ?_
      rintro e w2 ⟨rfl, hex2⟩
      have hs2 := hex2.size
      have fh2 := fh1.keep (by decide) (fun b _ hb => hex2.block b hb (by simp))
      have fl2 := fl1.keep hex2 (Nat.le_refl _)
      go_wp2_with fail
      refine (replace_any w2 fl2 fh2 (by omega) (by omega)).mono ?_
      rintro e w3 ⟨ro3, rc3, rfl, hi3, hex3⟩
      have hs3 := hex3.size
      have fh3 := fh2.keep (by decide) (fun b _ hb => hex3.block b hb (by simp))
      have fl3 := fl2.keep hex3 (Nat.le_refl _)
      go_wp2_with fail
      refine (refReplace_any w3 fl3 fh3 (by omega) (by omega)).mono ?_
      rintro e w4 ⟨ro4, rc4, rfl, hown4, hex4⟩
      have hs4 := hex4.size
      have f5 : Ints w4 (.slice ro3 (replI (heirI d) n).length rc3) (replI (heirI d) n) := Ints.keep ⟨_, _, rfl, hi3⟩ hex4 (Nat.le_refl _)
      have hlr : (replI (heirI d) n).length ≤ 64 := keysTo_le _ _
      go_wp2_with fail
      refine (asB (sameInts_any _ _ _ _ w4 f5 hown4.v (by omega)) (b := true) (by simp)).mono ?_
      rintro e w5 ⟨rfl, hex5⟩
      have hs5 := hex5.size
      have hE5 : Ex wo.heap.size none wo w5 := (((hex1.trans hex2 hs1 (by simp)).trans hex3 (by omega) (by simp)).trans hex4 (by omega) (by simp)).trans hex5 (by omega) (by simp)
      have F5 : Hid (Sl heirRep (fun _ => True) w5 (.slice ho d.length hc) d ∧ Ints w5 (.slice lo n.length lc) n) := ⟨fh.keep (by decide) (fun b _ hb => hE5.block b hb (by simp)), fl.keep hE5 (Nat.le_refl _)⟩
      clear hown4 f5 hi3 fh1 fl1 fh2 fl2 fh3 fl3 hex1 hex2 hex3 hex4 hex5 fh fl
      have hb5 : w.heap.size ≤ w5.heap.size := by omega
      go_wp2_with (first
        | (at_builtin; refine wpList_appE (w0 := w5.alloc (.cells #[] 43)) rfl (.tmp 40) (.tmp 41) _ 43 rfl Try.underlying38 (.agg #[.int .i64 0, .int .i64 0]) 2 16 Try.infoHeir rfl (by decide) (by decide) encH (fun _ => rfl) one_encH w5.heap.size (some ⟨w5.heap.size, 0, none⟩) 0 [] d (.slice (some ⟨w5.heap.size, 0, none⟩) 0 0) _ 0 rfl rfl (by rfl) ho d.length hc (by rfl) rfl rfl (sl_src F5.out.1.at' (Ex.new _ _) (Nat.le_refl _)) (World.ownsRow_lit w5 #[] 0 (Nat.le_refl _) (by decide) rfl) (Ex.refl _ _ _) (by simp; omega) (by simp) ?_; intro ha hcap w6 hown6 hex6; have hs6 := hex6.size; simp at hs6)
        | (at_builtin; refine wpList_appIs (w0 := w6.alloc (.cells #[] 3)) rfl (.tmp 43) (.tmp 44) _ rfl Try.underlying25 Try.infoInt w6.heap.size (some ⟨w6.heap.size, 0, none⟩) 0 [] n (.slice (some ⟨w6.heap.size, 0, none⟩) 0 0) _ 0 rfl rfl (by rfl) (by rfl) (F5.out.2.keep ((Ex.new w5 (.cells #[] 43)).trans (hex6.mono (by simp)) (Nat.le_refl _) (by simp) |>.trans (Ex.new w6 _) (by omega) (by simp)) (Nat.le_refl _)) (World.ownsRow_lit w6 #[] 0 (Nat.le_refl _) (by decide) rfl) (Ex.refl _ _ _) (by simp; omega) (by simp) ?_; intro la lcap w7 hown7 hex7))
      have HH : Hid (d = [] ∨ ∃ g, ha = some ⟨g, 0, none⟩ ∧ w5.heap.size ≤ g ∧ g < w6.heap.size ∧ HoldsK encH 2 w7 g 0 d.toArray) := by
        have hown7' := hown6.keep (p := none) (B := w6.heap.size) (w' := w7) ((Ex.new w6 (.cells #[] 3)).trans (hex7.mono (by simp)) (Nat.le_refl _) (by simp)) (Nat.le_refl _) (by simp)
        rcases hown6.cases with ⟨_, _, h0⟩ | ⟨g, e, h1, h2, _⟩
        · exact Or.inl h0
        · subst e; exact Or.inr ⟨g, rfl, h1, h2, OwnE.holds (enc := encH) (k := 2) (fun _ => rfl) hown7'⟩
      have HN : Hid (NumsIn w7 w6.heap.size (.slice la n.length lcap) n) := own_numsIn hown7 (by simp)
      have hE7 : Ex w.heap.size none w w7 := by
        have e0 := hex.trans hE5 hsz (by simp)
        have e1 := (e0.trans (Ex.new w5 (.cells #[] 43)) (by omega) (by simp)).trans (hex6.mono (show w.heap.size ≤ w5.heap.size by omega)) (Nat.le_refl _) (by simp)
        exact (e1.trans (Ex.new w6 (.cells #[] 3)) (by omega) (by simp)).trans (hex7.mono (show w.heap.size ≤ w6.heap.size by omega)) (Nat.le_refl _) (by simp)
      have hs7 := hex7.size
      simp at hs7
      clear hown6 hown7 hex6 hex7 hE5 hex F5 HX HY
      go_loopw [8] (fun v8 wr => ∃ (j : Nat) (dd : List (Int × Int)), v8 = .int .i64 j ∧ j ≤ d.length ∧ dd.length = d.length ∧ w7.heap.size ≤ wr.heap.size ∧ (d = [] ∨ ∃ g, ha = some ⟨g, 0, none⟩ ∧ w5.heap.size ≤ g ∧ g < w6.heap.size ∧ HoldsK encH 2 wr g 0 dd.toArray) ∧ NumsIn wr w6.heap.size (.slice la n.length lcap) n ∧ Ex w.heap.size none w wr) (fun v8 _ => d.length - (intOf v8).toNat)
      case atStart => exact ⟨0, d, rfl, Nat.zero_le _, rfl, Nat.le_refl _, HH.out, HN.out, hE7⟩
      case round =>
        clear HH HN hE7
        obtain ⟨j, dd, rfl, hj, hdd, hsw, hh, hnn, hex⟩ := hrel
        have HDD := Lib.hid hdd
        have HNN := Lib.hid hnn
        clear hdd hnn
        have hszr := hex.size
        by_cases hlt2 : j < d.length
        · rcases hh with h0 | ⟨g, rfl, hg1, hg2, hHk⟩
          · subst h0; simp at hlt2
          obtain ⟨x, hxx⟩ : ∃ x, dd.toArray[j]! = x := ⟨_, rfl⟩
          have hjd : j < dd.toArray.size := by have := HDD.out; simp; omega
          have c0 := HoldsK.cell hHk (i := j) (c := 0) hjd (by omega)
          have c1 := HoldsK.cell hHk (i := j) (c := 1) hjd (by omega)
          rw [hxx] at c0 c1
          have q0 : wr.cell? ⟨g, j * 2, none⟩ = some (.int .i64 x.1) := by have := c0.1; rwa [Nat.zero_add, Nat.add_zero] at this
          have q1 : wr.cell? ⟨g, j * 2 + 1, none⟩ = some (.int .i64 x.2) := by have := c1.1; rwa [Nat.zero_add] at this
          have z0 : wr.frozen? ⟨g, j * 2, none⟩ = false := by have := c0.2; rwa [Nat.zero_add, Nat.add_zero] at this
          have z1 : wr.frozen? ⟨g, j * 2 + 1, none⟩ = false := by have := c1.2; rwa [Nat.zero_add] at this
          have hjz : (j : Int) < d.length := by omega
          have HHk := Lib.hid hHk
          have HXX := Lib.hid hxx
          clear c0 c1 hHk hxx
          go_wp2_with fail
          go_region_law (first | (go_simp; go_at_call 24; refine (millMod_any _ _ _ (by omega)).mono ?_; rintro e w' ⟨rfl, rfl⟩))
          all_goals
            go_wp2
            go_roundw
            case measure => simp [intOf] <;> omega
            case rel =>
              have hH2 := holdsK_set (enc := encH) (k := 2) (fun _ => rfl) HHk.out j (modI x.1 24, modI x.2 24) hjd
              have hX2 : Ex wr.heap.size (some g) wr (wr.setCells g (0 + j * 2) (encH (modI x.1 24, modI x.2 24))) := ex_setCells wr g _ _
              rw [show wr.setCells g (0 + j * 2) (encH (modI x.1 24, modI x.2 24)) = (wr.setCell ⟨g, j * 2, none⟩ (.int .i64 (modI x.1 24))).setCell ⟨g, j * 2 + 1, none⟩ (.int .i64 (modI x.2 24)) by rw [Nat.zero_add]; rfl] at hH2 hX2
              generalize (wr.setCell ⟨g, j * 2, none⟩ (.int .i64 (modI x.1 24))).setCell ⟨g, j * 2 + 1, none⟩ (.int .i64 (modI x.2 24)) = wz at hH2 hX2 ⊢
              have hX3 : Ex wr.heap.size (some g) wr wz.drew := hX2.drew
              have hH3 : HoldsK encH 2 wz.drew g 0 (dd.toArray.setIfInBounds j (modI x.1 24, modI x.2 24)) := hH2
              refine ⟨j + 1, dd.set j (modI x.1 24, modI x.2 24), by go_num, by omega, by simpa using HDD.out, ?_, Or.inr ⟨g, rfl, hg1, hg2, by simpa using hH3⟩, ?_, ?_⟩
              · have := hX3.size; omega
              · obtain ⟨ao, cap, e, hz⟩ := HNN.out
                refine ⟨ao, cap, e, hz.imp id fun ⟨g', e', x1, x2, x3⟩ => ⟨g', e', x1, Nat.lt_of_lt_of_le x2 hX3.size, holds_ex x3 (hX3.block g' x2 (by simp; omega))⟩⟩
              · exact hex.trans ((hX3.mono hszr).above (by omega)) (Nat.le_refl _) (by simp)
        · obtain ⟨w8, rfl⟩ : ∃ w8 : World, w8 = wr := ⟨_, rfl⟩
          have HHH := Lib.hid hh
          clear hh
          go_wp2
          go_loopw [9] (fun v9 wr => ∃ (j : Nat) (nn : List Int), v9 = .int .i64 j ∧ j ≤ n.length ∧ nn.length = n.length ∧ (n = [] ∨ ∃ g, la = some ⟨g, 0, none⟩ ∧ w6.heap.size ≤ g ∧ g < wr.heap.size ∧ Holds (Value.int .i64) wr g 0 nn.toArray) ∧ (d = [] ∨ ∃ g, ha = some ⟨g, 0, none⟩ ∧ w5.heap.size ≤ g ∧ g < w6.heap.size ∧ HoldsK encH 2 wr g 0 dd.toArray) ∧ w7.heap.size ≤ wr.heap.size ∧ Ex w.heap.size none w wr) (fun v9 _ => n.length - (intOf v9).toNat)
          case atStart =>
            obtain ⟨ao, cap, e, hz⟩ := HNN.out
            simp only [Value.slice.injEq] at e
            obtain ⟨rfl, _, rfl⟩ := e
            exact ⟨0, n, rfl, Nat.zero_le _, rfl, hz, HHH.out, hsw, hex⟩
          case round =>
            clear HHH HNN hex hszr hsw
            obtain ⟨m, nn, rfl, hm, hnn, hN, hh, hsw, hex⟩ := hrel
            have HHH := Lib.hid hh
            have HNL := Lib.hid hnn
            clear hh hnn
            have hszr := hex.size
            by_cases hlt3 : m < n.length
            · rcases hN with h0 | ⟨g, rfl, hg1, hg2, hHn⟩
              · subst h0; simp at hlt3
              have hmn : m < nn.toArray.size := by have := HNL.out; simp; omega
              obtain ⟨q0, z0⟩ := hHn m hmn
              obtain ⟨y, hy⟩ : ∃ y, nn.toArray[m]! = y := ⟨_, rfl⟩
              rw [hy, Nat.zero_add] at q0
              rw [Nat.zero_add] at z0
              have HHn := Lib.hid hHn
              clear hHn hy
              have hmz : (m : Int) < n.length := by omega
              go_wp2_with fail
              refine (millMod_any _ _ _ (by omega)).mono ?_
              rintro e w' ⟨rfl, rfl⟩
              go_wp2
              go_roundw
              case measure => simp [intOf] <;> omega
              case rel =>
                have hX := Ex.setCell (Ex.refl wr.heap.size (some g) wr) (q := g) m none (.int .i64 (modI y 24)) (Or.inl rfl)
                refine ⟨m + 1, nn.set m (modI y 24), by go_num, by omega, by simpa using HNL.out, Or.inr ⟨g, rfl, hg1, Nat.lt_of_lt_of_le hg2 hX.size, holds_set1 HHn.out m _ (by simpa using hmn)⟩, HHH.out.imp id (fun ⟨g', e, x1, x2, x3⟩ => ⟨g', e, x1, x2, holdsK_ex x3 (hX.block g' (by omega) (by simp; omega))⟩), by have := hX.size; omega, hex.trans ((hX.mono hszr).above (by omega)) (Nat.le_refl _) (by simp)⟩
            · have hd1 := HHH.out
              go_wp2_with fail
              refine (millMod_any _ _ _ (by omega)).mono ?_
              rintro e w' ⟨rfl, rfl⟩
              go_wp2
              go_roundw
              case measure => simp [intOf] <;> omega
              case rel =>
                have f1 : HeirsIn wr w5.heap.size (.slice ha d.length hcap) dd := ⟨ha, hcap, by rw [HDD.out], by
                  rcases HHH.out with h0 | ⟨g, e, x1, x2, x3⟩
                  · left; have := HDD.out; rw [h0] at this; exact List.eq_nil_of_length_eq_zero this
                  · exact Or.inr ⟨g, e, x1, by omega, x3⟩⟩
                have f2 : NumsIn wr w6.heap.size (.slice la n.length lcap) nn := ⟨la, lcap, by rw [HNL.out], by
                  rcases hN with h0 | h0
                  · left; have := HNL.out; rw [h0] at this; exact List.eq_nil_of_length_eq_zero this
                  · exact Or.inr h0⟩
                exact ⟨dd, nn, fun _ => modI key 24, fun _ => 0, k + 1, f1.sl, f2.ints, rfl, by go_num, by omega, by have := HDD.out; omega, by have := HNL.out; omega, hex⟩
    · obtain rfl : k = 2 := by omega
      go_wp2_with fail
      refine (awake35_any _).mono ?_
      rintro e w1 ⟨rfl, hex1⟩
      go_wp2
      go_ret
      exact ⟨rfl, (hex.trans hex1 hsz (by simp)).below⟩
end Go.Proofs.Ytagciffmacolfaa
