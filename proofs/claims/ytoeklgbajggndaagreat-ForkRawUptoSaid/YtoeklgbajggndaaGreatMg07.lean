/- wire.TakeInts and ref02.TakeInts: contracts. No statement of the seat. | statement.need and the readings of statement.reader: contracts with two ends. No statement of the seat. | The readings of the document's reader: contracts. No statement of the seat. | ref04.SameFork at two copies of one fork. No statement of the seat. | law06.light at whatever statement. No statement of the seat. -/
import Derived.Test.YtoeklgbajggndaaGreatMg06
import Derived.Defers
import Derived.Test.YtoeklgbajggndaaGreatMg02
import Derived.Test.YtoeklgbajggndaaGreatMg01
namespace Go.Proofs.YtoeklgbajggndaaGreat
open Go.RowKit Go.Sort

/-- A number in its cell. -/
def ivE (n : Int) : List Value := [.int .i64 n]
theorem ivE_len (n : Int) : (ivE n).length = 1 := rfl
theorem one_ivE : ∀ n, ∀ v ∈ ivE n, v.oneCell' = true := fun n v hv => by simp [ivE] at hv; subst hv; rfl
theorem ivE_sl {w : World} {base : Nat} {ao : Option Addr} {cap : Nat} {xs : List Int} (h : OwnE ivE 1 3 w base ao cap xs) : Sl intRep (fun b => base ≤ b) w (.slice ao xs.length cap) xs := by
  obtain ⟨ao', cap', e, hx⟩ := own_val_sl (hk := ivE_len) (h1 := one_ivE) h
  simp only [Value.slice.injEq] at e
  obtain ⟨rfl, _, rfl⟩ := e
  exact ⟨ao, cap, rfl, hx⟩
theorem takeL_short {xs : List UInt8} {most : Int} (h : takeI xs = none) : takeL xs most = none := by unfold takeL; rw [h]
theorem takeL_no {xs r : List UInt8} {most n : Int} (h : takeI xs = some (n, r)) (hc : n < 0 ∨ most < n ∨ ((r.length / 8 : Nat) : Int) < n) : takeL xs most = none := by unfold takeL; rw [h]; simp only; rw [if_pos hc]
theorem takeL_yes {xs r : List UInt8} {most n : Int} (h : takeI xs = some (n, r)) (hc : ¬ (n < 0 ∨ most < n ∨ ((r.length / 8 : Nat) : Int) < n)) : takeL xs most = some (takeN n.toNat r) := by unfold takeL; rw [h]; simp only; rw [if_neg hc]

set_option maxHeartbeats 16000000 in
set_option maxRecDepth 100000 in
theorem takeInts02_any {P : Nat → Prop} (v : Value) (xs : List UInt8) (most : Int) (w : World) (hv : SlC P w v xs) (hm : xs.length ≤ 1000000) :
    Calls Tryz.prog 99 #[v, .int .i64 most] w fun e w' => ∃ u1 u2, e = .returned (.tuple #[u1, u2, .bool (takeL xs most).isSome]) ∧ Sl intRep (fun b => w.heap.size ≤ b) w' u1 ((takeL xs most).getD ([], [])).1 ∧ SlC (fun b => w.heap.size ≤ b) w' u2 ((takeL xs most).getD ([], [])).2 ∧ Ex w.heap.size none w w' := by
  have HV := Lib.hid hv
  clear hv
  cases hT : takeI xs with
  | none =>
    have HT : Hid (takeL xs most = none) := Lib.hid (takeL_short hT)
    have HTI := Lib.hid hT
    clear hT
    go_enter Tryz.func99, Tryz.ntmps99
    go_wp2_with (first | (go_at_call 95; refine (takeInt02_none v xs w HV.out hm HTI.out).mono ?_; rintro e w1 ⟨u1, rfl, hu, hex⟩; have HE := Lib.hid hex; clear hu hex) | fail)
    go_ret3
    exact ⟨.slice none 0 0, .slice none 0 0, by rw [HT.out]; rfl, by rw [HT.out]; exact Sl.nil _ _, by rw [HT.out]; exact SlC.nil _ _, HE.out⟩
  | some q =>
    obtain ⟨n, r⟩ := q
    obtain ⟨mr, hmr⟩ : ∃ mr, mr = r.length := ⟨_, rfl⟩
    have hrl : r.length + 8 = xs.length := (takeI_len hT).symm
    have HMR := Lib.hid hmr
    have hmb : mr ≤ 1000000 := by omega
    clear hrl
    obtain ⟨e8, he8⟩ : ∃ e8, e8 = mr / 8 := ⟨_, rfl⟩
    have hquo : (mr : Int).tdiv 8 = (e8 : Int) := by rw [Int.tdiv_eq_ediv_of_nonneg (by omega)]; omega
    have hquo2 : (mr : Int) / 8 = (e8 : Int) := by omega
    have hwe : IntKind.i64.wrap (e8 : Int) = (e8 : Int) := by rw [IntKind.wrap_i64]; omega
    have HE8 : Hid (e8 * 8 ≤ mr ∧ ((r.length / 8 : Nat) : Int) = (e8 : Int)) := Lib.hid ⟨by omega, by omega⟩
    clear he8
    by_cases h0 : n < 0
    · have hd0 : decide (n < 0) = true := decide_eq_true h0
      have HT : Hid (takeL xs most = none) := Lib.hid (takeL_no hT (.inl h0))
      have HTI := Lib.hid hT
      clear hT hmr
      go_enter Tryz.func99, Tryz.ntmps99
      go_wp2_with (first | (go_at_call 95; refine (takeInt02_some v xs w HV.out hm HTI.out).mono ?_; rintro e w1 ⟨u1, rfl, ⟨ao1, cap1, rfl, hc1, hx1⟩, hex⟩; rw [← HMR.out]; have HE := Lib.hid hex; clear hc1 hx1 hex) | fail)
      go_ret3
      exact ⟨.slice none 0 0, .slice none 0 0, by rw [HT.out]; rfl, by rw [HT.out]; exact Sl.nil _ _, by rw [HT.out]; exact SlC.nil _ _, HE.out⟩
    · have hd0 : decide (n < 0) = false := decide_eq_false h0
      by_cases h1 : most < n
      · have hd1 : decide (most < n) = true := decide_eq_true h1
        have HT : Hid (takeL xs most = none) := Lib.hid (takeL_no hT (.inr (.inl h1)))
        have HTI := Lib.hid hT
        clear hT hmr
        go_enter Tryz.func99, Tryz.ntmps99
        go_wp2_with (first | (go_at_call 95; refine (takeInt02_some v xs w HV.out hm HTI.out).mono ?_; rintro e w1 ⟨u1, rfl, ⟨ao1, cap1, rfl, hc1, hx1⟩, hex⟩; rw [← HMR.out]; have HE := Lib.hid hex; clear hc1 hx1 hex) | fail)
        go_ret3
        exact ⟨.slice none 0 0, .slice none 0 0, by rw [HT.out]; rfl, by rw [HT.out]; exact Sl.nil _ _, by rw [HT.out]; exact SlC.nil _ _, HE.out⟩
      · have hd1 : decide (most < n) = false := decide_eq_false h1
        by_cases h2 : (e8 : Int) < n
        · have hd2 : decide ((e8 : Int) < n) = true := decide_eq_true h2
          have HT : Hid (takeL xs most = none) := Lib.hid (takeL_no hT (.inr (.inr (by rw [HE8.out.2]; exact h2))))
          have HTI := Lib.hid hT
          clear hT hmr
          go_enter Tryz.func99, Tryz.ntmps99
          go_wp2_with (first | (go_at_call 95; refine (takeInt02_some v xs w HV.out hm HTI.out).mono ?_; rintro e w1 ⟨u1, rfl, ⟨ao1, cap1, rfl, hc1, hx1⟩, hex⟩; rw [← HMR.out]; have HE := Lib.hid hex; clear hc1 hx1 hex) | fail)
          go_ret3
          exact ⟨.slice none 0 0, .slice none 0 0, by rw [HT.out]; rfl, by rw [HT.out]; exact Sl.nil _ _, by rw [HT.out]; exact SlC.nil _ _, HE.out⟩
        · obtain ⟨j, rfl⟩ : ∃ j : Nat, n = (j : Int) := ⟨n.toNat, by omega⟩
          have hd2 : decide ((e8 : Int) < (j : Int)) = false := decide_eq_false h2
          have hd2N : decide (e8 < j) = false := decide_eq_false (by omega)
          have HT : Hid (takeL xs most = some (takeN j r)) := Lib.hid (by rw [takeL_yes hT (by rw [HE8.out.2]; omega)]; rfl)
          have HTI := Lib.hid hT
          have hj8 : j * 8 ≤ mr := by have := HE8.out.1; omega
          clear hT hmr
          go_enter Tryz.func99, Tryz.ntmps99
          go_wp2_with (first | (go_at_call 95; refine (takeInt02_some v xs w HV.out hm HTI.out).mono ?_; rintro e w1 ⟨u1, rfl, ⟨ao1, cap1, rfl, hc1, hx1⟩, hex⟩; rw [← HMR.out]; have HC1 : Hid (r.length ≤ cap1) := Lib.hid hc1; have HE := Lib.hid hex; have HX1 := Lib.hid hx1; clear hc1 hx1 hex) | fail)
          have hz1 : w.heap.size ≤ w1.heap.size := HE.out.size
          go_loopw [0, 9, 10] (fun a b c wr => ∃ (k : Nat) (ro : Option Addr) (rc : Nat), k ≤ j ∧ c = .int .i64 k ∧ b = .slice ro k rc ∧ OwnE ivE 1 3 wr w.heap.size ro rc (takeN k r).1 ∧ SlC (fun q => w.heap.size ≤ q ∧ rowOf ro ≠ some q) wr a (takeN k r).2 ∧ Ex w.heap.size none w wr) (fun _ _ c _ => j - (intOf c).toNat)
          case atStart => exact ⟨0, none, 0, by omega, rfl, rfl, OwnE.nil _ _ _ _ _, ⟨_, _, by show Value.slice ao1 mr cap1 = Value.slice ao1 r.length cap1; rw [← HMR.out], HC1.out, HX1.out.mono (by decide) fun b hb _ => ⟨hb, by simp [rowOf]⟩⟩, HE.out⟩
          case round =>
            obtain ⟨k, ro, rc, hk, rfl, rfl, hown, hu, hex⟩ := hrel
            have hsz := hex.size
            have HO := Lib.hid hown
            have HU := Lib.hid hu
            have HEX := Lib.hid hex
            clear hown hu hex
            by_cases hlt : k < j
            · have hltI : (k : Int) < (j : Int) := by omega
              have HTK : Hid (takeI (takeN k r).2 = some (i64N (beN ((takeN k r).2.take 8)), (takeN k r).2.drop 8)) := Lib.hid (takeI_long (by rw [takeN_rest, List.length_drop]; have := HMR.out; omega))
              have HLK : Hid ((takeN k r).1.length = k) := Lib.hid (takeN_len k r)
              obtain ⟨y, hy⟩ : ∃ y, y = i64N (beN ((takeN k r).2.take 8)) := ⟨_, rfl⟩
              have HY := Lib.hid hy
              clear hy
              go_wp2_with (first
                | (go_at_call 95
                   refine (takeInt02_some _ (takeN k r).2 wr HU.out (by rw [takeN_rest, List.length_drop]; have := HMR.out; omega) HTK.out).mono ?_
                   rw [← HY.out]
                   rintro e w2 ⟨u2, rfl, hu2, hex2⟩
                   have HU2 := Lib.hid hu2
                   have HE2 : Hid (Ex wr.heap.size none wr w2) := Lib.hid hex2
                   have hz2 : wr.heap.size ≤ w2.heap.size := hex2.size
                   clear hu2 hex2)
                | (at_builtin; refine wpList_appE2 rfl (.tmp 49) (.tmp 51) _ 3 (by rfl) Tryz.underlying22 _ 1 8 Tryz.infoInt rfl (by decide) (by decide) ivE ivE_len one_ivE w.heap.size ro rc k (takeN k r).1 HLK.out (by rfl) (some ⟨w2.heap.size, 0, none⟩) 1 1 (by rfl) [y] rfl ((HO.out.keep HE2.out (Nat.le_refl _) (by simp)).keep (Ex.new w2 _) (Nat.le_refl _) (by simp)) (lit_cells (by rfl)) (by omega) (by simp; omega) (k + 1) rfl ?_; intro ro2 rc2 w6 hown6 hex6 hk6 hro6)
                | fail)
              have HO6 : Hid (OwnE ivE 1 3 w6 w.heap.size ro2 rc2 (takeN (k + 1) r).1) := Lib.hid (by rw [takeN_snoc, ← HY.out]; exact hown6)
              have HE6 : Hid (Ex w.heap.size none w w6) := Lib.hid (((HEX.out.trans HE2.out hsz (by simp)).trans (Ex.new w2 _) (by omega) (by simp)).trans hex6 (Nat.le_refl _) (by simp))
              have HU6 : Hid (SlC (fun q => w.heap.size ≤ q ∧ rowOf ro2 ≠ some q) w6 u2 (takeN (k + 1) r).2) := Lib.hid (by
                rw [takeN_snoc]
                have hro : ∀ q, wr.heap.size ≤ q → rowOf ro ≠ some q := fun q hq e => by
                  cases ro with
                  | none => cases e
                  | some ad =>
                    have h1 := (HO.out.lt ad rfl).2
                    have h2 : ad.block = q := Option.some.inj e
                    omega
                have h4 : SlC (fun q => rowOf ro ≠ some q ∧ w.heap.size ≤ q ∧ rowOf ro2 ≠ some q) w2 u2 ((takeN k r).2.drop 8) := HU2.out.mono fun q hq hlt => ⟨hro q hq, by omega, by
                  rcases hro6 with h | h
                  · rw [h]; exact hro q hq
                  · rw [h]; intro e; have := Option.some.inj e; rw [World.size_alloc] at this; omega⟩
                exact (h4.keep (w' := w6) fun b hb hlt => (hk6 b (by rw [World.size_alloc]; omega) hb.1).trans ((Ex.new w2 _).block b hlt (by simp))).mono fun b hb _ => hb.2)
              clear hown6 hex6 hk6 hro6
              go_roundw
              case rel => exact ⟨k + 1, ro2, rc2, by omega, by go_num, rfl, HO6.out, HU6.out, HE6.out⟩
              case measure => simp [intOf] <;> omega
            · have HK : Hid (k = j) := Lib.hid (by omega)
              have h9 : ¬ (k : Int) < (j : Int) := by omega
              have hd9 : decide (k < j) = false := decide_eq_false hlt
              go_wp2
              go_ret3
              have hk : k = j := HK.out
              subst hk
              exact ⟨_, _, by rw [HT.out]; rfl, by rw [HT.out]; have h := ivE_sl HO.out; rw [takeN_len] at h; exact h, by rw [HT.out]; exact HU.out.mono fun b hb _ => hb.1, HEX.out⟩

set_option maxHeartbeats 16000000 in
set_option maxRecDepth 100000 in
theorem takeInts_any {P : Nat → Prop} (v : Value) (xs : List UInt8) (most : Int) (w : World) (hv : SlC P w v xs) (hm : xs.length ≤ 1000000) :
    Calls Tryz.prog 151 #[v, .int .i64 most] w fun e w' => ∃ u1 u2, e = .returned (.tuple #[u1, u2, .bool (takeL xs most).isSome]) ∧ Sl intRep (fun b => w.heap.size ≤ b) w' u1 ((takeL xs most).getD ([], [])).1 ∧ SlC (fun b => w.heap.size ≤ b) w' u2 ((takeL xs most).getD ([], [])).2 ∧ Ex w.heap.size none w w' := by
  have HV := Lib.hid hv
  clear hv
  cases hT : takeI xs with
  | none =>
    have HT : Hid (takeL xs most = none) := Lib.hid (takeL_short hT)
    have HTI := Lib.hid hT
    clear hT
    go_enter Tryz.func151, Tryz.ntmps151
    go_wp2_with (first | (go_at_call 91; refine (takeInt_none v xs w HV.out hm HTI.out).mono ?_; rintro e w1 ⟨u1, rfl, hu, hex⟩; have HE := Lib.hid hex; clear hu hex) | fail)
    go_ret3
    exact ⟨.slice none 0 0, .slice none 0 0, by rw [HT.out]; rfl, by rw [HT.out]; exact Sl.nil _ _, by rw [HT.out]; exact SlC.nil _ _, HE.out⟩
  | some q =>
    obtain ⟨n, r⟩ := q
    obtain ⟨mr, hmr⟩ : ∃ mr, mr = r.length := ⟨_, rfl⟩
    have hrl : r.length + 8 = xs.length := (takeI_len hT).symm
    have HMR := Lib.hid hmr
    have hmb : mr ≤ 1000000 := by omega
    clear hrl
    obtain ⟨e8, he8⟩ : ∃ e8, e8 = mr / 8 := ⟨_, rfl⟩
    have hquo : (mr : Int).tdiv 8 = (e8 : Int) := by rw [Int.tdiv_eq_ediv_of_nonneg (by omega)]; omega
    have hquo2 : (mr : Int) / 8 = (e8 : Int) := by omega
    have hwe : IntKind.i64.wrap (e8 : Int) = (e8 : Int) := by rw [IntKind.wrap_i64]; omega
    have HE8 : Hid (e8 * 8 ≤ mr ∧ ((r.length / 8 : Nat) : Int) = (e8 : Int)) := Lib.hid ⟨by omega, by omega⟩
    clear he8
    by_cases h0 : n < 0
    · have hd0 : decide (n < 0) = true := decide_eq_true h0
      have HT : Hid (takeL xs most = none) := Lib.hid (takeL_no hT (.inl h0))
      have HTI := Lib.hid hT
      clear hT hmr
      go_enter Tryz.func151, Tryz.ntmps151
      go_wp2_with (first | (go_at_call 91; refine (takeInt_some v xs w HV.out hm HTI.out).mono ?_; rintro e w1 ⟨u1, rfl, ⟨ao1, cap1, rfl, hc1, hx1⟩, hex⟩; rw [← HMR.out]; have HE := Lib.hid hex; clear hc1 hx1 hex) | fail)
      go_ret3
      exact ⟨.slice none 0 0, .slice none 0 0, by rw [HT.out]; rfl, by rw [HT.out]; exact Sl.nil _ _, by rw [HT.out]; exact SlC.nil _ _, HE.out⟩
    · have hd0 : decide (n < 0) = false := decide_eq_false h0
      by_cases h1 : most < n
      · have hd1 : decide (most < n) = true := decide_eq_true h1
        have HT : Hid (takeL xs most = none) := Lib.hid (takeL_no hT (.inr (.inl h1)))
        have HTI := Lib.hid hT
        clear hT hmr
        go_enter Tryz.func151, Tryz.ntmps151
        go_wp2_with (first | (go_at_call 91; refine (takeInt_some v xs w HV.out hm HTI.out).mono ?_; rintro e w1 ⟨u1, rfl, ⟨ao1, cap1, rfl, hc1, hx1⟩, hex⟩; rw [← HMR.out]; have HE := Lib.hid hex; clear hc1 hx1 hex) | fail)
        go_ret3
        exact ⟨.slice none 0 0, .slice none 0 0, by rw [HT.out]; rfl, by rw [HT.out]; exact Sl.nil _ _, by rw [HT.out]; exact SlC.nil _ _, HE.out⟩
      · have hd1 : decide (most < n) = false := decide_eq_false h1
        by_cases h2 : (e8 : Int) < n
        · have hd2 : decide ((e8 : Int) < n) = true := decide_eq_true h2
          have HT : Hid (takeL xs most = none) := Lib.hid (takeL_no hT (.inr (.inr (by rw [HE8.out.2]; exact h2))))
          have HTI := Lib.hid hT
          clear hT hmr
          go_enter Tryz.func151, Tryz.ntmps151
          go_wp2_with (first | (go_at_call 91; refine (takeInt_some v xs w HV.out hm HTI.out).mono ?_; rintro e w1 ⟨u1, rfl, ⟨ao1, cap1, rfl, hc1, hx1⟩, hex⟩; rw [← HMR.out]; have HE := Lib.hid hex; clear hc1 hx1 hex) | fail)
          go_ret3
          exact ⟨.slice none 0 0, .slice none 0 0, by rw [HT.out]; rfl, by rw [HT.out]; exact Sl.nil _ _, by rw [HT.out]; exact SlC.nil _ _, HE.out⟩
        · obtain ⟨j, rfl⟩ : ∃ j : Nat, n = (j : Int) := ⟨n.toNat, by omega⟩
          have hd2 : decide ((e8 : Int) < (j : Int)) = false := decide_eq_false h2
          have hd2N : decide (e8 < j) = false := decide_eq_false (by omega)
          have HT : Hid (takeL xs most = some (takeN j r)) := Lib.hid (by rw [takeL_yes hT (by rw [HE8.out.2]; omega)]; rfl)
          have HTI := Lib.hid hT
          have hj8 : j * 8 ≤ mr := by have := HE8.out.1; omega
          clear hT hmr
          go_enter Tryz.func151, Tryz.ntmps151
          go_wp2_with (first | (go_at_call 91; refine (takeInt_some v xs w HV.out hm HTI.out).mono ?_; rintro e w1 ⟨u1, rfl, ⟨ao1, cap1, rfl, hc1, hx1⟩, hex⟩; rw [← HMR.out]; have HC1 : Hid (r.length ≤ cap1) := Lib.hid hc1; have HE := Lib.hid hex; have HX1 := Lib.hid hx1; clear hc1 hx1 hex) | fail)
          have hz1 : w.heap.size ≤ w1.heap.size := HE.out.size
          go_loopw [8, 10, 37] (fun a b c wr => ∃ (k : Nat) (ro : Option Addr) (rc : Nat), k ≤ j ∧ c = .int .i64 k ∧ b = .slice ro k rc ∧ OwnE ivE 1 3 wr w.heap.size ro rc (takeN k r).1 ∧ SlC (fun q => w.heap.size ≤ q ∧ rowOf ro ≠ some q) wr a (takeN k r).2 ∧ Ex w.heap.size none w wr) (fun _ _ c _ => j - (intOf c).toNat)
          case atStart => exact ⟨0, none, 0, by omega, rfl, rfl, OwnE.nil _ _ _ _ _, ⟨_, _, by show Value.slice ao1 mr cap1 = Value.slice ao1 r.length cap1; rw [← HMR.out], HC1.out, HX1.out.mono (by decide) fun b hb _ => ⟨hb, by simp [rowOf]⟩⟩, HE.out⟩
          case round =>
            obtain ⟨k, ro, rc, hk, rfl, rfl, hown, hu, hex⟩ := hrel
            have hsz := hex.size
            have HO := Lib.hid hown
            have HU := Lib.hid hu
            have HEX := Lib.hid hex
            clear hown hu hex
            by_cases hlt : k < j
            · have hltI : (k : Int) < (j : Int) := by omega
              have HTK : Hid (takeI (takeN k r).2 = some (i64N (beN ((takeN k r).2.take 8)), (takeN k r).2.drop 8)) := Lib.hid (takeI_long (by rw [takeN_rest, List.length_drop]; have := HMR.out; omega))
              have HLK : Hid ((takeN k r).1.length = k) := Lib.hid (takeN_len k r)
              obtain ⟨y, hy⟩ : ∃ y, y = i64N (beN ((takeN k r).2.take 8)) := ⟨_, rfl⟩
              have HY := Lib.hid hy
              clear hy
              go_wp2_with (first
                | (go_at_call 91
                   refine (takeInt_some _ (takeN k r).2 wr HU.out (by rw [takeN_rest, List.length_drop]; have := HMR.out; omega) HTK.out).mono ?_
                   rw [← HY.out]
                   rintro e w2 ⟨u2, rfl, hu2, hex2⟩
                   have HU2 := Lib.hid hu2
                   have HE2 : Hid (Ex wr.heap.size none wr w2) := Lib.hid hex2
                   have hz2 : wr.heap.size ≤ w2.heap.size := hex2.size
                   clear hu2 hex2)
                | (at_builtin; refine wpList_appE2 rfl (.tmp 45) (.tmp 47) _ 3 (by rfl) Tryz.underlying22 _ 1 8 Tryz.infoInt rfl (by decide) (by decide) ivE ivE_len one_ivE w.heap.size ro rc k (takeN k r).1 HLK.out (by rfl) (some ⟨w2.heap.size, 0, none⟩) 1 1 (by rfl) [y] rfl ((HO.out.keep HE2.out (Nat.le_refl _) (by simp)).keep (Ex.new w2 _) (Nat.le_refl _) (by simp)) (lit_cells (by rfl)) (by omega) (by simp; omega) (k + 1) rfl ?_; intro ro2 rc2 w6 hown6 hex6 hk6 hro6)
                | fail)
              have HO6 : Hid (OwnE ivE 1 3 w6 w.heap.size ro2 rc2 (takeN (k + 1) r).1) := Lib.hid (by rw [takeN_snoc, ← HY.out]; exact hown6)
              have HE6 : Hid (Ex w.heap.size none w w6) := Lib.hid (((HEX.out.trans HE2.out hsz (by simp)).trans (Ex.new w2 _) (by omega) (by simp)).trans hex6 (Nat.le_refl _) (by simp))
              have HU6 : Hid (SlC (fun q => w.heap.size ≤ q ∧ rowOf ro2 ≠ some q) w6 u2 (takeN (k + 1) r).2) := Lib.hid (by
                rw [takeN_snoc]
                have hro : ∀ q, wr.heap.size ≤ q → rowOf ro ≠ some q := fun q hq e => by
                  cases ro with
                  | none => cases e
                  | some ad =>
                    have h1 := (HO.out.lt ad rfl).2
                    have h2 : ad.block = q := Option.some.inj e
                    omega
                have h4 : SlC (fun q => rowOf ro ≠ some q ∧ w.heap.size ≤ q ∧ rowOf ro2 ≠ some q) w2 u2 ((takeN k r).2.drop 8) := HU2.out.mono fun q hq hlt => ⟨hro q hq, by omega, by
                  rcases hro6 with h | h
                  · rw [h]; exact hro q hq
                  · rw [h]; intro e; have := Option.some.inj e; rw [World.size_alloc] at this; omega⟩
                exact (h4.keep (w' := w6) fun b hb hlt => (hk6 b (by rw [World.size_alloc]; omega) hb.1).trans ((Ex.new w2 _).block b hlt (by simp))).mono fun b hb _ => hb.2)
              clear hown6 hex6 hk6 hro6
              go_roundw
              case rel => exact ⟨k + 1, ro2, rc2, by omega, by go_num, rfl, HO6.out, HU6.out, HE6.out⟩
              case measure => simp [intOf] <;> omega
            · have HK : Hid (k = j) := Lib.hid (by omega)
              have h9 : ¬ (k : Int) < (j : Int) := by omega
              have hd9 : decide (k < j) = false := decide_eq_false hlt
              go_wp2
              go_ret3
              have hk : k = j := HK.out
              subst hk
              exact ⟨_, _, by rw [HT.out]; rfl, by rw [HT.out]; have h := ivE_sl HO.out; rw [takeN_len] at h; exact h, by rw [HT.out]; exact HU.out.mono fun b hb _ => hb.1, HEX.out⟩

theorem takeInts02_some {P : Nat → Prop} (v : Value) (xs : List UInt8) (most : Int) (w : World) (hv : SlC P w v xs) (hm : xs.length ≤ 1000000) {n : List Int} {r : List UInt8} (h : takeL xs most = some (n, r)) :
    Calls Tryz.prog 99 #[v, .int .i64 most] w fun e w' => ∃ u1 u2, e = .returned (.tuple #[u1, u2, .bool true]) ∧ Sl intRep (fun b => w.heap.size ≤ b) w' u1 n ∧ SlC (fun b => w.heap.size ≤ b) w' u2 r ∧ Ex w.heap.size none w w' :=
  (takeInts02_any v xs most w hv hm).mono fun e w' ⟨u1, u2, h1, h2, h3, h4⟩ => by rw [h] at h1 h2 h3; exact ⟨u1, u2, h1, h2, h3, h4⟩
theorem takeInts02_none {P : Nat → Prop} (v : Value) (xs : List UInt8) (most : Int) (w : World) (hv : SlC P w v xs) (hm : xs.length ≤ 1000000) (h : takeL xs most = none) :
    Calls Tryz.prog 99 #[v, .int .i64 most] w fun e w' => ∃ u1 u2, e = .returned (.tuple #[u1, u2, .bool false]) ∧ Sl intRep (fun b => w.heap.size ≤ b) w' u1 [] ∧ SlC (fun b => w.heap.size ≤ b) w' u2 [] ∧ Ex w.heap.size none w w' :=
  (takeInts02_any v xs most w hv hm).mono fun e w' ⟨u1, u2, h1, h2, h3, h4⟩ => by rw [h] at h1 h2 h3; exact ⟨u1, u2, h1, h2, h3, h4⟩

theorem takeInts_some {P : Nat → Prop} (v : Value) (xs : List UInt8) (most : Int) (w : World) (hv : SlC P w v xs) (hm : xs.length ≤ 1000000) {n : List Int} {r : List UInt8} (h : takeL xs most = some (n, r)) :
    Calls Tryz.prog 151 #[v, .int .i64 most] w fun e w' => ∃ u1 u2, e = .returned (.tuple #[u1, u2, .bool true]) ∧ Sl intRep (fun b => w.heap.size ≤ b) w' u1 n ∧ SlC (fun b => w.heap.size ≤ b) w' u2 r ∧ Ex w.heap.size none w w' :=
  (takeInts_any v xs most w hv hm).mono fun e w' ⟨u1, u2, h1, h2, h3, h4⟩ => by rw [h] at h1 h2 h3; exact ⟨u1, u2, h1, h2, h3, h4⟩
theorem takeInts_none {P : Nat → Prop} (v : Value) (xs : List UInt8) (most : Int) (w : World) (hv : SlC P w v xs) (hm : xs.length ≤ 1000000) (h : takeL xs most = none) :
    Calls Tryz.prog 151 #[v, .int .i64 most] w fun e w' => ∃ u1 u2, e = .returned (.tuple #[u1, u2, .bool false]) ∧ Sl intRep (fun b => w.heap.size ≤ b) w' u1 [] ∧ SlC (fun b => w.heap.size ≤ b) w' u2 [] ∧ Ex w.heap.size none w w' :=
  (takeInts_any v xs most w hv hm).mono fun e w' ⟨u1, u2, h1, h2, h3, h4⟩ => by rw [h] at h1 h2 h3; exact ⟨u1, u2, h1, h2, h3, h4⟩
end Go.Proofs.YtoeklgbajggndaaGreat

namespace Go.Proofs.YtoeklgbajggndaaGreat
open Go.RowKit Go.Sort

/-- What ends a reading. -/
def brk : List PanicEntry := [{ v := .iface 118 (.agg #[]), recovered := false }]
theorem need_yes (w : World) : Calls Tryz.prog 94 #[.bool true] w fun e w' => e = .returned (.tuple #[]) ∧ w' = w := by
  go_enter Tryz.func94, Tryz.ntmps94
  go_wp2
  first | (go_ret; exact ⟨rfl, rfl⟩) | (go_end0; exact ⟨rfl, rfl⟩)
theorem need_no (w : World) : Calls Tryz.prog 94 #[.bool false] w fun e w' => e = .panicked brk ∧ w' = w := by
  go_enter Tryz.func94, Tryz.ntmps94
  go_wp2
  exact ⟨rfl, rfl, rfl⟩
/-- A reader of the program's: its bytes, and where they lie. -/
def RdPQ (Q : Nat → Prop) (w : World) (g : Nat) (xs : List UInt8) : Prop := ∃ v, w.heap[g]? = some (.cells #[v] 122 (0, 0)) ∧ SlC (fun b => b ≠ g ∧ Q b) w v xs
def RdP (w : World) (g : Nat) (xs : List UInt8) : Prop := RdPQ (fun _ => True) w g xs
theorem RdPQ.lt {Q : Nat → Prop} {w : World} {g : Nat} {xs : List UInt8} (h : RdPQ Q w g xs) : g < w.heap.size := by
  obtain ⟨v, h1, _⟩ := h
  rcases Nat.lt_or_ge g w.heap.size with h | h
  · exact h
  · rw [Array.getElem?_eq_none h] at h1; cases h1
theorem RdPQ.keep {Q : Nat → Prop} {w w' : World} {g : Nat} {xs : List UInt8} (h : RdPQ Q w g xs) (hx : ∀ b, (b = g ∨ Q b) → b < w.heap.size → w'.heap[b]? = w.heap[b]?) : RdPQ Q w' g xs := by
  have hg := h.lt
  obtain ⟨v, h1, h2⟩ := h
  exact ⟨v, (hx g (.inl rfl) hg).trans h1, h2.keep fun b hb hlt => hx b (.inr hb.2) hlt⟩
theorem RdPQ.any {Q : Nat → Prop} {w : World} {g : Nat} {xs : List UInt8} (h : RdPQ Q w g xs) : RdP w g xs := by
  obtain ⟨v, h1, h2⟩ := h
  exact ⟨v, h1, h2.mono fun b hb _ => ⟨hb.1, trivial⟩⟩
theorem RdP.lt {w : World} {g : Nat} {xs : List UInt8} (h : RdP w g xs) : g < w.heap.size := RdPQ.lt h
theorem RdP.keep {w w' : World} {g : Nat} {xs : List UInt8} (h : RdP w g xs) (hx : ∀ b, b < w.heap.size → w'.heap[b]? = w.heap[b]?) : RdP w' g xs := RdPQ.keep h fun b _ hb => hx b hb
theorem row1_set {w : World} {g : Nat} {v u : Value} {t : TypeId} (h : w.heap[g]? = some (.cells #[v] t (0, 0))) : (w.setCell ⟨g, 0, none⟩ u).heap[g]? = some (.cells #[u] t (0, 0)) := by
  simp [World.setCell, Array.getElem?_modify, h]
theorem row1_cell {w : World} {g : Nat} {v : Value} {t : TypeId} (h : w.heap[g]? = some (.cells #[v] t (0, 0))) : w.cell? ⟨g, 0, none⟩ = some v ∧ w.frozen? ⟨g, 0, none⟩ = false := by
  constructor
  · rw [cell_of_row _ _ _ _ _ _ h]; rfl
  · simp [World.frozen?, h]

set_option maxHeartbeats 4000000 in
set_option maxRecDepth 100000 in
theorem readInt_any (g : Nat) (xs : List UInt8) (w : World) (h : RdP w g xs) (hm : xs.length ≤ 1000000) :
    Calls Tryz.prog 138 #[.pointer (some ⟨g, 0, none⟩)] w fun e w' => (∃ n r, takeI xs = some (n, r) ∧ e = .returned (.int .i64 n) ∧ RdPQ (fun b => w.heap.size ≤ b) w' g r ∧ Ex w.heap.size (some g) w w') ∨ (takeI xs = none ∧ e = .panicked brk ∧ Ex w.heap.size (some g) w w') := by
  have hgl := h.lt
  obtain ⟨v, hrow, hsl⟩ := h
  have HROW := Lib.hid hrow
  have HSL := Lib.hid hsl
  obtain ⟨d0, fz⟩ := row1_cell hrow
  clear hrow hsl
  cases hT : takeI xs with
  | none =>
    have HTI := Lib.hid hT
    go_enter Tryz.func138, Tryz.ntmps138
    go_wp2_with (first
      | (go_at_call 91
         refine (takeInt_none v xs w HSL.out hm HTI.out).mono ?_
         rintro e w1 ⟨u1, rfl, hu1, hex⟩
         have HE := Lib.hid hex
         clear hu1 hex d0 fz)
      | (go_at_call 94
         refine (need_no _).mono ?_
         rintro e w2 ⟨rfl, rfl⟩)
      | fail)
    exact ⟨rfl, .inr ⟨by first | trivial | rfl | exact HTI.out, rfl, HE.out.weaken _⟩⟩
  | some q =>
    obtain ⟨n, r⟩ := q
    have HTI := Lib.hid hT
    go_enter Tryz.func138, Tryz.ntmps138
    go_wp2_with (first
      | (go_at_call 91
         refine (takeInt_some v xs w HSL.out hm HTI.out).mono ?_
         rintro e w1 ⟨u1, rfl, hu1, hex⟩
         obtain ⟨ao1, cap1, rfl, hc1, hx1⟩ := hu1
         obtain ⟨m1, hm1⟩ : ∃ m1, m1 = r.length := ⟨_, rfl⟩
         rw [← hm1] at hc1
         rw [← hm1]
         have HE := Lib.hid hex
         have hr1 := (hex.block g hgl (by simp)).trans HROW.out
         have HR1 := Lib.hid hr1
         have HU : Hid (SlC (fun b => w.heap.size ≤ b) w1 (.slice ao1 m1 cap1) r) := Lib.hid ⟨ao1, cap1, by rw [hm1], by omega, hx1⟩
         have hz := hex.size
         clear d0 fz
         obtain ⟨d0, fz⟩ := row1_cell hr1
         clear hc1 hx1 hm1 hex hr1)
      | (go_at_call 94
         refine (need_yes _).mono ?_
         rintro e w2 ⟨rfl, rfl⟩)
      | fail)
    go_ret
    have hex2 : Ex w.heap.size (some g) w (w2.setCell ⟨g, 0, none⟩ (.slice ao1 m1 cap1)) := (HE.out.weaken (some g)).setCell 0 none (.slice ao1 m1 cap1) (.inl rfl)
    have hx2 : Ex w2.heap.size (some g) w2 (w2.setCell ⟨g, 0, none⟩ (.slice ao1 m1 cap1)) := (Ex.refl _ _ _).setCell 0 none (.slice ao1 m1 cap1) (.inl rfl)
    exact .inl ⟨n, r, rfl, rfl, ⟨.slice ao1 m1 cap1, row1_set HR1.out, (HU.out.mono (P' := fun b => b ≠ g ∧ w.heap.size ≤ b) fun b hb _ => ⟨by omega, hb⟩).keep fun b hb hlt => hx2.block b hlt (by intro e; exact hb.1 (Option.some.inj e))⟩, hex2⟩

set_option maxHeartbeats 4000000 in
set_option maxRecDepth 100000 in
theorem readText_any (g : Nat) (xs : List UInt8) (most : Int) (w : World) (h : RdP w g xs) (hm : xs.length ≤ 1000000) :
    Calls Tryz.prog 139 #[.pointer (some ⟨g, 0, none⟩), .int .i64 most] w fun e w' => (∃ n r, takeT xs most = some (n, r) ∧ e = .returned (.string n) ∧ RdPQ (fun b => w.heap.size ≤ b) w' g r ∧ Ex w.heap.size (some g) w w') ∨ (takeT xs most = none ∧ e = .panicked brk ∧ Ex w.heap.size (some g) w w') := by
  have hgl := h.lt
  obtain ⟨v, hrow, hsl⟩ := h
  have HROW := Lib.hid hrow
  have HSL := Lib.hid hsl
  obtain ⟨d0, fz⟩ := row1_cell hrow
  clear hrow hsl
  cases hT : takeT xs most with
  | none =>
    have HTI := Lib.hid hT
    go_enter Tryz.func139, Tryz.ntmps139
    go_wp2_with (first
      | (go_at_call 50
         refine (takeText_none v xs most w HSL.out hm HTI.out).mono ?_
         rintro e w1 ⟨u1, rfl, hu1, hex⟩
         have HE := Lib.hid hex
         clear hu1 hex d0 fz)
      | (go_at_call 94
         refine (need_no _).mono ?_
         rintro e w2 ⟨rfl, rfl⟩)
      | fail)
    exact ⟨rfl, .inr ⟨by first | trivial | rfl | exact HTI.out, rfl, HE.out.weaken _⟩⟩
  | some q =>
    obtain ⟨n, r⟩ := q
    have HTI := Lib.hid hT
    go_enter Tryz.func139, Tryz.ntmps139
    go_wp2_with (first
      | (go_at_call 50
         refine (takeText_some v xs most w HSL.out hm HTI.out).mono ?_
         rintro e w1 ⟨u1, rfl, hu1, hex⟩
         obtain ⟨ao1, cap1, rfl, hc1, hx1⟩ := hu1
         obtain ⟨m1, hm1⟩ : ∃ m1, m1 = r.length := ⟨_, rfl⟩
         rw [← hm1] at hc1
         rw [← hm1]
         have HE := Lib.hid hex
         have hr1 := (hex.block g hgl (by simp)).trans HROW.out
         have HR1 := Lib.hid hr1
         have HU : Hid (SlC (fun b => w.heap.size ≤ b) w1 (.slice ao1 m1 cap1) r) := Lib.hid ⟨ao1, cap1, by rw [hm1], by omega, hx1⟩
         have hz := hex.size
         clear d0 fz
         obtain ⟨d0, fz⟩ := row1_cell hr1
         clear hc1 hx1 hm1 hex hr1)
      | (go_at_call 94
         refine (need_yes _).mono ?_
         rintro e w2 ⟨rfl, rfl⟩)
      | fail)
    go_ret
    have hex2 : Ex w.heap.size (some g) w (w2.setCell ⟨g, 0, none⟩ (.slice ao1 m1 cap1)) := (HE.out.weaken (some g)).setCell 0 none (.slice ao1 m1 cap1) (.inl rfl)
    have hx2 : Ex w2.heap.size (some g) w2 (w2.setCell ⟨g, 0, none⟩ (.slice ao1 m1 cap1)) := (Ex.refl _ _ _).setCell 0 none (.slice ao1 m1 cap1) (.inl rfl)
    exact .inl ⟨n, r, rfl, rfl, ⟨.slice ao1 m1 cap1, row1_set HR1.out, (HU.out.mono (P' := fun b => b ≠ g ∧ w.heap.size ≤ b) fun b hb _ => ⟨by omega, hb⟩).keep fun b hb hlt => hx2.block b hlt (by intro e; exact hb.1 (Option.some.inj e))⟩, hex2⟩

set_option maxHeartbeats 4000000 in
set_option maxRecDepth 100000 in
theorem readInts_any (g : Nat) (xs : List UInt8) (most : Int) (w : World) (h : RdP w g xs) (hm : xs.length ≤ 1000000) :
    Calls Tryz.prog 140 #[.pointer (some ⟨g, 0, none⟩), .int .i64 most] w fun e w' => (∃ n r v2, takeL xs most = some (n, r) ∧ e = .returned (v2) ∧ Sl intRep (fun b => w.heap.size ≤ b) w' v2 n ∧ RdPQ (fun b => w.heap.size ≤ b) w' g r ∧ Ex w.heap.size (some g) w w') ∨ (takeL xs most = none ∧ e = .panicked brk ∧ Ex w.heap.size (some g) w w') := by
  have hgl := h.lt
  obtain ⟨v, hrow, hsl⟩ := h
  have HROW := Lib.hid hrow
  have HSL := Lib.hid hsl
  obtain ⟨d0, fz⟩ := row1_cell hrow
  clear hrow hsl
  cases hT : takeL xs most with
  | none =>
    have HTI := Lib.hid hT
    go_enter Tryz.func140, Tryz.ntmps140
    go_wp2_with (first
      | (go_at_call 151
         refine (takeInts_none v xs most w HSL.out hm HTI.out).mono ?_
         rintro e w1 ⟨v2, u1, rfl, hv2, hu1, hex⟩
         have HE := Lib.hid hex
         clear hu1 hex d0 fz)
      | (go_at_call 94
         refine (need_no _).mono ?_
         rintro e w2 ⟨rfl, rfl⟩)
      | fail)
    exact ⟨rfl, .inr ⟨by first | trivial | rfl | exact HTI.out, rfl, HE.out.weaken _⟩⟩
  | some q =>
    obtain ⟨n, r⟩ := q
    have HTI := Lib.hid hT
    go_enter Tryz.func140, Tryz.ntmps140
    go_wp2_with (first
      | (go_at_call 151
         refine (takeInts_some v xs most w HSL.out hm HTI.out).mono ?_
         rintro e w1 ⟨v2, u1, rfl, hv2, hu1, hex⟩
         obtain ⟨ao1, cap1, rfl, hc1, hx1⟩ := hu1
         obtain ⟨m1, hm1⟩ : ∃ m1, m1 = r.length := ⟨_, rfl⟩
         rw [← hm1] at hc1
         rw [← hm1]
         have HE := Lib.hid hex
         have hr1 := (hex.block g hgl (by simp)).trans HROW.out
         have HR1 := Lib.hid hr1
         have HU : Hid (SlC (fun b => w.heap.size ≤ b) w1 (.slice ao1 m1 cap1) r) := Lib.hid ⟨ao1, cap1, by rw [hm1], by omega, hx1⟩
         have HV2 := Lib.hid hv2; clear hv2; have hz := hex.size
         clear d0 fz
         obtain ⟨d0, fz⟩ := row1_cell hr1
         clear hc1 hx1 hm1 hex hr1)
      | (go_at_call 94
         refine (need_yes _).mono ?_
         rintro e w2 ⟨rfl, rfl⟩)
      | fail)
    go_ret
    have hex2 : Ex w.heap.size (some g) w (w2.setCell ⟨g, 0, none⟩ (.slice ao1 m1 cap1)) := (HE.out.weaken (some g)).setCell 0 none (.slice ao1 m1 cap1) (.inl rfl)
    have hx2 : Ex w2.heap.size (some g) w2 (w2.setCell ⟨g, 0, none⟩ (.slice ao1 m1 cap1)) := (Ex.refl _ _ _).setCell 0 none (.slice ao1 m1 cap1) (.inl rfl)
    exact .inl ⟨n, r, v2, rfl, rfl, HV2.out.keep (by decide) fun b hb hlt => hx2.block b hlt (by intro e; have := Option.some.inj e; omega), ⟨.slice ao1 m1 cap1, row1_set HR1.out, (HU.out.mono (P' := fun b => b ≠ g ∧ w.heap.size ≤ b) fun b hb _ => ⟨by omega, hb⟩).keep fun b hb hlt => hx2.block b hlt (by intro e; exact hb.1 (Option.some.inj e))⟩, hex2⟩

end Go.Proofs.YtoeklgbajggndaaGreat

namespace Go.Proofs.YtoeklgbajggndaaGreat
open Go.RowKit Go.Sort

/-- A reader of the document's: its bytes, as long as all is well; and where they lie. -/
def Rd3Q (Q : Nat → Prop) (w : World) (g : Nat) (st : Option (List UInt8)) : Prop := ∃ v, w.heap[g]? = some (.cells #[v, .bool st.isSome] 128 (0, 0)) ∧ SlC (fun b => b ≠ g ∧ Q b) w v (st.getD [])
def Rd3 (w : World) (g : Nat) (st : Option (List UInt8)) : Prop := Rd3Q (fun _ => True) w g st
theorem Rd3Q.lt {Q : Nat → Prop} {w : World} {g : Nat} {st : Option (List UInt8)} (h : Rd3Q Q w g st) : g < w.heap.size := by
  obtain ⟨v, h1, _⟩ := h
  rcases Nat.lt_or_ge g w.heap.size with h | h
  · exact h
  · rw [Array.getElem?_eq_none h] at h1; cases h1
theorem Rd3Q.keep {Q : Nat → Prop} {w w' : World} {g : Nat} {st : Option (List UInt8)} (h : Rd3Q Q w g st) (hx : ∀ b, (b = g ∨ Q b) → b < w.heap.size → w'.heap[b]? = w.heap[b]?) : Rd3Q Q w' g st := by
  have hg := h.lt
  obtain ⟨v, h1, h2⟩ := h
  exact ⟨v, (hx g (.inl rfl) hg).trans h1, h2.keep fun b hb hlt => hx b (.inr hb.2) hlt⟩
theorem Rd3Q.any {Q : Nat → Prop} {w : World} {g : Nat} {st : Option (List UInt8)} (h : Rd3Q Q w g st) : Rd3 w g st := by
  obtain ⟨v, h1, h2⟩ := h
  exact ⟨v, h1, h2.mono fun b hb _ => ⟨hb.1, trivial⟩⟩
theorem Rd3.lt {w : World} {g : Nat} {st : Option (List UInt8)} (h : Rd3 w g st) : g < w.heap.size := Rd3Q.lt h
theorem row2_set {w : World} {g : Nat} {v0 v1 u0 u1 : Value} {t : TypeId} (h : w.heap[g]? = some (.cells #[v0, v1] t (0, 0))) : ((w.setCell ⟨g, 0, none⟩ u0).setCell ⟨g, 1, none⟩ u1).heap[g]? = some (.cells #[u0, u1] t (0, 0)) := by
  simp [World.setCell, Array.getElem?_modify, h]
theorem row2_cell {w : World} {g : Nat} {v0 v1 : Value} {t : TypeId} (h : w.heap[g]? = some (.cells #[v0, v1] t (0, 0))) : w.cell? ⟨g, 0, none⟩ = some v0 ∧ w.cell? ⟨g, 1, none⟩ = some v1 ∧ w.frozen? ⟨g, 0, none⟩ = false ∧ w.frozen? ⟨g, 1, none⟩ = false := by
  refine ⟨?_, ?_, ?_, ?_⟩
  · rw [cell_of_row _ _ _ _ _ _ h]; rfl
  · rw [cell_of_row _ _ _ _ _ _ h]; rfl
  · simp [World.frozen?, h]
  · simp [World.frozen?, h]

set_option maxHeartbeats 4000000 in
set_option maxRecDepth 100000 in
theorem read3Int_any (g : Nat) (st : Option (List UInt8)) (w : World) (h : Rd3 w g st) (hm : (st.getD []).length ≤ 1000000) :
    Calls Tryz.prog 97 #[.pointer (some ⟨g, 0, none⟩)] w fun e w' => e = .returned (.int .i64 (((st.bind fun xs => takeI xs).map (·.1)).getD 0)) ∧ Rd3Q (fun b => w.heap.size ≤ b) w' g ((st.bind fun xs => takeI xs).map (·.2)) ∧ Ex w.heap.size (some g) w w' := by
  have hgl := h.lt
  obtain ⟨v, hrow, hsl⟩ := h
  have HROW := Lib.hid hrow
  have HSL := Lib.hid hsl
  obtain ⟨d0, d1, f0, f1⟩ := row2_cell hrow
  clear hrow hsl
  cases st with
  | none =>
    simp only [Option.isSome_none] at d1
    have hs : (((none : Option (List UInt8)).bind fun xs => takeI xs).map (·.1)).getD 0 = 0 ∧ ((none : Option (List UInt8)).bind fun xs => takeI xs).map (·.2) = none := ⟨rfl, rfl⟩
    have HS := Lib.hid hs
    clear hs
    go_enter Tryz.func97, Tryz.ntmps97
    go_wp2_with (first
      | (go_at_call 95
         refine (takeInt02_none v [] w HSL.out (by simp) rfl).mono ?_
         rintro e w1 ⟨u1, rfl, hu1, hex⟩
         obtain ⟨ao1, cap1, rfl, hc1, hx1⟩ := hu1
         obtain ⟨m1, hm1⟩ : ∃ m1, m1 = (([] : List UInt8)).length := ⟨_, rfl⟩
         rw [← hm1] at hc1
         rw [← hm1]
         have HE := Lib.hid hex
         have hr1 := (hex.block g hgl (by simp)).trans HROW.out
         have HR1 := Lib.hid hr1
         have HU : Hid (SlC (fun b => w.heap.size ≤ b) w1 (.slice ao1 m1 cap1) ([] : List UInt8)) := Lib.hid ⟨ao1, cap1, by rw [hm1], by omega, hx1⟩
         have hz := hex.size
         clear d0 d1 f0 f1
         obtain ⟨d0, d1, f0, f1⟩ := row2_cell hr1
         clear hc1 hx1 hm1 hex hr1)
      | fail)
    go_ret
    have hex2 : Ex w.heap.size (some g) w ((w1.setCell ⟨g, 0, none⟩ (.slice ao1 m1 cap1)).setCell ⟨g, 1, none⟩ (.bool false)) := ((HE.out.weaken (some g)).setCell 0 none (.slice ao1 m1 cap1) (.inl rfl)).setCell 1 none _ (.inl rfl)
    have hx2 : Ex w1.heap.size (some g) w1 ((w1.setCell ⟨g, 0, none⟩ (.slice ao1 m1 cap1)).setCell ⟨g, 1, none⟩ (.bool false)) := ((Ex.refl _ _ _).setCell 0 none (.slice ao1 m1 cap1) (.inl rfl)).setCell 1 none _ (.inl rfl)
    exact ⟨by rw [HS.out.1]; rfl, by rw [HS.out.2]; exact ⟨.slice ao1 m1 cap1, row2_set HR1.out, (HU.out.mono (P' := fun b => b ≠ g ∧ w.heap.size ≤ b) fun b hb _ => ⟨by omega, hb⟩).keep fun b hb hlt => hx2.block b hlt (by intro e; exact hb.1 (Option.some.inj e))⟩, hex2⟩
  | some xs =>
    simp only [Option.isSome_some] at d1
    cases hT : takeI xs with
    | none =>
      have HTI := Lib.hid hT
      have hs : (((some xs : Option (List UInt8)).bind fun xs => takeI xs).map (·.1)).getD 0 = 0 ∧ ((some xs : Option (List UInt8)).bind fun xs => takeI xs).map (·.2) = none := by simp [hT]
      clear hT
      have HS := Lib.hid hs
      clear hs
      go_enter Tryz.func97, Tryz.ntmps97
      go_wp2_with (first
        | (go_at_call 95
           refine (takeInt02_none v xs w HSL.out hm HTI.out).mono ?_
           rintro e w1 ⟨u1, rfl, hu1, hex⟩
           obtain ⟨ao1, cap1, rfl, hc1, hx1⟩ := hu1
           obtain ⟨m1, hm1⟩ : ∃ m1, m1 = (([] : List UInt8)).length := ⟨_, rfl⟩
           rw [← hm1] at hc1
           rw [← hm1]
           have HE := Lib.hid hex
           have hr1 := (hex.block g hgl (by simp)).trans HROW.out
           have HR1 := Lib.hid hr1
           have HU : Hid (SlC (fun b => w.heap.size ≤ b) w1 (.slice ao1 m1 cap1) ([] : List UInt8)) := Lib.hid ⟨ao1, cap1, by rw [hm1], by omega, hx1⟩
           have hz := hex.size
           clear d0 d1 f0 f1
           obtain ⟨d0, d1, f0, f1⟩ := row2_cell hr1
           clear hc1 hx1 hm1 hex hr1)
        | fail)
      go_ret
      have hex2 : Ex w.heap.size (some g) w ((w1.setCell ⟨g, 0, none⟩ (.slice ao1 m1 cap1)).setCell ⟨g, 1, none⟩ (.bool false)) := ((HE.out.weaken (some g)).setCell 0 none (.slice ao1 m1 cap1) (.inl rfl)).setCell 1 none _ (.inl rfl)
      have hx2 : Ex w1.heap.size (some g) w1 ((w1.setCell ⟨g, 0, none⟩ (.slice ao1 m1 cap1)).setCell ⟨g, 1, none⟩ (.bool false)) := ((Ex.refl _ _ _).setCell 0 none (.slice ao1 m1 cap1) (.inl rfl)).setCell 1 none _ (.inl rfl)
      exact ⟨by rw [HS.out.1]; rfl, by rw [HS.out.2]; exact ⟨.slice ao1 m1 cap1, row2_set HR1.out, (HU.out.mono (P' := fun b => b ≠ g ∧ w.heap.size ≤ b) fun b hb _ => ⟨by omega, hb⟩).keep fun b hb hlt => hx2.block b hlt (by intro e; exact hb.1 (Option.some.inj e))⟩, hex2⟩
    | some q =>
      obtain ⟨n, r⟩ := q
      have HTI := Lib.hid hT
      have hs : (((some xs : Option (List UInt8)).bind fun xs => takeI xs).map (·.1)).getD 0 = n ∧ ((some xs : Option (List UInt8)).bind fun xs => takeI xs).map (·.2) = some r := by simp [hT]
      clear hT
      have HS := Lib.hid hs
      clear hs
      go_enter Tryz.func97, Tryz.ntmps97
      go_wp2_with (first
        | (go_at_call 95
           refine (takeInt02_some v xs w HSL.out hm HTI.out).mono ?_
           rintro e w1 ⟨u1, rfl, hu1, hex⟩
           obtain ⟨ao1, cap1, rfl, hc1, hx1⟩ := hu1
           obtain ⟨m1, hm1⟩ : ∃ m1, m1 = (r).length := ⟨_, rfl⟩
           rw [← hm1] at hc1
           rw [← hm1]
           have HE := Lib.hid hex
           have hr1 := (hex.block g hgl (by simp)).trans HROW.out
           have HR1 := Lib.hid hr1
           have HU : Hid (SlC (fun b => w.heap.size ≤ b) w1 (.slice ao1 m1 cap1) r) := Lib.hid ⟨ao1, cap1, by rw [hm1], by omega, hx1⟩
           have hz := hex.size
           clear d0 d1 f0 f1
           obtain ⟨d0, d1, f0, f1⟩ := row2_cell hr1
           clear hc1 hx1 hm1 hex hr1)
        | fail)
      go_ret
      have hex2 : Ex w.heap.size (some g) w ((w1.setCell ⟨g, 0, none⟩ (.slice ao1 m1 cap1)).setCell ⟨g, 1, none⟩ (.bool true)) := ((HE.out.weaken (some g)).setCell 0 none (.slice ao1 m1 cap1) (.inl rfl)).setCell 1 none _ (.inl rfl)
      have hx2 : Ex w1.heap.size (some g) w1 ((w1.setCell ⟨g, 0, none⟩ (.slice ao1 m1 cap1)).setCell ⟨g, 1, none⟩ (.bool true)) := ((Ex.refl _ _ _).setCell 0 none (.slice ao1 m1 cap1) (.inl rfl)).setCell 1 none _ (.inl rfl)
      exact ⟨by rw [HS.out.1]; rfl, by rw [HS.out.2]; exact ⟨.slice ao1 m1 cap1, row2_set HR1.out, (HU.out.mono (P' := fun b => b ≠ g ∧ w.heap.size ≤ b) fun b hb _ => ⟨by omega, hb⟩).keep fun b hb hlt => hx2.block b hlt (by intro e; exact hb.1 (Option.some.inj e))⟩, hex2⟩

set_option maxHeartbeats 4000000 in
set_option maxRecDepth 100000 in
theorem read3Text_any (g : Nat) (st : Option (List UInt8)) (most : Int) (w : World) (h : Rd3 w g st) (hm : (st.getD []).length ≤ 1000000) :
    Calls Tryz.prog 98 #[.pointer (some ⟨g, 0, none⟩), .int .i64 most] w fun e w' => e = .returned (.string (((st.bind fun xs => takeT xs most).map (·.1)).getD ⟨#[]⟩)) ∧ Rd3Q (fun b => w.heap.size ≤ b) w' g ((st.bind fun xs => takeT xs most).map (·.2)) ∧ Ex w.heap.size (some g) w w' := by
  have hgl := h.lt
  obtain ⟨v, hrow, hsl⟩ := h
  have HROW := Lib.hid hrow
  have HSL := Lib.hid hsl
  obtain ⟨d0, d1, f0, f1⟩ := row2_cell hrow
  clear hrow hsl
  cases st with
  | none =>
    simp only [Option.isSome_none] at d1
    have hs : (((none : Option (List UInt8)).bind fun xs => takeT xs most).map (·.1)).getD ⟨#[]⟩ = ⟨#[]⟩ ∧ ((none : Option (List UInt8)).bind fun xs => takeT xs most).map (·.2) = none := ⟨rfl, rfl⟩
    have HS := Lib.hid hs
    clear hs
    go_enter Tryz.func98, Tryz.ntmps98
    go_wp2_with (first
      | (go_at_call 52
         refine (takeText02_none v [] most w HSL.out (by simp) (takeT_short rfl)).mono ?_
         rintro e w1 ⟨u1, rfl, hu1, hex⟩
         obtain ⟨ao1, cap1, rfl, hc1, hx1⟩ := hu1
         obtain ⟨m1, hm1⟩ : ∃ m1, m1 = (([] : List UInt8)).length := ⟨_, rfl⟩
         rw [← hm1] at hc1
         rw [← hm1]
         have HE := Lib.hid hex
         have hr1 := (hex.block g hgl (by simp)).trans HROW.out
         have HR1 := Lib.hid hr1
         have HU : Hid (SlC (fun b => w.heap.size ≤ b) w1 (.slice ao1 m1 cap1) ([] : List UInt8)) := Lib.hid ⟨ao1, cap1, by rw [hm1], by omega, hx1⟩
         have hz := hex.size
         clear d0 d1 f0 f1
         obtain ⟨d0, d1, f0, f1⟩ := row2_cell hr1
         clear hc1 hx1 hm1 hex hr1)
      | fail)
    go_ret
    have hex2 : Ex w.heap.size (some g) w ((w1.setCell ⟨g, 0, none⟩ (.slice ao1 m1 cap1)).setCell ⟨g, 1, none⟩ (.bool false)) := ((HE.out.weaken (some g)).setCell 0 none (.slice ao1 m1 cap1) (.inl rfl)).setCell 1 none _ (.inl rfl)
    have hx2 : Ex w1.heap.size (some g) w1 ((w1.setCell ⟨g, 0, none⟩ (.slice ao1 m1 cap1)).setCell ⟨g, 1, none⟩ (.bool false)) := ((Ex.refl _ _ _).setCell 0 none (.slice ao1 m1 cap1) (.inl rfl)).setCell 1 none _ (.inl rfl)
    exact ⟨by rw [HS.out.1]; rfl, by rw [HS.out.2]; exact ⟨.slice ao1 m1 cap1, row2_set HR1.out, (HU.out.mono (P' := fun b => b ≠ g ∧ w.heap.size ≤ b) fun b hb _ => ⟨by omega, hb⟩).keep fun b hb hlt => hx2.block b hlt (by intro e; exact hb.1 (Option.some.inj e))⟩, hex2⟩
  | some xs =>
    simp only [Option.isSome_some] at d1
    cases hT : takeT xs most with
    | none =>
      have HTI := Lib.hid hT
      have hs : (((some xs : Option (List UInt8)).bind fun xs => takeT xs most).map (·.1)).getD ⟨#[]⟩ = ⟨#[]⟩ ∧ ((some xs : Option (List UInt8)).bind fun xs => takeT xs most).map (·.2) = none := by simp [hT]
      clear hT
      have HS := Lib.hid hs
      clear hs
      go_enter Tryz.func98, Tryz.ntmps98
      go_wp2_with (first
        | (go_at_call 52
           refine (takeText02_none v xs most w HSL.out hm HTI.out).mono ?_
           rintro e w1 ⟨u1, rfl, hu1, hex⟩
           obtain ⟨ao1, cap1, rfl, hc1, hx1⟩ := hu1
           obtain ⟨m1, hm1⟩ : ∃ m1, m1 = (([] : List UInt8)).length := ⟨_, rfl⟩
           rw [← hm1] at hc1
           rw [← hm1]
           have HE := Lib.hid hex
           have hr1 := (hex.block g hgl (by simp)).trans HROW.out
           have HR1 := Lib.hid hr1
           have HU : Hid (SlC (fun b => w.heap.size ≤ b) w1 (.slice ao1 m1 cap1) ([] : List UInt8)) := Lib.hid ⟨ao1, cap1, by rw [hm1], by omega, hx1⟩
           have hz := hex.size
           clear d0 d1 f0 f1
           obtain ⟨d0, d1, f0, f1⟩ := row2_cell hr1
           clear hc1 hx1 hm1 hex hr1)
        | fail)
      go_ret
      have hex2 : Ex w.heap.size (some g) w ((w1.setCell ⟨g, 0, none⟩ (.slice ao1 m1 cap1)).setCell ⟨g, 1, none⟩ (.bool false)) := ((HE.out.weaken (some g)).setCell 0 none (.slice ao1 m1 cap1) (.inl rfl)).setCell 1 none _ (.inl rfl)
      have hx2 : Ex w1.heap.size (some g) w1 ((w1.setCell ⟨g, 0, none⟩ (.slice ao1 m1 cap1)).setCell ⟨g, 1, none⟩ (.bool false)) := ((Ex.refl _ _ _).setCell 0 none (.slice ao1 m1 cap1) (.inl rfl)).setCell 1 none _ (.inl rfl)
      exact ⟨by rw [HS.out.1]; rfl, by rw [HS.out.2]; exact ⟨.slice ao1 m1 cap1, row2_set HR1.out, (HU.out.mono (P' := fun b => b ≠ g ∧ w.heap.size ≤ b) fun b hb _ => ⟨by omega, hb⟩).keep fun b hb hlt => hx2.block b hlt (by intro e; exact hb.1 (Option.some.inj e))⟩, hex2⟩
    | some q =>
      obtain ⟨n, r⟩ := q
      have HTI := Lib.hid hT
      have hs : (((some xs : Option (List UInt8)).bind fun xs => takeT xs most).map (·.1)).getD ⟨#[]⟩ = n ∧ ((some xs : Option (List UInt8)).bind fun xs => takeT xs most).map (·.2) = some r := by simp [hT]
      clear hT
      have HS := Lib.hid hs
      clear hs
      go_enter Tryz.func98, Tryz.ntmps98
      go_wp2_with (first
        | (go_at_call 52
           refine (takeText02_some v xs most w HSL.out hm HTI.out).mono ?_
           rintro e w1 ⟨u1, rfl, hu1, hex⟩
           obtain ⟨ao1, cap1, rfl, hc1, hx1⟩ := hu1
           obtain ⟨m1, hm1⟩ : ∃ m1, m1 = (r).length := ⟨_, rfl⟩
           rw [← hm1] at hc1
           rw [← hm1]
           have HE := Lib.hid hex
           have hr1 := (hex.block g hgl (by simp)).trans HROW.out
           have HR1 := Lib.hid hr1
           have HU : Hid (SlC (fun b => w.heap.size ≤ b) w1 (.slice ao1 m1 cap1) r) := Lib.hid ⟨ao1, cap1, by rw [hm1], by omega, hx1⟩
           have hz := hex.size
           clear d0 d1 f0 f1
           obtain ⟨d0, d1, f0, f1⟩ := row2_cell hr1
           clear hc1 hx1 hm1 hex hr1)
        | fail)
      go_ret
      have hex2 : Ex w.heap.size (some g) w ((w1.setCell ⟨g, 0, none⟩ (.slice ao1 m1 cap1)).setCell ⟨g, 1, none⟩ (.bool true)) := ((HE.out.weaken (some g)).setCell 0 none (.slice ao1 m1 cap1) (.inl rfl)).setCell 1 none _ (.inl rfl)
      have hx2 : Ex w1.heap.size (some g) w1 ((w1.setCell ⟨g, 0, none⟩ (.slice ao1 m1 cap1)).setCell ⟨g, 1, none⟩ (.bool true)) := ((Ex.refl _ _ _).setCell 0 none (.slice ao1 m1 cap1) (.inl rfl)).setCell 1 none _ (.inl rfl)
      exact ⟨by rw [HS.out.1]; rfl, by rw [HS.out.2]; exact ⟨.slice ao1 m1 cap1, row2_set HR1.out, (HU.out.mono (P' := fun b => b ≠ g ∧ w.heap.size ≤ b) fun b hb _ => ⟨by omega, hb⟩).keep fun b hb hlt => hx2.block b hlt (by intro e; exact hb.1 (Option.some.inj e))⟩, hex2⟩
end Go.Proofs.YtoeklgbajggndaaGreat

namespace Go.Proofs.YtoeklgbajggndaaGreat
open Go.RowKit Go.Sort

set_option maxHeartbeats 8000000 in
set_option maxRecDepth 100000 in
theorem sameF_any {P Q : Nat → Prop} (s t : St) (lo po : Option Addr) (ln lc pn pc : Nat) (lb pb : Option Addr) (nb cb mp cq : Nat) (lo2 po2 : Option Addr) (ln2 lc2 pn2 pc2 : Nat) (lb2 pb2 : Option Addr) (nb2 cb2 mp2 cq2 : Nat) (w : World) (hs : Lies P w (s, ⟨lo, ln, lc⟩, ⟨po, pn, pc⟩)) (ht : Lies P w (t, ⟨lb, nb, cb⟩, ⟨pb, mp, cq⟩))  (hs2 : Lies Q w (s, ⟨lo2, ln2, lc2⟩, ⟨po2, pn2, pc2⟩)) (ht2 : Lies Q w (t, ⟨lb2, nb2, cb2⟩, ⟨pb2, mp2, cq2⟩)) (hts : Tame s) (htt : Tame t) :
    Calls Tryz.prog 24 #[.agg #[.int .i64 s.author, .int .i64 s.number, .string s.prev, .int .i64 s.time, .int .i64 s.kind, .int .i64 s.a, .int .i64 s.b, .int .i64 s.c, .slice lo ln lc, .slice po pn pc, .string s.body, .int .i64 s.key, .string s.dig, .int .i64 t.author, .int .i64 t.number, .string t.prev, .int .i64 t.time, .int .i64 t.kind, .int .i64 t.a, .int .i64 t.b, .int .i64 t.c, .slice lb nb cb, .slice pb mp cq, .string t.body, .int .i64 t.key, .string t.dig], .agg #[.int .i64 s.author, .int .i64 s.number, .string s.prev, .int .i64 s.time, .int .i64 s.kind, .int .i64 s.a, .int .i64 s.b, .int .i64 s.c, .slice lo2 ln2 lc2, .slice po2 pn2 pc2, .string s.body, .int .i64 s.key, .string s.dig, .int .i64 t.author, .int .i64 t.number, .string t.prev, .int .i64 t.time, .int .i64 t.kind, .int .i64 t.a, .int .i64 t.b, .int .i64 t.c, .slice lb2 nb2 cb2, .slice pb2 mp2 cq2, .string t.body, .int .i64 t.key, .string t.dig]] w fun e w' => e = .returned (.bool true) ∧ Ex w.heap.size none w w' := by
  obtain ⟨w0, hw0⟩ : ∃ w0 : World, w0 = (w.alloc (.cells #[.int .i64 s.author, .int .i64 s.number, .string s.prev, .int .i64 s.time, .int .i64 s.kind, .int .i64 s.a, .int .i64 s.b, .int .i64 s.c, .slice lo ln lc, .slice po pn pc, .string s.body, .int .i64 s.key, .string s.dig, .int .i64 t.author, .int .i64 t.number, .string t.prev, .int .i64 t.time, .int .i64 t.kind, .int .i64 t.a, .int .i64 t.b, .int .i64 t.c, .slice lb nb cb, .slice pb mp cq, .string t.body, .int .i64 t.key, .string t.dig] 29)).alloc (.cells #[.int .i64 s.author, .int .i64 s.number, .string s.prev, .int .i64 s.time, .int .i64 s.kind, .int .i64 s.a, .int .i64 s.b, .int .i64 s.c, .slice lo2 ln2 lc2, .slice po2 pn2 pc2, .string s.body, .int .i64 s.key, .string s.dig, .int .i64 t.author, .int .i64 t.number, .string t.prev, .int .i64 t.time, .int .i64 t.kind, .int .i64 t.a, .int .i64 t.b, .int .i64 t.c, .slice lb2 nb2 cb2, .slice pb2 mp2 cq2, .string t.body, .int .i64 t.key, .string t.dig] 29) := ⟨_, rfl⟩
  have hz0 : w.heap.size + 1 < w0.heap.size := by rw [hw0]; simp
  have HE0 : Hid (Ex w.heap.size none w w0) := Lib.hid (by rw [hw0]; exact (Ex.new w _).trans (Ex.new _ _) (by simp) (by simp))
  have HB1 : Hid (∀ w', Ex w0.heap.size none w0 w' → w'.heap[w.heap.size]? = some (.cells #[.int .i64 s.author, .int .i64 s.number, .string s.prev, .int .i64 s.time, .int .i64 s.kind, .int .i64 s.a, .int .i64 s.b, .int .i64 s.c, .slice lo ln lc, .slice po pn pc, .string s.body, .int .i64 s.key, .string s.dig, .int .i64 t.author, .int .i64 t.number, .string t.prev, .int .i64 t.time, .int .i64 t.kind, .int .i64 t.a, .int .i64 t.b, .int .i64 t.c, .slice lb nb cb, .slice pb mp cq, .string t.body, .int .i64 t.key, .string t.dig] 29 (0, 0))) := Lib.hid (fun w' h => (h.block w.heap.size (by omega) (by simp)).trans (by rw [hw0]; exact ((Ex.new (w.alloc (.cells #[.int .i64 s.author, .int .i64 s.number, .string s.prev, .int .i64 s.time, .int .i64 s.kind, .int .i64 s.a, .int .i64 s.b, .int .i64 s.c, .slice lo ln lc, .slice po pn pc, .string s.body, .int .i64 s.key, .string s.dig, .int .i64 t.author, .int .i64 t.number, .string t.prev, .int .i64 t.time, .int .i64 t.kind, .int .i64 t.a, .int .i64 t.b, .int .i64 t.c, .slice lb nb cb, .slice pb mp cq, .string t.body, .int .i64 t.key, .string t.dig] 29)) (.cells #[.int .i64 s.author, .int .i64 s.number, .string s.prev, .int .i64 s.time, .int .i64 s.kind, .int .i64 s.a, .int .i64 s.b, .int .i64 s.c, .slice lo2 ln2 lc2, .slice po2 pn2 pc2, .string s.body, .int .i64 s.key, .string s.dig, .int .i64 t.author, .int .i64 t.number, .string t.prev, .int .i64 t.time, .int .i64 t.kind, .int .i64 t.a, .int .i64 t.b, .int .i64 t.c, .slice lb2 nb2 cb2, .slice pb2 mp2 cq2, .string t.body, .int .i64 t.key, .string t.dig] 29)).block w.heap.size (by simp) (by simp)).trans (heap_alloc_new w _)))
  have HB2 : Hid (∀ w', Ex w0.heap.size none w0 w' → w'.heap[w.heap.size + 1]? = some (.cells #[.int .i64 s.author, .int .i64 s.number, .string s.prev, .int .i64 s.time, .int .i64 s.kind, .int .i64 s.a, .int .i64 s.b, .int .i64 s.c, .slice lo2 ln2 lc2, .slice po2 pn2 pc2, .string s.body, .int .i64 s.key, .string s.dig, .int .i64 t.author, .int .i64 t.number, .string t.prev, .int .i64 t.time, .int .i64 t.kind, .int .i64 t.a, .int .i64 t.b, .int .i64 t.c, .slice lb2 nb2 cb2, .slice pb2 mp2 cq2, .string t.body, .int .i64 t.key, .string t.dig] 29 (0, 0))) := Lib.hid (fun w' h => (h.block (w.heap.size + 1) hz0 (by simp)).trans (by rw [hw0]; have := heap_alloc_new (w.alloc (.cells #[.int .i64 s.author, .int .i64 s.number, .string s.prev, .int .i64 s.time, .int .i64 s.kind, .int .i64 s.a, .int .i64 s.b, .int .i64 s.c, .slice lo ln lc, .slice po pn pc, .string s.body, .int .i64 s.key, .string s.dig, .int .i64 t.author, .int .i64 t.number, .string t.prev, .int .i64 t.time, .int .i64 t.kind, .int .i64 t.a, .int .i64 t.b, .int .i64 t.c, .slice lb nb cb, .slice pb mp cq, .string t.body, .int .i64 t.key, .string t.dig] 29)) (.cells #[.int .i64 s.author, .int .i64 s.number, .string s.prev, .int .i64 s.time, .int .i64 s.kind, .int .i64 s.a, .int .i64 s.b, .int .i64 s.c, .slice lo2 ln2 lc2, .slice po2 pn2 pc2, .string s.body, .int .i64 s.key, .string s.dig, .int .i64 t.author, .int .i64 t.number, .string t.prev, .int .i64 t.time, .int .i64 t.kind, .int .i64 t.a, .int .i64 t.b, .int .i64 t.c, .slice lb2 nb2 cb2, .slice pb2 mp2 cq2, .string t.body, .int .i64 t.key, .string t.dig] 29); rwa [World.size_alloc] at this))
  have HQ : Hid (∀ w', Ex w0.heap.size none w0 w' → (w'.cell? ⟨w.heap.size, 0, none⟩ = some (.int .i64 s.author) ∧ w'.cell? ⟨w.heap.size, 1, none⟩ = some (.int .i64 s.number) ∧ w'.cell? ⟨w.heap.size, 2, none⟩ = some (.string s.prev) ∧ w'.cell? ⟨w.heap.size, 3, none⟩ = some (.int .i64 s.time) ∧ w'.cell? ⟨w.heap.size, 4, none⟩ = some (.int .i64 s.kind) ∧ w'.cell? ⟨w.heap.size, 5, none⟩ = some (.int .i64 s.a) ∧ w'.cell? ⟨w.heap.size, 6, none⟩ = some (.int .i64 s.b) ∧ w'.cell? ⟨w.heap.size, 7, none⟩ = some (.int .i64 s.c) ∧ w'.cell? ⟨w.heap.size, 8, none⟩ = some (.slice lo ln lc) ∧ w'.cell? ⟨w.heap.size, 9, none⟩ = some (.slice po pn pc) ∧ w'.cell? ⟨w.heap.size, 10, none⟩ = some (.string s.body) ∧ w'.cell? ⟨w.heap.size, 11, none⟩ = some (.int .i64 s.key) ∧ w'.cell? ⟨w.heap.size, 12, none⟩ = some (.string s.dig) ∧ w'.cell? ⟨w.heap.size, 13, none⟩ = some (.int .i64 t.author) ∧ w'.cell? ⟨w.heap.size, 14, none⟩ = some (.int .i64 t.number) ∧ w'.cell? ⟨w.heap.size, 15, none⟩ = some (.string t.prev) ∧ w'.cell? ⟨w.heap.size, 16, none⟩ = some (.int .i64 t.time) ∧ w'.cell? ⟨w.heap.size, 17, none⟩ = some (.int .i64 t.kind) ∧ w'.cell? ⟨w.heap.size, 18, none⟩ = some (.int .i64 t.a) ∧ w'.cell? ⟨w.heap.size, 19, none⟩ = some (.int .i64 t.b) ∧ w'.cell? ⟨w.heap.size, 20, none⟩ = some (.int .i64 t.c) ∧ w'.cell? ⟨w.heap.size, 21, none⟩ = some (.slice lb nb cb) ∧ w'.cell? ⟨w.heap.size, 22, none⟩ = some (.slice pb mp cq) ∧ w'.cell? ⟨w.heap.size, 23, none⟩ = some (.string t.body) ∧ w'.cell? ⟨w.heap.size, 24, none⟩ = some (.int .i64 t.key) ∧ w'.cell? ⟨w.heap.size, 25, none⟩ = some (.string t.dig)) ∧ (w'.cell? ⟨w.heap.size + 1, 0, none⟩ = some (.int .i64 s.author) ∧ w'.cell? ⟨w.heap.size + 1, 1, none⟩ = some (.int .i64 s.number) ∧ w'.cell? ⟨w.heap.size + 1, 2, none⟩ = some (.string s.prev) ∧ w'.cell? ⟨w.heap.size + 1, 3, none⟩ = some (.int .i64 s.time) ∧ w'.cell? ⟨w.heap.size + 1, 4, none⟩ = some (.int .i64 s.kind) ∧ w'.cell? ⟨w.heap.size + 1, 5, none⟩ = some (.int .i64 s.a) ∧ w'.cell? ⟨w.heap.size + 1, 6, none⟩ = some (.int .i64 s.b) ∧ w'.cell? ⟨w.heap.size + 1, 7, none⟩ = some (.int .i64 s.c) ∧ w'.cell? ⟨w.heap.size + 1, 8, none⟩ = some (.slice lo2 ln2 lc2) ∧ w'.cell? ⟨w.heap.size + 1, 9, none⟩ = some (.slice po2 pn2 pc2) ∧ w'.cell? ⟨w.heap.size + 1, 10, none⟩ = some (.string s.body) ∧ w'.cell? ⟨w.heap.size + 1, 11, none⟩ = some (.int .i64 s.key) ∧ w'.cell? ⟨w.heap.size + 1, 12, none⟩ = some (.string s.dig) ∧ w'.cell? ⟨w.heap.size + 1, 13, none⟩ = some (.int .i64 t.author) ∧ w'.cell? ⟨w.heap.size + 1, 14, none⟩ = some (.int .i64 t.number) ∧ w'.cell? ⟨w.heap.size + 1, 15, none⟩ = some (.string t.prev) ∧ w'.cell? ⟨w.heap.size + 1, 16, none⟩ = some (.int .i64 t.time) ∧ w'.cell? ⟨w.heap.size + 1, 17, none⟩ = some (.int .i64 t.kind) ∧ w'.cell? ⟨w.heap.size + 1, 18, none⟩ = some (.int .i64 t.a) ∧ w'.cell? ⟨w.heap.size + 1, 19, none⟩ = some (.int .i64 t.b) ∧ w'.cell? ⟨w.heap.size + 1, 20, none⟩ = some (.int .i64 t.c) ∧ w'.cell? ⟨w.heap.size + 1, 21, none⟩ = some (.slice lb2 nb2 cb2) ∧ w'.cell? ⟨w.heap.size + 1, 22, none⟩ = some (.slice pb2 mp2 cq2) ∧ w'.cell? ⟨w.heap.size + 1, 23, none⟩ = some (.string t.body) ∧ w'.cell? ⟨w.heap.size + 1, 24, none⟩ = some (.int .i64 t.key) ∧ w'.cell? ⟨w.heap.size + 1, 25, none⟩ = some (.string t.dig))) := Lib.hid (fun w' h => by
    have hb := HB1.out w' h
    have hc := HB2.out w' h
    exact ⟨⟨(cell_of_row _ _ 0 _ _ _ hb), (cell_of_row _ _ 1 _ _ _ hb), (cell_of_row _ _ 2 _ _ _ hb), (cell_of_row _ _ 3 _ _ _ hb), (cell_of_row _ _ 4 _ _ _ hb), (cell_of_row _ _ 5 _ _ _ hb), (cell_of_row _ _ 6 _ _ _ hb), (cell_of_row _ _ 7 _ _ _ hb), (cell_of_row _ _ 8 _ _ _ hb), (cell_of_row _ _ 9 _ _ _ hb), (cell_of_row _ _ 10 _ _ _ hb), (cell_of_row _ _ 11 _ _ _ hb), (cell_of_row _ _ 12 _ _ _ hb), (cell_of_row _ _ 13 _ _ _ hb), (cell_of_row _ _ 14 _ _ _ hb), (cell_of_row _ _ 15 _ _ _ hb), (cell_of_row _ _ 16 _ _ _ hb), (cell_of_row _ _ 17 _ _ _ hb), (cell_of_row _ _ 18 _ _ _ hb), (cell_of_row _ _ 19 _ _ _ hb), (cell_of_row _ _ 20 _ _ _ hb), (cell_of_row _ _ 21 _ _ _ hb), (cell_of_row _ _ 22 _ _ _ hb), (cell_of_row _ _ 23 _ _ _ hb), (cell_of_row _ _ 24 _ _ _ hb), (cell_of_row _ _ 25 _ _ _ hb)⟩, ⟨(cell_of_row _ _ 0 _ _ _ hc), (cell_of_row _ _ 1 _ _ _ hc), (cell_of_row _ _ 2 _ _ _ hc), (cell_of_row _ _ 3 _ _ _ hc), (cell_of_row _ _ 4 _ _ _ hc), (cell_of_row _ _ 5 _ _ _ hc), (cell_of_row _ _ 6 _ _ _ hc), (cell_of_row _ _ 7 _ _ _ hc), (cell_of_row _ _ 8 _ _ _ hc), (cell_of_row _ _ 9 _ _ _ hc), (cell_of_row _ _ 10 _ _ _ hc), (cell_of_row _ _ 11 _ _ _ hc), (cell_of_row _ _ 12 _ _ _ hc), (cell_of_row _ _ 13 _ _ _ hc), (cell_of_row _ _ 14 _ _ _ hc), (cell_of_row _ _ 15 _ _ _ hc), (cell_of_row _ _ 16 _ _ _ hc), (cell_of_row _ _ 17 _ _ _ hc), (cell_of_row _ _ 18 _ _ _ hc), (cell_of_row _ _ 19 _ _ _ hc), (cell_of_row _ _ 20 _ _ _ hc), (cell_of_row _ _ 21 _ _ _ hc), (cell_of_row _ _ 22 _ _ _ hc), (cell_of_row _ _ 23 _ _ _ hc), (cell_of_row _ _ 24 _ _ _ hc), (cell_of_row _ _ 25 _ _ _ hc)⟩⟩)
  have HK : Hid (∀ w', Ex w0.heap.size none w0 w' → ∀ b, b < w.heap.size → w'.heap[b]? = w.heap[b]?) := Lib.hid (fun w' h b hb => (h.block b (by omega) (by simp)).trans (HE0.out.block b hb (by simp)))
  have HC1 : Hid (∀ w', Ex w0.heap.size none w0 w' → Calls Tryz.prog 56 #[.agg #[.int .i64 s.author, .int .i64 s.number, .string s.prev, .int .i64 s.time, .int .i64 s.kind, .int .i64 s.a, .int .i64 s.b, .int .i64 s.c, .slice lo ln lc, .slice po pn pc, .string s.body, .int .i64 s.key, .string s.dig], .agg #[.int .i64 s.author, .int .i64 s.number, .string s.prev, .int .i64 s.time, .int .i64 s.kind, .int .i64 s.a, .int .i64 s.b, .int .i64 s.c, .slice lo2 ln2 lc2, .slice po2 pn2 pc2, .string s.body, .int .i64 s.key, .string s.dig]] w' fun e w'' => e = .returned (.bool true) ∧ Ex w'.heap.size none w' w'') := Lib.hid (fun w' h => by
    have := same_any (s, ⟨lo, ln, lc⟩, ⟨po, pn, pc⟩) (s, ⟨lo2, ln2, lc2⟩, ⟨po2, pn2, pc2⟩) w' (hs.keep fun b _ hb => HK.out w' h b hb) (hs2.keep fun b _ hb => HK.out w' h b hb) (by have := hts.list; simp only; omega) (by have := hts.pins; simp only; omega)
    rw [sameS_iff.2 rfl] at this
    exact this)
  have HC2 : Hid (∀ w', Ex w0.heap.size none w0 w' → Calls Tryz.prog 56 #[.agg #[.int .i64 t.author, .int .i64 t.number, .string t.prev, .int .i64 t.time, .int .i64 t.kind, .int .i64 t.a, .int .i64 t.b, .int .i64 t.c, .slice lb nb cb, .slice pb mp cq, .string t.body, .int .i64 t.key, .string t.dig], .agg #[.int .i64 t.author, .int .i64 t.number, .string t.prev, .int .i64 t.time, .int .i64 t.kind, .int .i64 t.a, .int .i64 t.b, .int .i64 t.c, .slice lb2 nb2 cb2, .slice pb2 mp2 cq2, .string t.body, .int .i64 t.key, .string t.dig]] w' fun e w'' => e = .returned (.bool true) ∧ Ex w'.heap.size none w' w'') := Lib.hid (fun w' h => by
    have := same_any (t, ⟨lb, nb, cb⟩, ⟨pb, mp, cq⟩) (t, ⟨lb2, nb2, cb2⟩, ⟨pb2, mp2, cq2⟩) w' (ht.keep fun b _ hb => HK.out w' h b hb) (ht2.keep fun b _ hb => HK.out w' h b hb) (by have := htt.list; simp only; omega) (by have := htt.pins; simp only; omega)
    rw [sameS_iff.2 rfl] at this
    exact this)
  clear hs ht hs2 ht2 hts htt
  obtain ⟨⟨d0, d1, d2, d3, d4, d5, d6, d7, d8, d9, d10, d11, d12, d13, d14, d15, d16, d17, d18, d19, d20, d21, d22, d23, d24, d25⟩, ⟨e0, e1, e2, e3, e4, e5, e6, e7, e8, e9, e10, e11, e12, e13, e14, e15, e16, e17, e18, e19, e20, e21, e22, e23, e24, e25⟩⟩ := HQ.out _ (Ex.refl _ _ _)
  go_enter Tryz.func24, Tryz.ntmps24
  go_upto_region 1 with (fail)
  rw [← hw0]
  clear hw0
  go_wp2_with (first
    | (go_at_call 56
       fail_if_success (first | have _x := HX1 | fail)
       refine (HC1.out _ (Ex.refl _ _ _)).mono ?_
       rintro e w1 ⟨rfl, hex⟩
       have HX1 : Hid (Ex w0.heap.size none w0 w1) := Lib.hid hex
       clear hex d0 e0 d1 e1 d2 e2 d3 e3 d4 e4 d5 e5 d6 e6 d7 e7 d8 e8 d9 e9 d10 e10 d11 e11 d12 e12 d13 e13 d14 e14 d15 e15 d16 e16 d17 e17 d18 e18 d19 e19 d20 e20 d21 e21 d22 e22 d23 e23 d24 e24 d25 e25
       obtain ⟨⟨d0, d1, d2, d3, d4, d5, d6, d7, d8, d9, d10, d11, d12, d13, d14, d15, d16, d17, d18, d19, d20, d21, d22, d23, d24, d25⟩, ⟨e0, e1, e2, e3, e4, e5, e6, e7, e8, e9, e10, e11, e12, e13, e14, e15, e16, e17, e18, e19, e20, e21, e22, e23, e24, e25⟩⟩ := HQ.out _ HX1.out)
    | (go_at_call 56
       fail_if_success (first | have _x := HX2 | fail)
       refine (HC2.out _ HX1.out).mono ?_
       rintro e w2 ⟨rfl, hex⟩
       have HX2 : Hid (Ex w0.heap.size none w0 w2) := Lib.hid (HX1.out.trans hex HX1.out.size (by simp))
       clear hex d0 e0 d1 e1 d2 e2 d3 e3 d4 e4 d5 e5 d6 e6 d7 e7 d8 e8 d9 e9 d10 e10 d11 e11 d12 e12 d13 e13 d14 e14 d15 e15 d16 e16 d17 e17 d18 e18 d19 e19 d20 e20 d21 e21 d22 e22 d23 e23 d24 e24 d25 e25)
    | fail)
  go_ret
  exact ⟨rfl, HE0.out.trans HX2.out (by omega) (by simp)⟩
end Go.Proofs.YtoeklgbajggndaaGreat

namespace Go.Proofs.YtoeklgbajggndaaGreat
open Go.RowKit Go.Sort

/-- Small, as the laws of forks mean it. -/
def lightF (s : St) : Bool := decide ((s.list.length : Int) ≤ 70) && decide ((s.pins.length : Int) ≤ 70) && decide ((s.body.size : Int) ≤ 300) && decide ((s.prev.size : Int) ≤ 100)

set_option maxHeartbeats 4000000 in
set_option maxRecDepth 100000 in
theorem light06_any {P : Nat → Prop} (s : St) (lo po : Option Addr) (ln lc pn pc : Nat) (w : World) (hs : Lies P w (s, ⟨lo, ln, lc⟩, ⟨po, pn, pc⟩)) (hl : s.list.length ≤ 9223372036854775807) (hp : s.pins.length ≤ 9223372036854775807) :
    Calls Tryz.prog 5 #[.agg #[.int .i64 s.author, .int .i64 s.number, .string s.prev, .int .i64 s.time, .int .i64 s.kind, .int .i64 s.a, .int .i64 s.b, .int .i64 s.c, .slice lo ln lc, .slice po pn pc, .string s.body, .int .i64 s.key, .string s.dig]] w fun e w' => e = .returned (.bool (lightF s)) ∧ Ex w.heap.size none w w' := by
  obtain ⟨_, _, e1, _⟩ := hs.1
  obtain ⟨_, _, e2, _⟩ := hs.2
  simp only [Sv.v, Value.slice.injEq] at e1 e2
  have h1 := e1.2.1
  have h2 := e2.2.1
  clear e1 e2
  have HG : Hid (lightF s = (decide ((ln : Int) ≤ 70) && decide ((pn : Int) ≤ 70) && decide ((s.body.size : Int) ≤ 300) && decide ((s.prev.size : Int) ≤ 100))) := Lib.hid (by rw [h1, h2]; rfl)
  have HLL : Hid (ln ≤ 9223372036854775807 ∧ pn ≤ 9223372036854775807) := Lib.hid (by omega)
  clear h1 h2 hl hp hs
  obtain ⟨w0, hw0⟩ : ∃ w0 : World, w0 = w.alloc (.cells #[.int .i64 s.author, .int .i64 s.number, .string s.prev, .int .i64 s.time, .int .i64 s.kind, .int .i64 s.a, .int .i64 s.b, .int .i64 s.c, .slice lo ln lc, .slice po pn pc, .string s.body, .int .i64 s.key, .string s.dig] 27) := ⟨_, rfl⟩
  have HE0 : Hid (Ex w.heap.size none w w0) := by rw [hw0]; exact Ex.new w _
  have hb : w0.heap[w.heap.size]? = some (.cells #[.int .i64 s.author, .int .i64 s.number, .string s.prev, .int .i64 s.time, .int .i64 s.kind, .int .i64 s.a, .int .i64 s.b, .int .i64 s.c, .slice lo ln lc, .slice po pn pc, .string s.body, .int .i64 s.key, .string s.dig] 27 (0, 0)) := by rw [hw0]; exact heap_alloc_new w _
  have c8 := cell_of_row _ _ 8 _ _ _ hb
  have c9 := cell_of_row _ _ 9 _ _ _ hb
  have c10 := cell_of_row _ _ 10 _ _ _ hb
  have c2 := cell_of_row _ _ 2 _ _ _ hb
  simp only [List.getElem?_toArray, List.getElem?_cons_zero, List.getElem?_cons_succ] at c8 c9 c10 c2
  clear hb
  obtain ⟨b1, hb1⟩ : ∃ b, b = decide ((ln : Int) ≤ 70) := ⟨_, rfl⟩
  obtain ⟨b2, hb2⟩ : ∃ b, b = decide ((pn : Int) ≤ 70) := ⟨_, rfl⟩
  obtain ⟨b3, hb3⟩ : ∃ b, b = decide ((s.body.size : Int) ≤ 300) := ⟨_, rfl⟩
  rw [← hb1, ← hb2, ← hb3] at HG
  have h1 := hb1.symm
  have h2 := hb2.symm
  have h3 := hb3.symm
  clear hb1 hb2 hb3
  cases b1
  · go_enter Tryz.func5, Tryz.ntmps5
    go_upto_region 1 with (fail)
    rw [← hw0]
    clear hw0
    go_wp2_with (fail)
    go_ret
    exact ⟨by rw [HG.out]; rfl, HE0.out⟩
  · cases b2
    · go_enter Tryz.func5, Tryz.ntmps5
      go_upto_region 1 with (fail)
      rw [← hw0]
      clear hw0
      go_wp2_with (fail)
      go_ret
      exact ⟨by rw [HG.out]; rfl, HE0.out⟩
    · cases b3
      · go_enter Tryz.func5, Tryz.ntmps5
        go_upto_region 1 with (fail)
        rw [← hw0]
        clear hw0
        go_wp2_with (fail)
        go_ret
        exact ⟨by rw [HG.out]; rfl, HE0.out⟩
      · go_enter Tryz.func5, Tryz.ntmps5
        go_upto_region 1 with (fail)
        rw [← hw0]
        clear hw0
        go_wp2_with (fail)
        go_ret
        exact ⟨by rw [HG.out]; rfl, HE0.out⟩
end Go.Proofs.YtoeklgbajggndaaGreat
