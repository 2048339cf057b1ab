/- made.Dice.Graph: a contract that tells bounds. No statement of the seat. -/
import Derived.Test.YtfllcohnfboccaaGreatWith11G
import Derived.Test.YtfllcohnfboccaaGreatDiceWG
import Derived.Test.YtfllcohnfboccaaGreatMg00
import Derived.Deep.CutRange
import Derived.Great.BuildSlice
namespace Go.Proofs.YtfllcohnfboccaaGreat
open Go.RowKit Go.Sort

theorem DiceOK.cell {N : Nat} {w : World} {p : Nat} (h : DiceOK N w p) : ∃ ao n cap, w.cell? ⟨p, 0, none⟩ = some (.slice ao n cap) := by
  obtain ⟨d, L, at', ao, cap, h1, _⟩ := h
  exact ⟨ao, L.length, cap, by rw [cell_of_row _ _ _ _ _ _ h1]; rfl⟩
theorem q_z {w : World} {b : Nat} (h : w.heap[b]? = some (.cells #[.int .i64 0, .slice none 0 0, .slice none 0 0] 64 (0, 0))) : w.cell? ⟨b, 0, none⟩ = some (.int .i64 0) ∧ w.cell? ⟨b, 1, none⟩ = some (.slice none 0 0) ∧ w.cell? ⟨b, 2, none⟩ = some (.slice none 0 0) := by
  refine ⟨?_, ?_, ?_⟩ <;> (rw [cell_of_row _ _ _ _ _ _ h]; rfl)
/-- What With gives, its answer by value. -/
theorem with11_v {P : Nat → Prop} (sz : Int) (eo : Option Addr) (en ec : Nat) (go : Option Addr) (gn gc : Nat) (es : List EdD) (gone : List Int) (f t l : Int) (w : World) (h : SlAt edRep P w eo es) (hn : es.length = en) (hec : en ≤ ec) (hg : IntsAt w go gone) (hgn : gone.length = gn) (hG : GrOK sz es gone) (hf : 0 ≤ f ∧ f < sz) (ht : 0 ≤ t ∧ t < sz) (hl : 1 ≤ l ∧ l ≤ 3) (hen : en ≤ 300) :
    Calls Tryz.prog 75 #[.agg #[.int .i64 sz, .slice eo en ec, .slice go gn gc], .agg #[.int .i64 f, .int .i64 t, .int .i64 l]] w fun e w' => ∃ (z : Int) (eo' : Option Addr) (en' ec' : Nat) (go' : Option Addr) (gn' gc' : Nat) (E : Int), e = .returned (.tuple #[.agg #[.int .i64 z, .slice eo' en' ec', .slice go' gn' gc'], .int .i64 E]) ∧
      Hid ((E ≠ 0 ∧ (f = t ∨ hasI gone f = true ∨ hasI gone t = true ∨ ∃ x ∈ es, x.1 = f ∧ x.2.1 = t)) ∨ (E = 0 ∧ z = sz ∧ en' = en + 1 ∧ gn' = gn ∧ ∃ es', es'.length = en + 1 ∧ GrOK sz es' gone ∧ (∀ x, x ∈ es' ↔ x = (f, t, l) ∨ x ∈ es) ∧ OwnE edE 3 105 w' w.heap.size eo' ec' es' ∧ OwnI w' w.heap.size go' gc' gone)) ∧ Ex w.heap.size none w w' := by
  refine (with11_any sz eo en ec go gn gc es gone f t l w h hn hec hg hgn hG hf ht hl hen).mono fun e w' hp => ?_
  obtain ⟨hp, hx⟩ := hp
  rcases hp with ⟨E, h1, h2, h3⟩ | ⟨eo', ec', go', gc', es', h1, h2, h3, h4, h5, h6⟩
  · exact ⟨0, none, 0, 0, none, 0, 0, E, h2, Lib.hid (.inl ⟨h1, h3⟩), hx⟩
  · exact ⟨sz, eo', en + 1, ec', go', gn, gc', 0, h1, Lib.hid (.inr ⟨rfl, rfl, rfl, rfl, es', h2, h3, h4, h5, h6⟩), hx⟩
theorem set3_block {w : World} {b : Nat} {a1 a2 a3 c1 c2 c3 : Value} {t : TypeId} (h : w.heap[b]? = some (.cells #[a1, a2, a3] t (0, 0))) : (((w.setCell ⟨b, 0, none⟩ c1).setCell ⟨b, 1, none⟩ c2).setCell ⟨b, 2, none⟩ c3).heap[b]? = some (.cells #[c1, c2, c3] t (0, 0)) := by
  rw [heap_setCell_same _ _ _ _ _ _ (heap_setCell_same _ _ _ _ _ _ (heap_setCell_same _ _ _ _ _ _ h))]
  rfl
theorem set3_ex {B q : Nat} {p : Option Nat} {a w : World} {c1 c2 c3 : Value} (h : Ex B p a w) (hq : p = some q ∨ B ≤ q) : Ex B p a (((w.setCell ⟨q, 0, none⟩ c1).setCell ⟨q, 1, none⟩ c2).setCell ⟨q, 2, none⟩ c3) := ((h.setCell _ none _ hq).setCell _ none _ hq).setCell _ none _ hq
/-- What the round keeps of With's answer. -/
def WithKept (sz : Int) (en gn : Nat) (gone : List Int) (_es : List EdD) (base : Nat) (w : World) (z : Int) (xo : Option Addr) (xn xc : Nat) (yo : Option Addr) (yn yc : Nat) (E : Int) : Prop :=
  E ≠ 0 ∨ (E = 0 ∧ z = sz ∧ xn = en + 1 ∧ yn = gn ∧ ∃ es', es'.length = en + 1 ∧ GrOK sz es' gone ∧ OwnE edE 3 105 w base xo xc es' ∧ OwnI w base yo yc gone)
theorem WithKept.of {sz : Int} {en gn : Nat} {gone : List Int} {es : List EdD} {base b0 : Nat} {w w' : World} {z : Int} {xo : Option Addr} {xn xc : Nat} {yo : Option Addr} {yn yc : Nat} {E : Int} {A : Prop} {R : EdD → Prop} {p : Option Nat}
    (h : (E ≠ 0 ∧ A) ∨ (E = 0 ∧ z = sz ∧ xn = en + 1 ∧ yn = gn ∧ ∃ es', es'.length = en + 1 ∧ GrOK sz es' gone ∧ (∀ x, x ∈ es' ↔ R x) ∧ OwnE edE 3 105 w b0 xo xc es' ∧ OwnI w b0 yo yc gone)) (hx : Ex w.heap.size p w w') (hp : ∀ q, p = some q → q < b0) (hb : base ≤ b0) : WithKept sz en gn gone es base w' z xo xn xc yo yn yc E := by
  rcases h with h | ⟨h1, h2, h3, h4, es', h5, h6, h7, h8, h9⟩
  · exact .inl h.1
  · exact .inr ⟨h1, h2, h3, h4, es', h5, h6, (h8.keep hx (Nat.le_refl _) hp).lowerE hb, ((h9.keep hx (Nat.le_refl _) hp).e.lowerE hb).i⟩
set_option maxHeartbeats 8000000 in
set_option maxRecDepth 100000 in
theorem graphD_w (N p : Nat) (w : World) (hd : DiceOK N w p) (hN : N ≤ w.heap.size) :
    Calls Tryz.prog 34 #[.pointer (some ⟨p, 0, none⟩)] w fun e w' => ∃ (sz : Int) (eo : Option Addr) (en ec : Nat) (go : Option Addr) (gn gc : Nat) (es : List EdD) (gone : List Int), e = .returned (.agg #[.int .i64 sz, .slice eo en ec, .slice go gn gc]) ∧ (2 ≤ sz ∧ sz ≤ 9) ∧ (es.length = en ∧ en ≤ 22) ∧ gone.length = gn ∧ GrOK sz es gone ∧ OwnE edE 3 105 w' w.heap.size eo ec es ∧ OwnI w' w.heap.size go gc gone ∧ DiceOK N w' p ∧ Ex w.heap.size (some p) w w' := by
  have HD0 := Lib.hid hd
  have hp := hd.lt
  clear hd
  go_enter Tryz.func34, Tryz.ntmps34
  go_upto_region 1 with (fail)
  obtain ⟨w0, hw0⟩ : ∃ w0 : World, w0 = w.alloc (.cells #[.int .i64 0, .slice none 0 0, .slice none 0 0] 64) := ⟨_, rfl⟩
  have HE0 : Hid (Ex w.heap.size none w w0) := Lib.hid (by rw [hw0]; exact Ex.new _ _)
  have hz0 : w.heap.size + 1 ≤ w0.heap.size := by rw [hw0]; simp
  have HB0 : Hid (w0.heap[w.heap.size]? = some (.cells #[.int .i64 0, .slice none 0 0, .slice none 0 0] 64 (0, 0))) := Lib.hid (by rw [hw0]; exact heap_alloc_new w _)
  rw [← hw0]
  clear hw0
  go_upto_region 2 with (first
    | (go_at_call 20
       refine (next_w N p 8 w0 (HD0.out.keep HE0.out hN) (by omega) (by omega)).mono ?_
       rintro e w1 ⟨k0, rfl, hk0, hd, hex⟩
       have HD1 := Lib.hid hd
       have HE1 := Lib.hid hex
       have hz1 : w0.heap.size ≤ w1.heap.size := hex.size
       have hw8 : IntKind.i64.wrap (2 + (k0 : Int)) = 2 + (k0 : Int) := IntWalk.i64_in _ (by omega)
       clear hd hex)
    | fail)
  obtain ⟨w2, hw2⟩ : ∃ w2 : World, w2 = w1.alloc (.cells #[.int .i64 (2 + (k0 : Int)), .slice none 0 0, .slice none 0 0] 64) := ⟨_, rfl⟩
  have HE2 : Hid (Ex w1.heap.size none w1 w2) := Lib.hid (by rw [hw2]; exact Ex.new _ _)
  have hz2 : w1.heap.size + 1 ≤ w2.heap.size := by rw [hw2]; simp
  have HB2 : Hid (w2.heap[w1.heap.size]? = some (.cells #[.int .i64 (2 + (k0 : Int)), .slice none 0 0, .slice none 0 0] 64 (0, 0))) := Lib.hid (by rw [hw2]; exact heap_alloc_new w1 _)
  have HD2 : Hid (DiceOK N w2 p) := Lib.hid (HD1.out.keep HE2.out (by omega))
  have HE02 : Hid (Ex w0.heap.size (some p) w0 w2) := Lib.hid (HE1.out.trans HE2.out hz1 (by simp))
  rw [← hw2]
  clear hw2 hw8
  obtain ⟨lo, ln, lc, hl⟩ := HD2.out.cell
  go_upto_if 16 with (fail)
  go_cut [3] from 7 to 17 (fun g wx => ∃ sz : Int, g = .pointer (some ⟨w1.heap.size, 0, none⟩) ∧ (2 ≤ sz ∧ sz ≤ 9) ∧ Hid (wx.heap[w1.heap.size]? = some (.cells #[.int .i64 sz, .slice none 0 0, .slice none 0 0] 64 (0, 0))) ∧ Hid (DiceOK N wx p) ∧ Hid (Ex w0.heap.size (some p) w0 wx) ∧ w1.heap.size + 1 ≤ wx.heap.size)
  case first =>
    by_cases h0 : ln = 0
    · have h0d : ((ln : Int) == 0) = true := by simp [h0]
      have h0e : (ln == 0) = true := by simp [h0]
      have q0 : w2.cell? ⟨w1.heap.size, 0, none⟩ = some (.int .i64 (2 + (k0 : Int))) := by rw [cell_of_row _ _ _ _ _ _ HB2.out]; rfl
      have f0 := row_frozen (i := 0) HB2.out
      clear h0
      go_wp2
      go_meet
      refine ⟨4, rfl, by omega, Lib.hid ?_, Lib.hid ?_, Lib.hid ?_, by simp; omega⟩
      · rw [heap_setCell_same _ _ _ _ _ _ HB2.out]; rfl
      · exact HD2.out.keep (Ex.setCell (B := N) (Ex.refl _ _ _) _ none _ (.inr (by omega))) (Nat.le_refl _)
      · exact Ex.setCell HE02.out _ none _ (.inr hz1)
    · have h0d : ((ln : Int) == 0) = false := by simp; omega
      have h0e : (ln == 0) = false := by simp [h0]
      clear h0
      go_wp2
      go_meet
      exact ⟨2 + (k0 : Int), rfl, by omega, HB2, HD2, HE02, hz2⟩
  case rest =>
    clear hl HD2 HE02 HB2 HE2 hz2 HD1
    obtain ⟨sz, rfl, hsz, HB, HD, HE, hzc⟩ := hcut
    have c0 : wc.cell? ⟨w1.heap.size, 0, none⟩ = some (.int .i64 sz) := by rw [cell_of_row _ _ _ _ _ _ HB.out]; rfl
    go_upto_if 19 with (first
      | (go_at_call 74
         refine (one_w N p 8 wc HD.out (by omega) (by omega)).mono ?_
         rintro e w4 ⟨b, rfl, hd, hex⟩
         have HD4 := Lib.hid hd
         have HE4 : Hid (Ex w0.heap.size (some p) w0 w4) := Lib.hid (HE.out.trans hex (by omega) (fun q e _ => by cases e; rfl))
         have HB4 : Hid (w4.heap[w1.heap.size]? = some (.cells #[.int .i64 sz, .slice none 0 0, .slice none 0 0] 64 (0, 0))) := Lib.hid ((hex.block _ (by omega) (by simp; omega)).trans HB.out)
         have hz4 : w1.heap.size + 1 ≤ w4.heap.size := Nat.le_trans hzc hex.size
         clear hd hex c0)
      | fail)
    have c0 : w4.cell? ⟨w1.heap.size, 0, none⟩ = some (.int .i64 sz) := by rw [cell_of_row _ _ _ _ _ _ HB4.out]; rfl
    go_cut [3] from 18 to 25 (fun g wx => ∃ (go : Option Addr) (gn gc : Nat) (gone : List Int), g = .pointer (some ⟨w1.heap.size, 0, none⟩) ∧ Hid (wx.heap[w1.heap.size]? = some (.cells #[.int .i64 sz, .slice none 0 0, .slice go gn gc] 64 (0, 0))) ∧ Hid (gone.length = gn ∧ gn ≤ 1 ∧ (∀ x ∈ gone, 0 ≤ x ∧ x < sz)) ∧ Hid (OwnI wx (w1.heap.size + 1) go gc gone) ∧ Hid (DiceOK N wx p) ∧ Hid (Ex w0.heap.size (some p) w0 wx) ∧ w1.heap.size + 1 ≤ wx.heap.size)
    case first =>
      cases b with
      | true =>
        go_wp2_with (first
          | (go_at_call 20
             refine (next_w N p sz w4 HD4.out (by omega) (by omega)).mono ?_
             rintro e w5 ⟨k5, rfl, hk5, hd, hex⟩
             have HD5 := Lib.hid hd
             have HE5 : Hid (Ex w0.heap.size (some p) w0 w5) := Lib.hid (HE4.out.trans hex (by omega) (fun q e _ => by cases e; rfl))
             have HB5 : Hid ((w5.alloc (.cells #[.int .i64 k5] 3)).heap[w1.heap.size]? = some (.cells #[.int .i64 sz, .slice none 0 0, .slice none 0 0] 64 (0, 0))) := Lib.hid (((Ex.new w5 _).block _ (by have := hex.size; omega) (by simp)).trans ((hex.block _ (by omega) (by simp; omega)).trans HB4.out))
             have hz5 : w1.heap.size + 1 ≤ w5.heap.size := Nat.le_trans hz4 hex.size
             have q2 : (w5.alloc (.cells #[.int .i64 k5] 3)).cell? ⟨w1.heap.size, 2, none⟩ = some (.slice none 0 0) := (by rw [cell_of_row _ _ _ _ _ _ HB5.out]; rfl)
             have f2 := row_frozen (i := 2) HB5.out
             clear hd hex c0)
          | fail)
        go_meet
        refine ⟨some ⟨w5.heap.size, 0, none⟩, 1, 1, [(k5 : Int)], rfl, Lib.hid ?_, Lib.hid ⟨rfl, Nat.le_refl _, fun x hx => ?_⟩, Lib.hid ?_, Lib.hid ?_, Lib.hid ?_, by simp; omega⟩
        · rw [heap_setCell_same _ _ _ _ _ _ HB5.out]; rfl
        · rw [List.mem_singleton.1 hx]; omega
        · refine ⟨rfl, .inr ⟨w5.heap.size, 1, #[.int .i64 k5], rfl, hz5, ?_, Nat.le_refl _, by decide, rfl, rfl⟩⟩
          exact (Below.heap_setCell _ _ _ _ (show w5.heap.size ≠ w1.heap.size by omega)).trans (heap_alloc_new w5 _)
        · exact (HD5.out.keep (Ex.new w5 _) (by omega)).keep (Ex.setCell (B := N) (Ex.refl _ _ _) _ none _ (.inr (by omega))) (Nat.le_refl _)
        · exact Ex.setCell (HE5.out.trans (Ex.new w5 _) (by omega) (by simp)) _ none _ (.inr hz1)
      | false =>
        go_wp2
        go_meet
        exact ⟨none, 0, 0, [], rfl, HB4, Lib.hid ⟨rfl, by omega, fun x hx => by cases hx⟩, Lib.hid (OwnI.nil _ _), HD4, HE4, hz4⟩
    case rest =>
      clear c0 HB4 HD4 HE4 hz4 HB HD HE hzc HE1
      obtain ⟨go, gn, gc, gone, rfl, HB6, HGO, HOG, HD6, HE6, hz6⟩ := hcut
      obtain ⟨wb, hwb⟩ : ∃ wb, wb = wc := ⟨_, rfl⟩
      subst hwb
      go_wp2_with (first
        | (go_at_call 20
           refine (next_w N p 23 wb HD6.out (by omega) (by omega)).mono ?_
           rintro e w7 ⟨k7, rfl, hk7, hd, hex⟩
           have HD7 := Lib.hid hd
           have HE7 : Hid (Ex w0.heap.size (some p) w0 w7) := Lib.hid (HE6.out.trans hex (by omega) (fun q e _ => by cases e; rfl))
           have HB7 : Hid (w7.heap[w1.heap.size]? = some (.cells #[.int .i64 sz, .slice none 0 0, .slice go gn gc] 64 (0, 0))) := Lib.hid ((hex.block _ (by omega) (by simp; omega)).trans HB6.out)
           have HO7 : Hid (OwnI w7 (w1.heap.size + 1) go gc gone) := Lib.hid (HOG.out.keep hex (Nat.le_refl _) (fun q e => by cases e; omega))
           have hz7 : w1.heap.size + 1 ≤ w7.heap.size := Nat.le_trans hz6 hex.size
           clear hd hex)
        | fail)
      have HG7 : Hid (GrOK sz [] gone) := Lib.hid
        { size := by omega
          len := Nat.zero_le _
          edge := fun e he => absurd he (List.not_mem_nil)
          sorted := fun i a b ha _ => by rw [List.getElem?_nil] at ha; cases ha
          gone := ⟨by rw [HGO.out.1]; exact HGO.out.2.1, HGO.out.2.2⟩ }
      go_loopw [4] (fun n wr => ∃ (m en : Nat) (eo : Option Addr) (ec : Nat) (go : Option Addr) (gc : Nat) (es : List EdD), n = .int .i64 m ∧ en + m ≤ 22 ∧ Hid (wr.heap[w1.heap.size]? = some (.cells #[.int .i64 sz, .slice eo en ec, .slice go gn gc] 64 (0, 0))) ∧ Hid (es.length = en ∧ en ≤ ec) ∧ Hid (GrOK sz es gone) ∧ Hid (OwnE edE 3 105 wr (w1.heap.size + 1) eo ec es) ∧ Hid (OwnI wr (w1.heap.size + 1) go gc gone) ∧ Hid (DiceOK N wr p) ∧ Hid (Ex w0.heap.size (some p) w0 wr) ∧ w1.heap.size + 1 ≤ wr.heap.size) (fun n _ => (intOf n).toNat)
      case atStart => exact ⟨k7, 0, none, 0, go, gc, [], rfl, by omega, HB7, Lib.hid ⟨rfl, Nat.le_refl _⟩, HG7, Lib.hid (OwnE.nil _ _ _ _ _), HO7, HD7, HE7, hz7⟩
      case round =>
        obtain ⟨m, en, eo, ec, go, gc, es, rfl, hem, HBR, HEN, HGR, HOE, HOI, HDR, HER, hzr⟩ := hrel
        by_cases h0 : 0 < m
        · have h0I : (0 : Int) < (m : Int) := by omega
          have h0d : decide (0 < m) = true := decide_eq_true h0
          have HC : Hid (∀ w', Ex wr.heap.size (some p) wr w' → w'.cell? ⟨w1.heap.size, 0, none⟩ = some (.int .i64 sz) ∧ w'.cell? ⟨w1.heap.size, 1, none⟩ = some (.slice eo en ec) ∧ w'.cell? ⟨w1.heap.size, 2, none⟩ = some (.slice go gn gc)) := Lib.hid (fun w' hx => by
            have k := (hx.block _ (by omega) (by simp; omega)).trans HBR.out
            refine ⟨?_, ?_, ?_⟩ <;> (rw [cell_of_row _ _ _ _ _ _ k]; rfl))
          have HXW : Hid (∀ w', Ex wr.heap.size (some p) wr w' → SlAt edRep (fun _ => True) w' eo es ∧ IntsAt w' go gone) := Lib.hid (fun w' hx => by
            refine ⟨?_, (HOI.out.keep hx (Nat.le_refl _) (fun q e => by cases e; omega)).ints⟩
            have h := HOE.out.keep hx (Nat.le_refl _) (fun q e => by cases e; omega)
            rcases h.cases with ⟨_, _, rfl⟩ | ⟨g, rfl, _, _, _⟩
            · exact SlAt.nil _ _ _
            · exact val_sl trivial (by simpa using h.holds edE_len))
          go_upto_region 9 with (fail)
          have HBRc := HBR
          go_cut [5, 6] from 32 to 49 (fun g e wx => ∃ (z : Int) (xo : Option Addr) (xn xc : Nat) (yo : Option Addr) (yn yc : Nat) (E : Int) (bx : Nat), g = .pointer (some ⟨bx, 0, none⟩) ∧ e = .int .i64 E ∧ Hid (wx.heap[bx]? = some (.cells #[.int .i64 z, .slice xo xn xc, .slice yo yn yc] 64 (0, 0))) ∧ Hid (Ex wr.heap.size (some p) wr wx) ∧ Hid (DiceOK N wx p) ∧ Hid (WithKept sz en gn gone es (w1.heap.size + 1) wx z xo xn xc yo yn yc E))
          case first =>
            rename_i J K' hJ hK
            have HJ := Lib.hid hJ
            have HK := Lib.hid hK
            clear hJ hK
            go_region_held3 (fun w' => w'.cell? ⟨w1.heap.size, 0, none⟩ = some (.int .i64 sz) ∧ w'.cell? ⟨w1.heap.size, 1, none⟩ = some (.slice eo en ec) ∧ w'.cell? ⟨w1.heap.size, 2, none⟩ = some (.slice go gn gc))
              (first
                | exact HC.out _ (by (iterate 3 refine Ex.setCell ?_ _ none _ (.inr (by omega))); exact H13.out.alloc (by omega) _)
                | exact HC.out _ (H13.out.alloc (by omega) _)
                | exact HC.out _ H13.out
                | exact HC.out _ (by (iterate 3 refine Ex.setCell ?_ _ none _ (.inr (by omega))); exact H13.out)
                | exact HC.out _ (H12.out.2.alloc (by omega) _)
                | exact HC.out _ H12.out.2
                | exact HC.out _ H11.out.2
                | exact HC.out _ (H10.out.2.alloc (by omega) _)
                | exact HC.out _ (H11.out.2.alloc (by omega) _)
                | exact HC.out _ H10.out.2
                | exact HC.out _ (Ex.refl _ _ wr).drew
                | exact HC.out _ (((Ex.refl _ _ wr).drew).alloc (Nat.le_refl _) _)
                | exact HC.out _ (Ex.refl _ _ wr)
                | fail)
              (first
                | (go_at_call 20
                   (fail_if_success (first | have _x := H10 | fail))
                   refine (next_w N p sz _ (HDR.out.keep (B := N) ((Ex.refl _ _ wr).drew) (Nat.le_refl _)) (by omega) (by omega)).mono ?_
                   rintro e w10 ⟨k10, rfl, hk10, hd, hex⟩
                   have H10 : Hid (DiceOK N w10 p ∧ Ex wr.heap.size (some p) wr w10) := Lib.hid ⟨hd, (((Ex.refl _ _ wr).drew)).trans hex (Nat.le_refl _) (fun q e _ => by cases e; rfl)⟩
                   try (obtain ⟨x1, x2, x3⟩ := HX.out; have HX := Lib.hid (And.intro x1 (And.intro (Nat.lt_of_lt_of_le x2 hex.size) ((hex.block _ x2 (by simp <;> omega)).trans x3))); clear x1 x2 x3)
                   have hz10 : wr.heap.size ≤ w10.heap.size := H10.out.2.size
                   clear hd hex)
                | (go_at_call 20
                   (fail_if_success (first | have _x := H10 | fail))
                   refine (next_w N p sz _ (((HDR.out.keep (B := N) ((Ex.refl _ _ wr).drew) (Nat.le_refl _))).keep (Ex.new _ _) (show N ≤ wr.heap.size from by omega)) (by omega) (by omega)).mono ?_
                   rintro e w10 ⟨k10, rfl, hk10, hd, hex⟩
                   have H10 : Hid (DiceOK N w10 p ∧ Ex wr.heap.size (some p) wr w10) := Lib.hid ⟨hd, ((((Ex.refl _ _ wr).drew)).alloc (Nat.le_refl _) _).trans hex (Nat.le_trans (Nat.le_refl _) (by simp)) (fun q e _ => by cases e; rfl)⟩
                   have HX : Hid (wr.heap.size ≤ wr.heap.size ∧ wr.heap.size < w10.heap.size ∧ w10.heap[wr.heap.size]? = some (.cells #[.int .i64 0, .slice none 0 0, .slice none 0 0] 64 (0, 0))) := Lib.hid (And.intro (Nat.le_refl _) (And.intro (Nat.lt_of_lt_of_le (by simp) hex.size) ((hex.block _ (by simp) (by simp <;> omega)).trans (heap_alloc_new _ _))))
                   have hz10 : wr.heap.size ≤ w10.heap.size := H10.out.2.size
                   clear hd hex)
                | (go_at_call 20
                   (fail_if_success (first | have _x := H11 | fail))
                   have _y := H10
                   refine (next_w N p sz _ H10.out.1 (by omega) (by omega)).mono ?_
                   rintro e w11 ⟨k11, rfl, hk11, hd, hex⟩
                   have H11 : Hid (DiceOK N w11 p ∧ Ex wr.heap.size (some p) wr w11) := Lib.hid ⟨hd, (H10.out.2).trans hex hz10 (fun q e _ => by cases e; rfl)⟩
                   try (obtain ⟨x1, x2, x3⟩ := HX.out; have HX := Lib.hid (And.intro x1 (And.intro (Nat.lt_of_lt_of_le x2 hex.size) ((hex.block _ x2 (by simp <;> omega)).trans x3))); clear x1 x2 x3)
                   have hz11 : wr.heap.size ≤ w11.heap.size := H11.out.2.size
                   clear hd hex)
                | (go_at_call 20
                   (fail_if_success (first | have _x := H11 | fail))
                   have _y := H10
                   refine (next_w N p sz _ ((H10.out.1).keep (Ex.new _ _) (show N ≤ w10.heap.size from by omega)) (by omega) (by omega)).mono ?_
                   rintro e w11 ⟨k11, rfl, hk11, hd, hex⟩
                   have H11 : Hid (DiceOK N w11 p ∧ Ex wr.heap.size (some p) wr w11) := Lib.hid ⟨hd, ((H10.out.2).alloc hz10 _).trans hex (Nat.le_trans hz10 (by simp)) (fun q e _ => by cases e; rfl)⟩
                   have HX : Hid (wr.heap.size ≤ w10.heap.size ∧ w10.heap.size < w11.heap.size ∧ w11.heap[w10.heap.size]? = some (.cells #[.int .i64 0, .slice none 0 0, .slice none 0 0] 64 (0, 0))) := Lib.hid (And.intro hz10 (And.intro (Nat.lt_of_lt_of_le (by simp) hex.size) ((hex.block _ (by simp) (by simp <;> omega)).trans (heap_alloc_new _ _))))
                   have hz11 : wr.heap.size ≤ w11.heap.size := H11.out.2.size
                   clear hd hex)
                | (go_at_call 20
                   (fail_if_success (first | have _x := H12 | fail))
                   have _y := H11
                   refine (next_w N p 3 _ H11.out.1 (by omega) (by omega)).mono ?_
                   rintro e w12 ⟨k12, rfl, hk12, hd, hex⟩
                   have H12 : Hid (DiceOK N w12 p ∧ Ex wr.heap.size (some p) wr w12) := Lib.hid ⟨hd, (H11.out.2).trans hex hz11 (fun q e _ => by cases e; rfl)⟩
                   try (obtain ⟨x1, x2, x3⟩ := HX.out; have HX := Lib.hid (And.intro x1 (And.intro (Nat.lt_of_lt_of_le x2 hex.size) ((hex.block _ x2 (by simp <;> omega)).trans x3))); clear x1 x2 x3)
                   have hz12 : wr.heap.size ≤ w12.heap.size := H12.out.2.size
                   have hw12 : IntKind.i64.wrap (1 + (k12 : Int)) = 1 + (k12 : Int) := IntWalk.i64_in _ (by omega)
                   clear hd hex)
                | (go_at_call 20
                   (fail_if_success (first | have _x := H12 | fail))
                   have _y := H11
                   refine (next_w N p 3 _ ((H11.out.1).keep (Ex.new _ _) (show N ≤ w11.heap.size from by omega)) (by omega) (by omega)).mono ?_
                   rintro e w12 ⟨k12, rfl, hk12, hd, hex⟩
                   have H12 : Hid (DiceOK N w12 p ∧ Ex wr.heap.size (some p) wr w12) := Lib.hid ⟨hd, ((H11.out.2).alloc hz11 _).trans hex (Nat.le_trans hz11 (by simp)) (fun q e _ => by cases e; rfl)⟩
                   have HX : Hid (wr.heap.size ≤ w11.heap.size ∧ w11.heap.size < w12.heap.size ∧ w12.heap[w11.heap.size]? = some (.cells #[.int .i64 0, .slice none 0 0, .slice none 0 0] 64 (0, 0))) := Lib.hid (And.intro hz11 (And.intro (Nat.lt_of_lt_of_le (by simp) hex.size) ((hex.block _ (by simp) (by simp <;> omega)).trans (heap_alloc_new _ _))))
                   have hz12 : wr.heap.size ≤ w12.heap.size := H12.out.2.size
                   have hw12 : IntKind.i64.wrap (1 + (k12 : Int)) = 1 + (k12 : Int) := IntWalk.i64_in _ (by omega)
                   clear hd hex)
                | (go_at_call 75
                   refine (with11_v sz eo en ec go gn gc es gone (k10 : Int) (k11 : Int) (1 + (k12 : Int)) w12 (HXW.out _ H12.out.2).1 HEN.out.1 HEN.out.2 (HXW.out _ H12.out.2).2 HGO.out.1 HGR.out (by omega) (by omega) (by omega) (by omega)).mono ?_
                   rintro e w13 ⟨z, xo, xn, xc, yo, yn, yc, E, rfl, hp, hex⟩
                   have HP := hp
                   have H13 : Hid (Ex wr.heap.size (some p) wr w13) := Lib.hid (H12.out.2.trans hex hz12 (by simp))
                   have HD13 : Hid (DiceOK N w13 p) := Lib.hid (H12.out.1.keep hex (by first | omega | (simp; omega)))
                   have hz13 : wr.heap.size ≤ w13.heap.size := H13.out.size
                   try (obtain ⟨x1, x2, x3⟩ := HX.out; have HXB := Lib.hid x2; have HX := Lib.hid (And.intro x1 (And.intro (Nat.lt_of_lt_of_le x2 hex.size) ((hex.block _ x2 (by simp <;> omega)).trans x3))); clear x1 x2 x3)
                   try (have hx := HX.out.2.2; have hq := q_z hx; clear hx; obtain ⟨q0, q1, q2⟩ := hq)
                   try (have f0 := row_frozen (i := 0) HX.out.2.2)
                   try (have f1 := row_frozen (i := 1) HX.out.2.2)
                   try (have f2 := row_frozen (i := 2) HX.out.2.2)
                   clear hp hex)
                | (go_at_call 75
                   refine (with11_v sz eo en ec go gn gc es gone (k10 : Int) (k11 : Int) (1 + (k12 : Int)) (w12.alloc (.cells #[.int .i64 0, .slice none 0 0, .slice none 0 0] 64)) (HXW.out _ (H12.out.2.alloc hz12 _)).1 HEN.out.1 HEN.out.2 (HXW.out _ (H12.out.2.alloc hz12 _)).2 HGO.out.1 HGR.out (by omega) (by omega) (by omega) (by omega)).mono ?_
                   rintro e w13 ⟨z, xo, xn, xc, yo, yn, yc, E, rfl, hp, hex⟩
                   have HP := hp
                   have H13 : Hid (Ex wr.heap.size (some p) wr w13) := Lib.hid ((H12.out.2.alloc hz12 _).trans hex (Nat.le_trans hz12 (by simp)) (by simp))
                   have HD13 : Hid (DiceOK N w13 p) := Lib.hid ((H12.out.1.keep (Ex.new w12 _) (by omega)).keep hex (by first | omega | (simp; omega)))
                   have hz13 : wr.heap.size ≤ w13.heap.size := H13.out.size
                   have HX : Hid (wr.heap.size ≤ w12.heap.size ∧ w12.heap.size < w13.heap.size ∧ w13.heap[w12.heap.size]? = some (.cells #[.int .i64 0, .slice none 0 0, .slice none 0 0] 64 (0, 0))) := Lib.hid (And.intro hz12 (And.intro (Nat.lt_of_lt_of_le (by simp) hex.size) ((hex.block _ (by simp) (by simp)).trans (heap_alloc_new _ _))))
                   try (have hx := HX.out.2.2; have hq := q_z hx; clear hx; obtain ⟨q0, q1, q2⟩ := hq)
                   try (have f0 := row_frozen (i := 0) HX.out.2.2)
                   try (have f1 := row_frozen (i := 1) HX.out.2.2)
                   try (have f2 := row_frozen (i := 2) HX.out.2.2)
                   clear hp hex)
                | fail)
            -- WAYS
            all_goals (
              refine HK.out _ _ (Met.intro (HJ.out _ _ ?_))
              (repeat apply Exists.intro)
              first
                | exact ⟨⟨z, xo, xn, xc, yo, yn, yc, E, w13.heap.size, rfl, rfl, Lib.hid (heap_alloc_new w13 _), Lib.hid (H13.out.alloc hz13 _), Lib.hid (HD13.out.keep (Ex.new w13 _) (by omega)), Lib.hid (WithKept.of HP.out (Ex.new w13 _) (by simp) (by first | omega | (simp; omega)))⟩, rfl⟩
                | exact ⟨⟨z, xo, xn, xc, yo, yn, yc, E, w12.heap.size, rfl, rfl, Lib.hid (set3_block HX.out.2.2), Lib.hid (set3_ex H13.out (.inr HX.out.1)), Lib.hid (HD13.out.keep (set3_ex (Ex.refl N none w13) (.inr (by omega))) (Nat.le_refl _)), Lib.hid (WithKept.of HP.out (set3_ex (Ex.refl w13.heap.size (some w12.heap.size) w13) (.inl rfl)) (fun q e => by cases e; simp) (by simp; omega))⟩, rfl⟩
                | exact ⟨⟨z, xo, xn, xc, yo, yn, yc, E, w11.heap.size, rfl, rfl, Lib.hid (set3_block HX.out.2.2), Lib.hid (set3_ex H13.out (.inr HX.out.1)), Lib.hid (HD13.out.keep (set3_ex (Ex.refl N none w13) (.inr (by omega))) (Nat.le_refl _)), Lib.hid (WithKept.of HP.out (set3_ex (Ex.refl w13.heap.size (some w11.heap.size) w13) (.inl rfl)) (fun q e => by cases e; exact HXB.out) (by omega))⟩, rfl⟩
                | exact ⟨⟨z, xo, xn, xc, yo, yn, yc, E, w10.heap.size, rfl, rfl, Lib.hid (set3_block HX.out.2.2), Lib.hid (set3_ex H13.out (.inr HX.out.1)), Lib.hid (HD13.out.keep (set3_ex (Ex.refl N none w13) (.inr (by omega))) (Nat.le_refl _)), Lib.hid (WithKept.of HP.out (set3_ex (Ex.refl w13.heap.size (some w10.heap.size) w13) (.inl rfl)) (fun q e => by cases e; exact HXB.out) (by omega))⟩, rfl⟩
                | exact ⟨⟨z, xo, xn, xc, yo, yn, yc, E, wr.heap.size, rfl, rfl, Lib.hid (set3_block HX.out.2.2), Lib.hid (set3_ex H13.out (.inr HX.out.1)), Lib.hid (HD13.out.keep (set3_ex (Ex.refl N none w13) (.inr (by omega))) (Nat.le_refl _)), Lib.hid (WithKept.of HP.out (set3_ex (Ex.refl w13.heap.size (some wr.heap.size) w13) (.inl rfl)) (fun q e => by cases e; exact HXB.out) (by omega))⟩, rfl⟩
                | fail)
          case rest =>
            clear HC HXW
            obtain ⟨z, xo, xn, xc, yo, yn, yc, E, bx, rfl, rfl, HBX, HEf, HDf, HPf⟩ := hcut
            have HBf : Hid (wc.heap[w1.heap.size]? = some (.cells #[.int .i64 sz, .slice eo en ec, .slice go gn gc] 64 (0, 0))) := Lib.hid ((HEf.out.block _ (by omega) (by simp; omega)).trans HBR.out)
            have HOEf := Lib.hid (HOE.out.keep HEf.out (Nat.le_refl _) (fun q e => by cases e; omega))
            have HOIf := Lib.hid (HOI.out.keep HEf.out (Nat.le_refl _) (fun q e => by cases e; omega))
            have HERf : Hid (Ex w0.heap.size (some p) w0 wc) := Lib.hid (HER.out.trans HEf.out (by omega) (fun q e _ => by cases e; rfl))
            have hzf : w1.heap.size + 1 ≤ wc.heap.size := Nat.le_trans hzr HEf.out.size
            obtain ⟨b0, b1, b2⟩ : wc.cell? ⟨bx, 0, none⟩ = some (.int .i64 z) ∧ wc.cell? ⟨bx, 1, none⟩ = some (.slice xo xn xc) ∧ wc.cell? ⟨bx, 2, none⟩ = some (.slice yo yn yc) := by refine ⟨?_, ?_, ?_⟩ <;> (rw [cell_of_row _ _ _ _ _ _ HBX.out]; rfl)
            obtain ⟨i, hi⟩ : ∃ i, i + 1 = m := ⟨m - 1, by omega⟩
            have hw1 : IntKind.i64.wrap ((m : Int) - 1) = (i : Int) := by rw [show (m : Int) - 1 = i by omega]; exact IntWalk.i64_in _ (by omega)
            by_cases hE : E = 0
            · obtain ⟨-, hz, hx, hy, es', h5, h6, h7, h8⟩ := HPf.out.resolve_left (fun h => h hE)
              have HN5 : Hid (es'.length = en + 1 ∧ en + 1 ≤ xc) := Lib.hid ⟨h5, by
                rcases h7.cases with ⟨_, _, h⟩ | ⟨g, h, _, _, h'⟩
                · rw [h] at h5; cases h5
                · omega⟩
              have H6 := Lib.hid h6
              have H7 := Lib.hid h7
              have H8 := Lib.hid h8
              have hz' := hz.symm
              have hy' := hy.symm
              clear h5 h6 h7 h8 hz hy
              subst hz'
              subst hy'
              subst hx
              have hEd : (E == 0) = true := by simp [hE]
              clear hE HPf
              go_wp2_with (first
                | (refine wpList_store_rowTo rfl 64 (.tmp 3) (.tmp 51) rfl rfl w1.heap.size #[.int .i64 sz, .slice xo (en + 1) xc, .slice yo gn yc] (by rfl) (by rfl) 64 _ HBf.out Tryz.sizeGr rfl (by simp [Value.oneCell']) ?_)
                | fail)
              go_roundw
              case rel =>
                exact ⟨i, en + 1, xo, xc, yo, yc, es', rfl, by omega, Lib.hid (setRow_heap _ _ _ _ _ _ HBf.out), HN5, H6,
                  Lib.hid (H7.out.keep (Ex.setRow (Ex.refl wc.heap.size (some w1.heap.size) wc) _ _ (.inl rfl)) (Nat.le_refl _) (fun q e => by cases e; omega)),
                  Lib.hid (H8.out.keep (Ex.setRow (Ex.refl wc.heap.size (some w1.heap.size) wc) _ _ (.inl rfl)) (Nat.le_refl _) (fun q e => by cases e; omega)),
                  Lib.hid (HDf.out.keep (Ex.setRow (Ex.refl N none wc) _ _ (.inr (by omega))) (Nat.le_refl _)),
                  Lib.hid (Ex.setRow HERf.out _ _ (.inr hz1)), Nat.le_trans hzf (Ex.setRow (Ex.refl N none wc) _ _ (.inr (by omega))).size⟩
              case measure => simp [intOf] <;> omega
            · have hEd : (E == 0) = false := by simp [hE]
              clear hE HPf
              go_wp2
              go_roundw
              case rel => exact ⟨i, en, eo, ec, go, gc, es, rfl, by omega, HBf, HEN, HGR, HOEf, HOIf, HDf, HERf, hzf⟩
              case measure => simp [intOf] <;> omega
        · have h0I : ¬ (0 : Int) < (m : Int) := by omega
          have h0d : decide (0 < m) = false := decide_eq_false h0
          have HB0r : Hid (wr.heap[w.heap.size]? = some (.cells #[.int .i64 0, .slice none 0 0, .slice none 0 0] 64 (0, 0))) := Lib.hid ((HER.out.block _ (by omega) (by simp; omega)).trans HB0.out)
          have c0 : wr.cell? ⟨w1.heap.size, 0, none⟩ = some (.int .i64 sz) := by rw [cell_of_row _ _ _ _ _ _ HBR.out]; rfl
          have c1 : wr.cell? ⟨w1.heap.size, 1, none⟩ = some (.slice eo en ec) := by rw [cell_of_row _ _ _ _ _ _ HBR.out]; rfl
          have c2 : wr.cell? ⟨w1.heap.size, 2, none⟩ = some (.slice go gn gc) := by rw [cell_of_row _ _ _ _ _ _ HBR.out]; rfl
          go_wp2_with (refine wpList_store_rowTo rfl 64 (.tmp 2) (.tmp 52) rfl rfl w.heap.size #[.int .i64 sz, .slice eo en ec, .slice go gn gc] (by rfl) (by rfl) 64 _ HB0r.out Tryz.sizeGr rfl (by simp [Value.oneCell']) ?_)
          refine bodyPost_ret (v := .agg #[.int .i64 sz, .slice eo en ec, .slice go gn gc]) (results_cell_row rfl _ _ w.heap.size 64 _ _ _ (by rfl) (setRow_heap _ _ _ _ _ _ HB0r.out) Tryz.underlying64 rfl Tryz.sizeGr) rfl ?_
          exact ⟨sz, eo, en, ec, go, gn, gc, rfl, hsz, es, ⟨HEN.out.1, by omega⟩, gone, HGO.out.1, HGR.out,
            (HOE.out.keep (Ex.setRow (Ex.refl wr.heap.size (some w.heap.size) wr) _ _ (.inl rfl)) (Nat.le_refl _) (fun q e => by cases e; omega)).lowerE (by omega),
            ((HOI.out.keep (Ex.setRow (Ex.refl wr.heap.size (some w.heap.size) wr) _ _ (.inl rfl)) (Nat.le_refl _) (fun q e => by cases e; omega)).e.lowerE (by omega)).i,
            HDR.out.keep (Ex.setRow (Ex.refl N none wr) _ _ (.inr hN)) (Nat.le_refl _),
            Ex.setRow ((HE0.out.weaken (some p)).trans HER.out (by omega) (fun q e _ => by cases e; rfl)) _ _ (.inr (Nat.le_refl _))⟩
end Go.Proofs.YtfllcohnfboccaaGreat
