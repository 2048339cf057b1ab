/- MourningMind: the walk. No statement of the seat. -/
import Derived.Test.YtfllcohnfboccaaMillStG
import Derived.Test.YtfllcohnfboccaaVoicesWG
import Derived.Test.YtfllcohnfboccaaMg00
import Derived.Test.YtfllcohnfboccaaMg18
import Derived.Test.YtfllcohnfboccaaMg05
import Derived.Test.YtfllcohnfboccaaDiceWG
import Derived.Test.YtfllcohnfboccaaMg01
import Derived.Test.YtfllcohnfboccaaMg04
namespace Go.Proofs.Ytfllcohnfboccaa
open Go.RowKit Go.Maps Go.Sort

theorem made6 : (madeCells (Value.int .i64 0).cells (6 * 1)).toList = flatL iE (List.replicate 6 0) := by
  rw [show (Value.int .i64 0).cells = #[.int .i64 0] from rfl, toList_madeCells_one]; rfl
theorem int_cell {w : World} {g : Nat} {d : Array Int} (h : HoldsK iE 1 w g 0 d) (i : Nat) (hi : i < d.size) : w.cell? ⟨g, i, none⟩ = some (.int .i64 (d.toList.getD i 0)) ∧ w.frozen? ⟨g, i, none⟩ = false := by
  have := h.cell hi (show 0 < 1 by decide)
  simp only [Nat.zero_add, Nat.mul_one, Nat.add_zero] at this
  rw [this.1, getElem!_pos d i hi]
  refine ⟨?_, this.2⟩
  simp [iE, List.getD, hi]
theorem int_set {w : World} {g : Nat} {d : Array Int} (h : HoldsK iE 1 w g 0 d) (i : Nat) (hi : i < d.size) (x : Int) : HoldsK iE 1 (w.setCell ⟨g, i, none⟩ (.int .i64 x)) g 0 (d.setIfInBounds i x) := by
  have := holdsK_set iE_len h i x hi
  simpa [iE, World.setCells] using this
theorem OwnE.cellI {e : TypeId} {w : World} {base : Nat} {ro : Option Addr} {rc : Nat} {xs : List Int} (h : OwnE iE 1 e w base ro rc xs) (j : Nat) (hj : j < xs.length) : ∃ g x, ro = some ⟨g, 0, none⟩ ∧ w.cell? ⟨g, j, none⟩ = some (.int .i64 x) ∧ Hid (xs[j]? = some x) := by
  rcases h.cases with ⟨_, _, h0⟩ | ⟨g, rfl, _, _, _⟩
  · subst h0; simp at hj
  · refine ⟨g, xs[j], rfl, ?_, Lib.hid (by simp [hj])⟩
    have := (int_cell (h.holds iE_len) j (by simpa using hj)).1
    rw [this]
    simp [List.getD, hj]
theorem setCell_other (w : World) (g o b : Nat) (u : Value) (h : b ≠ g) : (w.setCell ⟨g, o, none⟩ u).heap[b]? = w.heap[b]? := Below.heap_setCell _ _ _ _ h
/-- Slices that the call owns stay where their blocks are not turned. -/
theorem OwnE.same {α : Type} {enc : α → List Value} {k : Nat} {e : TypeId} {w w' : World} {base : Nat} {ao : Option Addr} {cap : Nat} {xs : List α} (h : OwnE enc k e w base ao cap xs) (hb : ∀ b, base ≤ b → w'.heap[b]? = w.heap[b]?) : OwnE enc k e w' base ao cap xs := by
  obtain ⟨h1, h2⟩ := h
  refine ⟨h1, ?_⟩
  rcases h2 with h2 | ⟨g, c, cur, hv, hg, hh, r⟩
  · exact .inl h2
  · exact .inr ⟨g, c, cur, hv, hg, (hb g hg).trans hh, r⟩
theorem OwnS.same {w w' : World} {base : Nat} {ao : Option Addr} {cap : Nat} {l : List St} (h : OwnS w base ao cap l) (hb : ∀ b, base ≤ b → w'.heap[b]? = w.heap[b]?) : OwnS w' base ao cap l := by
  obtain ⟨xs, e, h1, h2⟩ := h
  exact ⟨xs, e, h1.same hb, fun x hx => (h2 x hx).keep fun b h _ => hb b h.1⟩

set_option maxHeartbeats 16000000 in
set_option maxRecDepth 100000 in
theorem mourningMind_walk (v : Value) (L : List Int) (w : World) (hv : Ints w v L) (hm0 : L.length ≤ 9223372036854775807) :
    Calls Try.prog 3 #[v] w fun e w' => e = .returned (.bool true) ∧ Below w.heap.size w w' := by
  obtain ⟨ao, cap, rfl, hx⟩ := hv
  have HX := Lib.hid hx
  clear hx
  by_cases hm : L.length ≤ 400
  · have hmI : (L.length : Int) ≤ 400 := by omega
    obtain ⟨i0, hi, hz0', hz1', hz2'⟩ := info_parts Try.infoInt
    go_enter Try.func3, Try.ntmps3
    go_wp2_with (first
      | (go_at_call 8; refine (light_any _ _ _ _).mono ?_; rintro e w' ⟨rfl, rfl⟩)
      | (go_at_call 10
         refine (roll_any (.slice ao L.length cap) L w ⟨ao, cap, rfl, HX.out⟩ (by omega)).mono ?_
         rintro e w1 ⟨p, rfl, hd, hp1, hp2, hex⟩
         have HD1 : Hid (DiceOK (p + 1) w1 p ∧ Ex w.heap.size none w w1) := Lib.hid ⟨⟨_, hd⟩, hex⟩
         have hz1 : w.heap.size ≤ w1.heap.size := hex.size
         clear hd hex)
      | (at_make
         refine wpList_make_full _ rfl (.const (.int .i64 6)) (.const (.int .i64 6)) _ rfl w1.heap.size 3 i0 _ 1 Try.underlying22 hi hz0' hz1' .i64 .i64 _ _ 6 rfl rfl rfl rfl (by rw [hz2']; omega) (by unfold maxLen; omega) (Nat.le_refl _) ?_
         intro w2 hown2 hgr2
         have HL2 : Hid (HoldsK iE 1 w2 w1.heap.size 0 (lastsL (votes [])).toArray) := Lib.hid (by
           rw [made6] at hown2
           rw [show lastsL (votes []) = List.replicate 6 0 from rfl]
           exact own_holdsK iE_len hown2)
         have hg2 : w1.heap.size < w2.heap.size := (own_there hown2).2.2.1
         have HE2 : Hid (Ex w1.heap.size none w1 w2) := Lib.hid ((Ex.refl _ _ w1).grown hgr2 (Nat.le_refl _) (by simp))
         have HD2 : Hid (DiceOK (p + 1) w2 p ∧ Ex w.heap.size none w w2) := Lib.hid ⟨HD1.out.1.keep HE2.out hp2, HD1.out.2.trans HE2.out hz1 (by simp)⟩
         clear hown2 hgr2)
      | fail)
    go_loopw [4, 6, 7, 8, 9, 10] (fun v i _ _ _ _ wr => ∃ (k : Nat) (ro : Option Addr) (rc : Nat) (l : List St), i = .int .i64 k ∧ k ≤ 12 ∧ v = .slice ro k rc ∧ Hid (l.length = k) ∧ Hid (OwnS wr w2.heap.size ro rc l) ∧ Hid (∀ s ∈ l, LossOK s ∧ sealedB s = true ∧ Tame s ∧ s.a = 6) ∧ Hid (∀ p ∈ votes l, (0 ≤ p.1 ∧ p.1 < 6) ∧ 7 ≤ p.2 ∧ p.2 < 10) ∧ Hid (HoldsK iE 1 wr w1.heap.size 0 (lastsL (votes l)).toArray) ∧ Hid (DiceOK (p + 1) wr p) ∧ w2.heap.size ≤ wr.heap.size ∧ Ex w.heap.size none w wr) (fun _ i _ _ _ _ _ => 12 - (intOf i).toNat)
    case atStart => exact ⟨0, none, 0, [], rfl, by omega, rfl, Lib.hid rfl, Lib.hid (OwnS.nil _ _), Lib.hid (fun _ h => by cases h), Lib.hid (fun _ h => by cases h), HL2, Lib.hid HD2.out.1, Nat.le_refl _, HD2.out.2⟩
    case round =>
      clear HL2 HD2 HE2 HD1 hi hz0' hz1' hz2'
      obtain ⟨k, ro, rc, l, rfl, hk, rfl, HN, HO, HOK, HV, HL, HD, hzr, hex⟩ := hrel
      have hsz := hex.size
      have HEX := Lib.hid hex
      clear hex
      by_cases hlt : k < 12
      · have hltI : (k : Int) < 12 := by omega
        go_upto_region 10 with (first
          | (go_at_call 11
             (fail_if_success (first | have _x := HD3 | fail))
             refine (next_w (p + 1) p 6 _ HD.out (by omega) (by omega)).mono ?_
             rintro e w3 ⟨k1, rfl, hk1, hd, hex⟩
             have HD3 : Hid (DiceOK (p + 1) w3 p ∧ Ex wr.heap.size (some p) wr w3) := Lib.hid ⟨hd, hex⟩
             have hz3 : wr.heap.size ≤ w3.heap.size := hex.size
             clear hd hex)
          | (go_at_call 11
             refine (next_w (p + 1) p 3 _ HD3.out.1 (by omega) (by omega)).mono ?_
             rintro e w4 ⟨k2, rfl, hk2, hd, hex⟩
             have HD4 : Hid (DiceOK (p + 1) w4 p ∧ Ex wr.heap.size (some p) wr w4) := Lib.hid ⟨hd, HD3.out.2.trans hex hz3 (fun q e _ => by cases e; rfl)⟩
             have hz4 : wr.heap.size ≤ w4.heap.size := HD4.out.2.size
             have hw7 : IntKind.i64.wrap (7 + (k2 : Int)) = 7 + (k2 : Int) := IntWalk.i64_in _ (by omega)
             clear hd hex)
          | fail)
        go_upto_region 13 with (first
          | (go_at_call 12
             refine (draftLoss_any 6 (7 + (k2 : Int)) _ (by omega) (by omega) (by omega)).mono ?_
             rintro e w5 ⟨rfl, hex⟩
             have HE5 := Lib.hid hex
             have hz5 : w4.heap.size ≤ w5.heap.size := hex.size
             clear hex)
          | fail)
        obtain ⟨w6, hw6⟩ : ∃ w6 : World, w6 = w5.alloc (.cells #[.int .i64 13, .int .i64 6, .int .i64 (7 + (k2 : Int)), .int .i64 0, .slice none 0 0, .slice none 0 0] 31) := ⟨_, rfl⟩
        have hz6 : w6.heap.size = w5.heap.size + 1 := by rw [hw6]; simp
        have HE6 : Hid (Ex w4.heap.size none w4 w6) := Lib.hid (by rw [hw6]; exact HE5.out.alloc hz5 _)
        have HB6 : Hid (w6.heap[w5.heap.size]? = some (.cells #[.int .i64 13, .int .i64 6, .int .i64 (7 + (k2 : Int)), .int .i64 0, .slice none 0 0, .slice none 0 0] 31 (0, 0))) := Lib.hid (by rw [hw6]; exact heap_alloc_new _ _)
        obtain ⟨d0, d1, d2, d3, d4, d5⟩ : w6.cell? ⟨w5.heap.size, 0, none⟩ = some (.int .i64 13) ∧ w6.cell? ⟨w5.heap.size, 1, none⟩ = some (.int .i64 6) ∧ w6.cell? ⟨w5.heap.size, 2, none⟩ = some (.int .i64 (7 + (k2 : Int))) ∧ w6.cell? ⟨w5.heap.size, 3, none⟩ = some (.int .i64 0) ∧ w6.cell? ⟨w5.heap.size, 4, none⟩ = some (.slice none 0 0) ∧ w6.cell? ⟨w5.heap.size, 5, none⟩ = some (.slice none 0 0) := by
          refine ⟨?_, ?_, ?_, ?_, ?_, ?_⟩ <;> (rw [cell_of_row _ _ _ _ _ _ HB6.out]; rfl)
        rw [← hw6]
        clear hw6
        go_upto_region 14 with (first
          | (go_at_call 13
             refine (millLoss_any (k1 : Int) (k : Int) 0 6 (7 + (k2 : Int)) _ (by omega) (by omega) (by omega) (by omega) (by omega) (by omega)).mono ?_
             rintro e w7 ⟨s, la, na, ca, pa, np, cp, rfl, hs, hl, hex⟩
             have HS := Lib.hid hs
             have HLS := Lib.hid hl
             have HE7 : Hid (Ex w4.heap.size none w4 w7) := Lib.hid (HE6.out.trans hex (by omega) (by simp))
             have hz7 : w6.heap.size ≤ w7.heap.size := hex.size
             have HER : Hid (Ex wr.heap.size (some p) wr w7) := Lib.hid (HD4.out.2.trans HE7.out hz4 (by simp))
             have HO7 : Hid (OwnS w7 w2.heap.size ro rc l) := Lib.hid (HO.out.keepP HER.out (Nat.le_refl _) (fun q e => by cases e; omega))
             clear hs hl hex d0 d1 d2 d3 d4 d5)
          | (at_builtin
             refine wpList_appT rfl (.tmp 41) (.tmp 46) _ (by rfl) Try.underlying27 Try.infoSt w2.heap.size w2.heap.size ro rc k l HN.out (by rfl) (some ⟨w7.heap.size, 0, none⟩) 1 1 (by rfl) [(s, ⟨la, na, ca⟩, ⟨pa, np, cp⟩)] rfl (HO7.out.t.keep (Ex.new w7 _) (Nat.le_refl _)) (lit_cells rfl) (fun y hy => by rw [List.mem_singleton.1 hy]; exact (HLS.out.keep fun b _ hb => (Ex.new w7 _).block b hb (by simp)).mono fun b h _ => ⟨by omega, fun e => by have := HO.out.t.row b e; omega⟩) (by omega) (by simp; omega) (k + 1) (by omega) ?_
             intro ao3 cap3 wd hod hed hbd hrd
             have HDd : Hid (OwnS wd w2.heap.size ao3 cap3 (l ++ [s]) ∧ Ex w2.heap.size none w7 wd) := Lib.hid ⟨hod, ((Ex.new w7 _).mono (by omega)).trans hed (Nat.le_refl _) (by simp)⟩
             have hzd : w7.heap.size ≤ wd.heap.size := HDd.out.2.size
             have HLd : Hid (HoldsK iE 1 wd w1.heap.size 0 (lastsL (votes l)).toArray) := Lib.hid (holdsK_ex HL.out ((HDd.out.2.block _ hg2 (by simp)).trans (HER.out.block _ (by omega) (by simp; omega))))
             obtain ⟨cx, fx⟩ := int_cell HLd.out k1 (by rw [List.size_toArray, lastsL_len]; omega)
             clear hod hed hbd hrd)
          | fail)
        have hk1I : (k1 : Int) < 6 := by omega
        go_wp2_with (fail)
        go_roundw
        case measure => simp [intOf] <;> omega
        case rel =>
          have hvs : votes (l ++ [s]) = votes l ++ [((k1 : Int), 7 + (k2 : Int))] := by
            unfold votes
            rw [List.map_append, List.map_singleton, HS.out.2.2.2.2.1, HS.out.2.2.2.2.2]
          refine ⟨k + 1, ao3, cap3, l ++ [s], by go_num, by omega, rfl, Lib.hid (by rw [List.length_append, HN.out]; rfl), Lib.hid (HDd.out.1.same fun b hb => setCell_other _ _ _ _ _ (by omega)), Lib.hid ?_, Lib.hid ?_, Lib.hid ?_, Lib.hid ?_, by simp; omega, ?_⟩
          · intro t ht
            rcases List.mem_append.1 ht with ht | ht
            · exact HOK.out t ht
            · rw [List.mem_singleton.1 ht]; exact ⟨HS.out.1, HS.out.2.1, HS.out.2.2.1, HS.out.2.2.2.1⟩
          · intro t ht
            rw [hvs] at ht
            rcases List.mem_append.1 ht with ht | ht
            · exact HV.out t ht
            · rw [List.mem_singleton.1 ht]; exact ⟨⟨by show (0 : Int) ≤ (k1 : Int); omega, by show (k1 : Int) < 6; omega⟩, by show (7 : Int) ≤ 7 + (k2 : Int); omega, by show 7 + (k2 : Int) < 10; omega⟩
          · rw [hvs, lastsL_snoc _ _ _ (by omega)]
            have h := int_set HLd.out k1 (by rw [List.size_toArray, lastsL_len]; omega) (7 + (k2 : Int))
            rw [List.setIfInBounds_toArray] at h
            exact h
          · exact ((HD4.out.1.keep HE7.out (by omega)).keep HDd.out.2 (by omega)).keep (B := w1.heap.size) (Ex.setCell (Ex.refl _ _ _) _ none _ (.inr (Nat.le_refl _))) hp2
          · exact Ex.setCell (((HEX.out.trans ((HER.out.mono hsz).above hp1) (Nat.le_refl _) (by simp))).trans (HDd.out.2.mono (show w.heap.size ≤ w2.heap.size by omega)) (Nat.le_refl _) (by simp)) _ none _ (.inr hz1)
      · have hltI : ¬ (k : Int) < 12 := by omega
        obtain ⟨wo, hwo⟩ : ∃ wo, wo = wr := ⟨_, rfl⟩
        subst hwo
        have HSL : Hid (∀ w', Ex wo.heap.size none wo w' → Sl stRep (fun b => w2.heap.size ≤ b) w' (.slice ro k rc) l) := Lib.hid (fun w' h' => by
          have h := (HO.out.keep h' (Nat.le_refl _)).sl
          rw [HN.out] at h
          exact h)
        have HC : Hid (∀ w', Ex wo.heap.size none wo w' → ∀ j : Nat, j < 6 → w'.cell? ⟨w1.heap.size, j, none⟩ = some (.int .i64 ((lastOf (votes l) (j : Int)).getD 0))) := Lib.hid (fun w' h' j hj => by
          have h := (int_cell (holdsK_ex HL.out (h'.block _ (by omega) (by simp))) j (by rw [List.size_toArray, lastsL_len]; omega)).1
          rw [List.toList_toArray, lastsL_get _ _ hj] at h
          exact h)
        have hkl : Hid (l.length ≤ 10000) := Lib.hid (by have := HN.out; omega)
        clear HO HL HD hlt
        go_wp2
        go_loopw [11, 12, 13, 14] (fun t m _ _ wr => ∃ (tn mn : Nat), t = .int .i64 tn ∧ m = .int .i64 mn ∧ mn ≤ 12 ∧ tn ≤ 64 * mn ∧ Hid (tn = voicesTo (votes l) mn) ∧ Ex wo.heap.size none wo wr) (fun _ m _ _ _ => 12 - (intOf m).toNat)
        case atStart => exact ⟨0, 0, rfl, rfl, by omega, by omega, Lib.hid rfl, Ex.refl _ _ _⟩
        case round =>
          obtain ⟨tn, mn, rfl, rfl, hmn, htn, HT, hexm⟩ := hrel
          have hszm := hexm.size
          obtain ⟨wm, hwm⟩ : ∃ wm, wm = wr := ⟨_, rfl⟩
          subst hwm
          by_cases hmlt : mn < 12
          · have hmI : (mn : Int) < 12 := by omega
            go_wp2_with (first
              | (go_at_call 14
                 refine (voicesW_any (.slice ro k rc) l 6 (mn : Int) wm (HSL.out wm hexm) hkl.out (by omega) HOK.out).mono ?_
                 rintro e w3 ⟨rv, cv, nv, rfl, hnv, hown, hex3⟩
                 have HNV := Lib.hid hnv
                 have HOV := Lib.hid hown
                 have HE3 : Hid (Ex wo.heap.size none wo w3) := Lib.hid (hexm.trans hex3 hszm (by simp))
                 have hz3 : wo.heap.size ≤ w3.heap.size := HE3.out.size
                 have hnv64 : nv ≤ 64 := by rw [← hnv]; exact voicesL_len _ _ _
                 clear hnv hown hex3)
              | fail)
            go_loopw [14] (fun i wi => ∃ j : Nat, j ≤ nv ∧ i = .int .i64 j ∧ Ex w3.heap.size none w3 wi) (fun i _ => nv - (intOf i).toNat)
            case atStart => exact ⟨0, by omega, rfl, Ex.refl _ _ _⟩
            case round =>
              obtain ⟨j, hj, rfl, hexi⟩ := hrel
              have hszi := hexi.size
              by_cases hjn : j < nv
              · have hjI : (j : Int) < (nv : Int) := by omega
                obtain ⟨gv, x, rfl, hcx, HXV⟩ := OwnE.cellI (HOV.out.keep hexi (Nat.le_refl _) (by simp)) j (by rw [HNV.out]; exact hjn)
                obtain ⟨hlx, hx0, hx64⟩ := voicesL_mem HXV.out
                have hx6 := (HV.out _ (lastOf_mem hlx)).1.2
                simp only at hx6
                obtain ⟨xn, rfl⟩ : ∃ xn : Nat, x = xn := ⟨x.toNat, by omega⟩
                have hc2 := HC.out wr (HE3.out.trans hexi hz3 (by simp)) xn (by omega)
                rw [hlx, Option.getD_some] at hc2
                have hd0 : decide ((xn : Int) < 0) = false := decide_eq_false (by omega)
                have hd6 : decide ((6 : Int) ≤ (xn : Int)) = false := decide_eq_false (by omega)
                clear hlx HXV hx64
                go_wp2_with (fail)
                go_roundw
                case rel => exact ⟨j + 1, by omega, by go_num, hexi⟩
                case measure => simp [intOf] <;> omega
              · have hjI : ¬ (j : Int) < (nv : Int) := by omega
                go_wp2
                go_roundw
                case rel => exact ⟨tn + nv, mn + 1, by go_num, by go_num, by omega, by omega, Lib.hid (by rw [voicesTo, ← HT.out, HNV.out]), HE3.out.trans hexi hz3 (by simp)⟩
                case measure => simp [intOf] <;> omega
          · have hmI : ¬ (mn : Int) < 12 := by omega
            have hm12 : mn = 12 := by omega
            have HT12 : Hid (tn = voicesTo (votes l) 12) := Lib.hid (by rw [← hm12]; exact HT.out)
            clear hm12 HT hmlt
            go_wp2
            go_loopw [15, 16] (fun q i wr => ∃ (qn j : Nat), q = .int .i64 qn ∧ i = .int .i64 j ∧ j ≤ 6 ∧ qn ≤ j ∧ Hid (qn = spokenTo (votes l) j) ∧ Ex wm.heap.size none wm wr) (fun _ i _ => 6 - (intOf i).toNat)
            case atStart => exact ⟨0, 0, rfl, rfl, by omega, by omega, Lib.hid rfl, Ex.refl _ _ _⟩
            case round =>
              obtain ⟨qn, j, rfl, rfl, hj, hqj, HQ, hexi⟩ := hrel
              have hszi := hexi.size
              have HEI := Lib.hid hexi
              clear hexi
              by_cases hj6 : j < 6
              · have hjI : (j : Int) < 6 := by omega
                have hcj := HC.out wr (hexm.trans HEI.out hszm (by simp)) j hj6
                obtain ⟨y, hy⟩ : ∃ y, y = (lastOf (votes l) (j : Int)).getD 0 := ⟨_, rfl⟩
                have HY := Lib.hid hy
                rw [← hy] at hcj
                clear hy
                by_cases hy0 : 0 < y
                · have hyd : decide (0 < y) = true := decide_eq_true hy0
                  have HQ2 : Hid (qn + 1 = spokenTo (votes l) (j + 1)) := Lib.hid (by rw [spokenTo, ← HQ.out, ← HY.out, if_pos hy0])
                  clear hy0
                  go_wp2
                  go_roundw
                  case rel => exact ⟨qn + 1, j + 1, by go_num, by go_num, by omega, by omega, HQ2, HEI.out⟩
                  case measure => simp [intOf] <;> omega
                · have hyd : decide (0 < y) = false := decide_eq_false hy0
                  have HQ2 : Hid (qn = spokenTo (votes l) (j + 1)) := Lib.hid (by rw [spokenTo, ← HQ.out, ← HY.out, if_neg hy0]; rfl)
                  clear hy0
                  go_wp2
                  go_roundw
                  case rel => exact ⟨qn, j + 1, by go_num, by go_num, by omega, by omega, HQ2, HEI.out⟩
                  case measure => simp [intOf] <;> omega
              · have hjI : ¬ (j : Int) < 6 := by omega
                have hj66 : j = 6 := by omega
                have hqt : tn = qn := by rw [HT12.out, HQ.out, hj66]; exact mind_sum HV.out
                have hqd : ((tn : Int) == (qn : Int)) = true := by rw [hqt]; simp
                have hqd2 : (tn == qn) = true := by rw [hqt]; simp
                clear hj66 hqt
                go_wp2_with (first
                  | (go_at_call 9; refine (awake35_any _).mono ?_; rintro e w8 ⟨rfl, hex8⟩)
                  | fail)
                go_ret
                exact ⟨rfl, (((HEX.out.trans hexm hsz (by simp)).trans HEI.out (by omega) (by simp)).trans hex8 (by omega) (by simp)).below⟩
  · have hmI : ¬ (L.length : Int) ≤ 400 := by omega
    have hmd : decide ((L.length : Int) ≤ 400) = false := decide_eq_false hmI
    clear hmI
    go_enter Try.func3, Try.ntmps3
    go_wp2_with (first
      | (go_at_call 8; refine (light_any _ _ _ _).mono ?_; rintro e w' ⟨rfl, rfl⟩)
      | (go_at_call 9; refine (awake35_any _).mono ?_; rintro e w1 ⟨rfl, hex⟩))
    go_ret
    exact ⟨rfl, hex.below⟩
end Go.Proofs.Ytfllcohnfboccaa
