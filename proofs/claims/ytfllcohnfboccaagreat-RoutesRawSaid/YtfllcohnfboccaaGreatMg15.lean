/- routes: Meet. No statement of the seat. | routes: Back. No statement of the seat. | Tables of neighbours of graphs with few keys, plain; the example of the sanity check. No statement of the seat. | The sanity check of the routes' statements. No statement of the seat. | Routes over tables, plain: what the loops of the statements keep. No statement of the seat. -/
import Derived.Test.YtfllcohnfboccaaGreatMg14
import Derived.Test.YtfllcohnfboccaaGreatMg01
import Derived.Deep.RegionHeld3
import Derived.BigQuiet
namespace Go.Proofs.YtfllcohnfboccaaGreat
open Go.RowKit Go.Sort Go.Maps

theorem bytes_len (n : Int) (h : 0 ≤ n ∧ n < 64) : (Lit.keyBytes (.int .i64 n)).length = 8 := by
  obtain ⟨m, rfl⟩ : ∃ m : Nat, n = m := ⟨n.toNat, by omega⟩
  have hm : m < 64 := by omega
  clear h
  revert hm
  revert m
  decide
theorem keyL_inj2 {p q : Int × Int} (hp : (0 ≤ p.1 ∧ p.1 < 64) ∧ 0 ≤ p.2 ∧ p.2 < 64) (hq : (0 ≤ q.1 ∧ q.1 < 64) ∧ 0 ≤ q.2 ∧ q.2 < 64) (h : keyL p.1 p.2 = keyL q.1 q.2) : p = q := by
  unfold keyL keyBytes at h
  simp only [Lit.string.injEq, List.flatMap_cons, List.flatMap_nil, List.append_nil] at h
  obtain ⟨h1, h2⟩ := List.append_inj h (by rw [bytes_len _ hp.1, bytes_len _ hq.1])
  have a1 := bytes_low p.1 hp.1
  have a2 := bytes_low q.1 hq.1
  have b1 := bytes_low p.2 hp.2
  have b2 := bytes_low q.2 hq.2
  rw [h1] at a1
  rw [h2] at b1
  have c1 := congrArg UInt8.toNat (a1.symm.trans a2)
  have c2 := congrArg UInt8.toNat (b1.symm.trans b2)
  simp only [UInt8.toNat_ofNat'] at c1 c2
  exact Prod.ext (by omega) (by omega)
/-- The steps that have been laid in a map. -/
def endD (l : List (Int × Int)) : DataW Value := l.foldl (fun D p => D.put (keyL p.1 p.2) (.held (.bool true))) (.map [])
theorem endD_snoc (l : List (Int × Int)) (p : Int × Int) : endD (l ++ [p]) = (endD l).put (keyL p.1 p.2) (.held (.bool true)) := by
  unfold endD; rw [List.foldl_append]; rfl
theorem endD_isMap (l : List (Int × Int)) : IsMap (endD l) := by
  induction l using snoc_ind with
  | nil => exact isMap_empty
  | snoc l p ih => rw [endD_snoc]; exact ih.put _ _
theorem endD_at {l : List (Int × Int)} {q : Int × Int} (hl : ∀ p ∈ l, (0 ≤ p.1 ∧ p.1 < 64) ∧ 0 ≤ p.2 ∧ p.2 < 64) (hq : (0 ≤ q.1 ∧ q.1 < 64) ∧ 0 ≤ q.2 ∧ q.2 < 64) : (endD l).atKey (keyL q.1 q.2) (.held (.bool false)) = .held (.bool (decide (q ∈ l))) := by
  induction l using snoc_ind with
  | nil => simp [endD]; rfl
  | snoc l p ih =>
    have ih := ih fun r hr => hl r (by simp [hr])
    rw [endD_snoc]
    by_cases h : q = p
    · subst h
      rw [atKey_put_same (endD_isMap l) (keyL_isKey _ _)]
      simp
    · rw [atKey_put_other (fun e => h (keyL_inj2 hq (hl p (by simp)) e)), ih]
      simp [h]
/-- The last steps of routes. -/
def endsL (T : Int → List Int) (key : Int) (m : Nat) (l : List Int) : List (Int × Int) := l.map fun x => prI T (key, x) m
theorem ends_up {T : Int → List Int} {key : Int} {m : Nat} {l : List Int} {k : Nat} {r : List Int} (h : (routesL T key m l)[k]? = some r) : ∃ p, endsL T key m (l.take (k + 1)) = endsL T key m (l.take k) ++ [p] ∧ r.length = m + 2 ∧ r.getD m 0 = p.1 ∧ r.getD (m + 1) 0 = p.2 ∧ p ∈ endsL T key m l ∧ ∃ x, x ∈ l ∧ p = prI T (key, x) m ∧ l[k]? = some x := by
  obtain ⟨hk, e⟩ := List.getElem?_eq_some_iff.1 h
  have hk' : k < l.length := by simpa [routesL] using hk
  have e2 : l.take (k + 1) = l.take k ++ [l[k]] := by rw [List.take_add_one]; simp [hk']
  have e3 : r = rtI T (key, l[k]) m := by rw [← e]; simp [routesL]
  refine ⟨prI T (key, l[k]) m, ?_, by rw [e3, rtI_len], by rw [e3, rtI_fst T _ (Nat.le_refl m)], by rw [e3, rtI_snd T _ (Nat.le_refl m)], ?_, l[k], List.getElem_mem _, rfl, by simp [hk']⟩
  · unfold endsL; rw [e2, List.map_append]; rfl
  · unfold endsL; exact List.mem_map.2 ⟨_, List.getElem_mem _, rfl⟩
def meetL (T : Int → List Int) (a : Int) (m : Nat) (E : List (Int × Int)) (l : List Int) : Nat := l.countP fun x => decide (prI T (a, x) m ∈ E)
theorem meetL_up {T : Int → List Int} {a : Int} {m : Nat} {E : List (Int × Int)} {l : List Int} {k : Nat} {x : Int} (h : l[k]? = some x) : meetL T a m E (l.take (k + 1)) = meetL T a m E (l.take k) + if decide (prI T (a, x) m ∈ E) = true then 1 else 0 := by
  unfold meetL
  rw [List.take_add_one, h, List.countP_append]
  congr 1
  simp [List.countP_cons]
def meetV (salt : ByteArray) (es : List EdD) (a b n : Int) : Nat := if lenOK n = true then meetL (tabI salt es) a (n.toNat - 1) (endsL (tabI salt es) b (n.toNat - 1) (nbI es b)) (nbI es a) else 0
theorem pr_rng {salt : ByteArray} {es : List EdD} (hG : GraphT salt es) {key x : Int} (h : x ∈ nbI es key) (m : Nat) : (0 ≤ (prI (tabI salt es) (key, x) m).1 ∧ (prI (tabI salt es) (key, x) m).1 < 64) ∧ 0 ≤ (prI (tabI salt es) (key, x) m).2 ∧ (prI (tabI salt es) (key, x) m).2 < 64 := by
  have h1 := pr_mem hG.tabs (e := (key, x)) (hG.tabs.sym _ _ (mem_tabI.2 h)) m
  exact ⟨hG.rng _ _ h1, hG.rng _ _ (hG.tabs.sym _ _ h1)⟩

set_option maxHeartbeats 8000000 in
set_option maxRecDepth 100000 in
theorem meet_any {P : Nat → Prop} (sz : Int) (eo : Option Addr) (en ec : Nat) (go : Option Addr) (gn gc : Nat) (es : List EdD) (salt : ByteArray) (a b n : Int) (w : World) (h : SlAt edRep P w eo es) (hn : es.length = en) (hG : GraphT salt es) :
    Calls Tryz.prog 47 #[.agg #[.int .i64 sz, .slice eo en ec, .slice go gn gc], .string salt, .int .i64 a, .int .i64 b, .int .i64 n] w fun e w' => e = .returned (.int .i64 (meetV salt es a b n : Nat)) ∧ Ex w.heap.size none w w' := by
  have HX := Lib.hid h
  have HN := Lib.hid hn
  have HG := Lib.hid hG
  clear h hn hG
  cases hb : lenOK n with
  | false =>
    have HR : Hid (meetV salt es a b n = 0) := Lib.hid (by unfold meetV; rw [if_neg (by rw [hb]; simp)])
    go_enter Tryz.func47, Tryz.ntmps47
    go_wp2_with (first
      | (go_at_call 90; refine (length_any n _).mono ?_; rw [hb]; rintro e w' ⟨rfl, rfl⟩)
      | fail)
    go_ret
    exact ⟨by rw [HR.out]; rfl, Ex.new _ _⟩
  | true =>
    have hn1 := lenOK_iff.1 hb
    obtain ⟨m, hm⟩ : ∃ m, m = n.toNat - 1 := ⟨_, rfl⟩
    have hnm : Hid (n = (m : Int) + 1) := Lib.hid (by omega)
    have hm99 : m ≤ 1000 := by omega
    obtain ⟨T, hT⟩ : ∃ T, T = tabI salt es := ⟨_, rfl⟩
    have HT := Lib.hid hT
    have HR : Hid (meetV salt es a b n = meetL T a m (endsL T b m (nbI es b)) (nbI es a)) := Lib.hid (by unfold meetV; rw [if_pos hb, ← hm, hT])
    have HRG : Hid (∀ key, ∀ p ∈ endsL T key m (nbI es key), (0 ≤ p.1 ∧ p.1 < 64) ∧ 0 ≤ p.2 ∧ p.2 < 64) := Lib.hid (fun key p hp => by
      obtain ⟨x, hx, rfl⟩ := List.mem_map.1 hp
      rw [hT]
      exact pr_rng HG.out hx m)
    clear hm hn1 hT
    have hmm := @run_makeMap Tryz.prog
    go_enter Tryz.func47, Tryz.ntmps47
    go_upto_region 1 with (fail)
    obtain ⟨w1, hw1⟩ : ∃ w1 : World, w1 = w.alloc (.cells #[.int .i64 sz, .slice eo en ec, .slice go gn gc] 64) := ⟨_, rfl⟩
    have HE1 : Hid (Ex w.heap.size none w w1) := Lib.hid (by rw [hw1]; exact Ex.new _ _)
    have hz1 : w.heap.size + 1 ≤ w1.heap.size := by rw [hw1]; simp
    have k1 : w1.heap[w.heap.size]? = some (.cells #[.int .i64 sz, .slice eo en ec, .slice go gn gc] 64 (0, 0)) := by rw [hw1]; exact heap_alloc_new _ _
    have c0 : w1.cell? ⟨w.heap.size, 0, none⟩ = some (.int .i64 sz) := by rw [cell_of_row _ _ _ _ _ _ k1]; rfl
    have c1 : w1.cell? ⟨w.heap.size, 1, none⟩ = some (.slice eo en ec) := by rw [cell_of_row _ _ _ _ _ _ k1]; rfl
    have c2 : w1.cell? ⟨w.heap.size, 2, none⟩ = some (.slice go gn gc) := by rw [cell_of_row _ _ _ _ _ _ k1]; rfl
    rw [← hw1]
    clear hw1 k1
    go_wp2_with fail
    refine (length_any n _).mono ?_
    rw [hb]
    rintro e w' ⟨rfl, rfl⟩
    go_wp2_with fail
    refine (start_any sz eo en ec go gn gc salt w1).mono ?_
    rintro e w3 ⟨mb, rfl, hmb, htm, hex3⟩
    have HTM := Lib.hid htm
    have HE3 : Hid (Ex w.heap.size none w w3) := Lib.hid (HE1.out.trans hex3 (by omega) (by simp))
    have hz3 : w1.heap.size ≤ w3.heap.size := hex3.size
    have hmb3 : mb < w3.heap.size := (htm (fun _ => True) (fun _ => [])).lt
    clear htm hex3 c0 c1 c2
    go_upto_region 5 with (fail)
    obtain ⟨w5, hw5⟩ : ∃ w5 : World, w5 = (w3.alloc (.cells #[.int .i64 sz, .slice eo en ec, .slice go gn gc, .string salt, .map (some mb)] 124)).alloc (.map #[] 0) := ⟨_, rfl⟩
    have HE35 : Hid (Ex w3.heap.size none w3 w5) := Lib.hid (by rw [hw5]; exact ex_two0 _ _)
    have hz5 : w3.heap.size + 2 ≤ w5.heap.size := by rw [hw5]; simp
    have HE5 : Hid (Ex w.heap.size none w w5) := Lib.hid (HE3.out.trans HE35.out (by omega) (by simp))
    have HBX : Hid (∀ w' : World, w'.heap[w3.heap.size]? = w5.heap[w3.heap.size]? → w'.cell? ⟨w3.heap.size, 0, none⟩ = some (.int .i64 sz) ∧ w'.cell? ⟨w3.heap.size, 1, none⟩ = some (.slice eo en ec) ∧ w'.cell? ⟨w3.heap.size, 2, none⟩ = some (.slice go gn gc) ∧ w'.cell? ⟨w3.heap.size, 3, none⟩ = some (.string salt) ∧ w'.cell? ⟨w3.heap.size, 4, none⟩ = some (.map (some mb))) := Lib.hid (fun w' h => by
      have k : w'.heap[w3.heap.size]? = some (.cells #[.int .i64 sz, .slice eo en ec, .slice go gn gc, .string salt, .map (some mb)] 124 (0, 0)) := h.trans (by rw [hw5]; exact heap_alloc2_old _ _ _)
      refine ⟨?_, ?_, ?_, ?_, ?_⟩ <;> (rw [cell_of_row _ _ _ _ _ _ k]; rfl))
    have HD5 : Hid (w5.ownsMap Tryz.prog 131 rawE (w3.heap.size + 1) 0 (endD (endsL T b m ((nbI es b).take 0)))) := Lib.hid (by
      have h := World.ownsMap_made (w3.alloc (.cells #[.int .i64 sz, .slice eo en ec, .slice go gn gc, .string salt, .map (some mb)] 124)) Tryz.prog 131 rawE
      rw [World.size_alloc] at h
      rw [hw5]
      exact h)
    have HM5 : Hid (TabMap w5 mb 0 (fun b => b ≠ w3.heap.size + 1) T) := Lib.hid ((HTM.out _ _).ex HE35.out (Nat.le_refl _))
    have HXW : Hid (∀ w', Ex w.heap.size none w w' → SlAt edRep (fun b => b ≠ mb) w' eo es) := Lib.hid (fun w' hx => (((HX.out.mono (P' := fun b => b < w.heap.size) (by decide) fun b _ hb => hb).keep (by decide) fun b _ hb => hx.block b hb (by simp)).mono (by decide) fun b hb _ => by omega))
    rw [← hw5]
    clear hw5 hmm HTM
    obtain ⟨c0, c1, c2, c3, c4⟩ := HBX.out w5 rfl
    have HAL := Lib.hid (all_any (Q := fun b => b ≠ w3.heap.size + 1) sz eo en ec go gn gc es salt b n m mb 0 w5 (HXW.out w5 HE5.out) HN.out HG.out (by rw [← HT.out]; exact HM5.out) (fun b hb => by omega) (by omega) hnm.out hm99)
    rw [← HT.out] at HAL
    go_wp2_with fail
    refine HAL.out.mono ?_
    rintro e w6 ⟨ro, rc, q, rfl, hq, hrw, htm6, hex6⟩
    have HQ := Lib.hid hq
    have HRW := Lib.hid hrw
    have HM6 := Lib.hid htm6
    have HE6 := Lib.hid hex6
    have hz6 : w5.heap.size ≤ w6.heap.size := hex6.size
    have hq12 : q ≤ 12 := by rw [← hq]; exact HG.out.few b
    have HD6 : Hid (w6.ownsMap Tryz.prog 131 rawE (w3.heap.size + 1) 0 (endD (endsL T b m ((nbI es b).take 0)))) := Lib.hid (by
      obtain ⟨es', clock, q1, q2⟩ := HD5.out
      exact ⟨es', clock, (hex6.block _ (by omega) (by simp; omega)).trans q1, q2⟩)
    have HB6 : Hid (w6.heap[w3.heap.size]? = w5.heap[w3.heap.size]?) := Lib.hid (hex6.block _ (by omega) (by simp; omega))
    have HEW6 : Hid (Ex w.heap.size none w w6) := Lib.hid (HE5.out.trans ((hex6.mono (show w.heap.size ≤ w5.heap.size by omega)).above (by omega)) (Nat.le_refl _) (by simp))
    clear hq hrw htm6 hex6 HAL c0 c1 c2 c3 c4
    go_wp2_with fail
    go_loopw [14, 30] (fun _ i wr => ∃ k : Nat, i = .int .i64 k ∧ k ≤ q ∧ Hid (wr.ownsMap Tryz.prog 131 rawE (w3.heap.size + 1) k (endD (endsL T b m ((nbI es b).take k)))) ∧ Hid (Ex w6.heap.size (some (w3.heap.size + 1)) w6 wr)) (fun _ i _ => q - (intOf i).toNat)
    case atStart => exact ⟨0, rfl, by omega, HD6, Lib.hid (Ex.refl _ _ _)⟩
    case round =>
      obtain ⟨k, rfl, hk, HD, HEX⟩ := hrel
      have hszr : w6.heap.size ≤ wr.heap.size := HEX.out.size
      have HRWR : Hid (OwnRw wr w5.heap.size ro rc (fun b => w5.heap.size ≤ b) (routesL T b m (nbI es b))) := Lib.hid (HRW.out.keep fun b hb hl => HEX.out.block b hl (fun e => by
        cases e
        rcases hb with hb | hb
        · have := (HRW.out.lt _ hb).1; omega
        · omega))
      by_cases hlt : k < q
      · have hltI : (k : Int) < (q : Int) := by omega
        obtain ⟨g, ao, r, c, l, rfl, hcl, HLR, HSL, HLK⟩ := HRWR.out.get k (by rw [routesL_len, HQ.out]; exact hlt)
        obtain ⟨p, hup, hl2, hg0, hg1, hpm, _⟩ := ends_up HLK.out
        have hr2 : r = m + 2 := by rw [← HLR.out.1, hl2]
        have HUP := Lib.hid hup
        have hpr := HRG.out b p hpm
        have HLS := Lib.hid (last_any ao r c l p.1 p.2 wr (slI_ints HSL.out) HLR.out (by omega) (by omega) (by rw [hr2, Nat.add_sub_cancel]; exact hg0) (by rw [hr2]; exact hg1))
        have hkey := keyOf_A2 p.1 p.2 hpr.1 hpr.2
        clear hup hl2 hg0 hg1 hpm hpr hr2
        go_wp2_with (first
          | (go_at_call 97
             refine HLS.out.mono ?_
             rintro e w7 ⟨rfl, hex7⟩
             have HE7 := Lib.hid hex7
             have hz7 : wr.heap.size ≤ w7.heap.size := hex7.size
             have HD7 : Hid (w7.ownsMap Tryz.prog 131 rawE (w3.heap.size + 1) k (endD (endsL T b m ((nbI es b).take k)))) := Lib.hid (by
               obtain ⟨es', clock, q1, q2⟩ := HD.out
               exact ⟨es', clock, (hex7.block _ (by omega) (by simp)).trans q1, q2⟩)
             clear hex7)
          | (at_mapUpdate
             refine wpList_mapUpdate_own _ rfl _ _ _ _ rfl 131 4 Tryz.keyedA2 Tryz.underlying130 rawE (w3.heap.size + 1) k _ (by rfl) HD7.out (by unfold maxLen; omega) _ _ (keyL p.1 p.2) (by rfl) (by rfl) hkey (.held (.bool true)) [] rfl ?_
             intro w8 hown8 hgr8
             have HD8 : Hid (w8.ownsMap Tryz.prog 131 rawE (w3.heap.size + 1) (k + 1) (endD (endsL T b m ((nbI es b).take (k + 1))))) := Lib.hid (by rw [HUP.out, endD_snoc]; exact hown8)
             have HE8 : Hid (Ex w6.heap.size (some (w3.heap.size + 1)) w6 w8) := Lib.hid ((HEX.out.trans HE7.out hszr (by simp)).trans (ex_row hgr8) (by omega) (fun q e _ => by cases e; rfl))
             clear hown8 hgr8)
          | fail)
        go_roundw
        case rel => exact ⟨k + 1, by go_num, by omega, HD8, HE8⟩
        case measure => simp [intOf] <;> omega
      · have hltI : ¬ (k : Int) < (q : Int) := by omega
        have HDF : Hid (wr.ownsMap Tryz.prog 131 rawE (w3.heap.size + 1) q (endD (endsL T b m (nbI es b)))) := Lib.hid (by
          have hkq : k = q := by omega
          have h := HD.out
          rw [hkq] at h
          rwa [List.take_of_length_le (by rw [HQ.out]; exact Nat.le_refl _)] at h)
        have HMR : Hid (TabMap wr mb (12 * m) (fun b => b ≠ w3.heap.size + 1) T) := Lib.hid ((HM6.out.keep fun b hb hl => HEX.out.block b hl (fun e => by
          cases e
          rcases hb with hb | hb
          · omega
          · exact hb rfl)).more (by omega))
        have HEWR : Hid (Ex w.heap.size none w wr) := Lib.hid (HEW6.out.trans ((HEX.out.mono (show w.heap.size ≤ w6.heap.size by omega)).above (by omega)) (Nat.le_refl _) (by simp))
        have HBR : Hid (wr.heap[w3.heap.size]? = w5.heap[w3.heap.size]?) := Lib.hid ((HEX.out.block _ (by omega) (by simp)).trans HB6.out)
        have hem : (w3.heap.size + 1) < wr.heap.size := by omega
        clear hlt hk HD HRWR
        obtain ⟨c0, c1, c2, c3, c4⟩ := HBX.out wr HBR.out
        obtain ⟨wo, hwo⟩ : ∃ wo, wo = wr := ⟨_, rfl⟩
        subst hwo
        have HAL := Lib.hid (all_any (Q := fun b => b ≠ w3.heap.size + 1) sz eo en ec go gn gc es salt a n m mb (12 * m) wo (HXW.out wo HEWR.out) HN.out HG.out (by rw [← HT.out]; exact HMR.out) (fun b hb => by omega) (by omega) hnm.out hm99)
        rw [← HT.out] at HAL
        go_wp2_with fail
        refine HAL.out.mono ?_
        rintro e w9 ⟨ro9, rc9, q9, rfl, hq9, hrw9, _, hex9⟩
        have HQ9 := Lib.hid hq9
        have HRW9 := Lib.hid hrw9
        have hz9 : wo.heap.size ≤ w9.heap.size := hex9.size
        have hq912 : q9 ≤ 12 := by rw [← hq9]; exact HG.out.few a
        have HD9 : Hid (w9.ownsMap Tryz.prog 131 rawE (w3.heap.size + 1) q (endD (endsL T b m (nbI es b)))) := Lib.hid (by
          obtain ⟨es', clock, q1, q2⟩ := HDF.out
          exact ⟨es', clock, (hex9.block _ hem (by simp; omega)).trans q1, q2⟩)
        have HEW9 : Hid (Ex w.heap.size none w w9) := Lib.hid (HEWR.out.trans ((hex9.mono (show w.heap.size ≤ wo.heap.size by omega)).above (by omega)) (Nat.le_refl _) (by simp))
        clear hq9 hrw9 hex9 HAL c0 c1 c2 c3 c4
        go_wp2_with fail
        go_loopw [15, 17, 43] (fun c _ i wr => ∃ (k cn : Nat), i = .int .i64 k ∧ k ≤ q9 ∧ c = .int .i64 cn ∧ cn ≤ k ∧ Hid (cn = meetL T a m (endsL T b m (nbI es b)) ((nbI es a).take k)) ∧ Hid (Ex w9.heap.size none w9 wr)) (fun _ _ i _ => q9 - (intOf i).toNat)
        case atStart => exact ⟨0, 0, rfl, by omega, rfl, by omega, Lib.hid rfl, Lib.hid (Ex.refl _ _ _)⟩
        case round =>
          obtain ⟨k, cn, rfl, hk, rfl, hcn, HCN, HEX9⟩ := hrel
          have hszr9 : w9.heap.size ≤ wr.heap.size := HEX9.out.size
          by_cases hlt : k < q9
          · have hltI : (k : Int) < (q9 : Int) := by omega
            obtain ⟨g, ao, r, c, l, rfl, hcl, HLR, HSL, HLK⟩ := (HRW9.out.keep fun b _ hl => HEX9.out.block b hl (by simp)).get k (by rw [routesL_len, HQ9.out]; exact hlt)
            obtain ⟨p, _, hl2, hg0, hg1, hpm, x, hx, hpx, hkx⟩ := ends_up HLK.out
            have hr2 : r = m + 2 := by rw [← HLR.out.1, hl2]
            have hpr := HRG.out a p hpm
            have HLS := Lib.hid (last_any ao r c l p.1 p.2 wr (slI_ints HSL.out) HLR.out (by omega) (by omega) (by rw [hr2, Nat.add_sub_cancel]; exact hg0) (by rw [hr2]; exact hg1))
            have hkey := keyOf_A2 p.1 p.2 hpr.1 hpr.2
            have HAT : Hid ((endD (endsL T b m (nbI es b))).atKey (keyL p.1 p.2) (.held (.bool false)) = .held (.bool (decide (p ∈ endsL T b m (nbI es b))))) := Lib.hid (endD_at (HRG.out b) hpr)
            have HUP : Hid (meetL T a m (endsL T b m (nbI es b)) ((nbI es a).take (k + 1)) = cn + if decide (p ∈ endsL T b m (nbI es b)) = true then 1 else 0) := Lib.hid (by rw [meetL_up hkx, hpx, HCN.out])
            have HLOOK : Hid (∀ w7, Ex wr.heap.size none wr w7 → (Instr.lookup 130 (.map (some (w3.heap.size + 1))) (.agg #[.int .i64 p.1, .int .i64 p.2]) false).run Tryz.prog w7 = .ok (.bool (decide (p ∈ endsL T b m (nbI es b)))) w7) := Lib.hid (fun w7 hx7 => by
              have hd : w7.ownsMap Tryz.prog 131 rawE (w3.heap.size + 1) q (endD (endsL T b m (nbI es b))) := by
                obtain ⟨es', clock, q1, q2⟩ := HD9.out
                exact ⟨es', clock, ((HEX9.out.trans hx7 hszr9 (by simp)).block _ (by omega) (by simp)).trans q1, q2⟩
              obtain ⟨v, ps, hrun, hv⟩ := hd.lookup Tryz.keyedA2 Tryz.underlying130 (Tryz.zeroValue4 _) (zd := .held (.bool false)) (zp := []) rfl hkey
              rw [HAT.out] at hv
              simp only [rawE, Option.some.injEq, Prod.mk.injEq, DataW.held.injEq] at hv
              rw [hv.1] at hrun
              exact hrun)
            clear hl2 hg0 hg1 hpm hpr hr2 hx hpx hkx hkey
            cases hd : decide (p ∈ endsL T b m (nbI es b)) with
            | true =>
              rw [hd] at HLOOK
              have HU2 : Hid (cn + 1 = meetL T a m (endsL T b m (nbI es b)) ((nbI es a).take (k + 1))) := Lib.hid (by rw [HUP.out, if_pos hd])
              go_wp2_with (first
                | (go_at_call 97
                   refine HLS.out.mono ?_
                   rintro e w7 ⟨rfl, hex7⟩
                   have HE7 := Lib.hid hex7
                   have hlook := HLOOK.out w7 hex7
                   clear hex7)
                | fail)
              go_roundw
              case rel => exact ⟨k + 1, cn + 1, by go_num, by omega, by go_num, by omega, HU2, Lib.hid (HEX9.out.trans HE7.out hszr9 (by simp))⟩
              case measure => simp [intOf] <;> omega
            | false =>
              rw [hd] at HLOOK
              have HU2 : Hid (cn = meetL T a m (endsL T b m (nbI es b)) ((nbI es a).take (k + 1))) := Lib.hid (by rw [HUP.out, if_neg (by rw [hd]; simp)]; rfl)
              go_wp2_with (first
                | (go_at_call 97
                   refine HLS.out.mono ?_
                   rintro e w7 ⟨rfl, hex7⟩
                   have HE7 := Lib.hid hex7
                   have hlook := HLOOK.out w7 hex7
                   clear hex7)
                | fail)
              go_roundw
              case rel => exact ⟨k + 1, cn, by go_num, by omega, by go_num, by omega, HU2, Lib.hid (HEX9.out.trans HE7.out hszr9 (by simp))⟩
              case measure => simp [intOf] <;> omega
          · have hltI : ¬ (k : Int) < (q9 : Int) := by omega
            have HF : Hid (meetV salt es a b n = cn) := Lib.hid (by
              have hkq : k = q9 := by omega
              rw [HR.out, HCN.out, hkq, ← HQ9.out, List.take_length])
            go_wp2
            go_ret
            exact ⟨by rw [HF.out]; rfl, HEW9.out.trans HEX9.out (by omega) (by simp)⟩
end Go.Proofs.YtfllcohnfboccaaGreat

namespace Go.Proofs.YtfllcohnfboccaaGreat
open Go.RowKit Go.Sort Go.Maps

/-- slices.Equal; the second one not empty. -/
theorem equal_any (a1 a2 : Option Addr) (n c1 m c2 : Nat) (xs ys : List Int) (w : World) (hx : IntsAt w a1 xs) (hy : IntsAt w a2 ys) (hn : xs.length = n) (hm : ys.length = m) (h0 : 0 < m) (hn2 : n ≤ 1000000) (hm2 : m ≤ 1000000) :
    Calls Tryz.prog 93 #[.slice a1 n c1, .slice a2 m c2] w fun e w' => e = .returned (.bool (xs == ys)) ∧ Ex w.heap.size none w w' := by
  subst hn hm
  obtain ⟨b2, o2, rfl, hc2⟩ := hy 0 h0
  by_cases hz : xs = []
  · subst hz
    refine (Tryz.slices_Equal_int_empty a1 (some ⟨b2, o2, none⟩) c1 ys.length c2 w (by omega)).mono ?_
    rintro e w' ⟨rfl, rfl⟩
    refine ⟨?_, Ex.refl _ _ _⟩
    have h1 : decide (ys.length = 0) = false := decide_eq_false (by omega)
    have h2 : (([] : List Int) == ys) = false := by
      rw [beq_eq_false_iff_ne]
      intro e
      rw [← e] at h0
      simp at h0
    rw [h1, h2]
  · obtain ⟨b1, o1, rfl, hc1⟩ := hx 0 (List.length_pos_iff.2 hz)
    refine (Tryz.slices_Equal_int b1 o1 xs.length c1 b2 o2 ys.length c2 xs ys w (Nat.le_refl _) (Nat.le_refl _) (by omega) (by omega) hc1 hc2).mono ?_
    rintro e w' ⟨rfl, q, rfl⟩
    rw [List.take_length, List.take_length]
    exact ⟨rfl, (Ex.refl _ _ w).drewN⟩

/-- Whether numbers are a route. -/
def backV (salt : ByteArray) (es : List EdD) (r : List Int) : Bool := decide (1 < r.length) && (lenOK ((r.length - 1 : Nat) : Int) && (routeL salt es (r.getD 0 0) (r.getD 1 0) ((r.length - 1 : Nat) : Int) == r))
set_option maxHeartbeats 8000000 in
set_option maxRecDepth 100000 in
theorem back_any {P : Nat → Prop} (sz : Int) (eo : Option Addr) (en ec : Nat) (go : Option Addr) (gn gc : Nat) (es : List EdD) (salt : ByteArray) (ao : Option Addr) (n cap : Nat) (r : List Int) (w : World) (h : SlAt edRep P w eo es) (hn : es.length = en) (hG : GraphT salt es) (hr : IntsAt w ao r) (hrn : r.length = n) (hrm : n ≤ 1000000) :
    Calls Tryz.prog 43 #[.agg #[.int .i64 sz, .slice eo en ec, .slice go gn gc], .string salt, .slice ao n cap] w fun e w' => e = .returned (.bool (backV salt es r)) ∧ Ex w.heap.size none w w' := by
  have HX := Lib.hid h
  have HN := Lib.hid hn
  have HG := Lib.hid hG
  have HRI := Lib.hid hr
  have HRN := Lib.hid hrn
  clear h hn hG hr hrn
  by_cases h1 : 1 < n
  · have h1I : (1 : Int) < (n : Int) := by omega
    have h1d : decide (1 < n) = true := decide_eq_true h1
    obtain ⟨n1, hn1⟩ : ∃ n1, n1 = n - 1 := ⟨_, rfl⟩
    have hw1 : IntKind.i64.wrap ((n : Int) - 1) = (n1 : Int) := by rw [IntWalk.i64_in _ (by omega)]; omega
    have hne : r ≠ [] := fun e => by have := HRN.out; rw [e] at this; simp at this; omega
    obtain ⟨b, off, rfl, hc⟩ := HRI.out 0 (List.length_pos_iff.2 hne)
    obtain ⟨r0, hr0⟩ : ∃ y, y = r.getD 0 0 := ⟨_, rfl⟩
    obtain ⟨r1, hr1⟩ : ∃ y, y = r.getD 1 0 := ⟨_, rfl⟩
    have cr0 : w.cell? ⟨b, off, none⟩ = some (.int .i64 r0) := by have := hc 0 (by rw [HRN.out]; omega); rw [Nat.add_zero] at this; rw [this, hr0]
    have cr1 : w.cell? ⟨b, off + 1, none⟩ = some (.int .i64 r1) := by rw [hc 1 (by rw [HRN.out]; omega), hr1]
    have hbl : b < w.heap.size := World.block_lt_of_cell? w _ cr0
    have h0n : (0 : Int) < (n : Int) := by omega
    have h0N : 0 < n := by omega
    have HBV : Hid (backV salt es r = (lenOK (n1 : Int) && (routeL salt es r0 r1 (n1 : Int) == r))) := Lib.hid (by
      unfold backV
      rw [HRN.out, h1d, ← hn1, hr0, hr1, Bool.true_and])
    have hn1m : n1 ≤ 1000000 := by omega
    have HNN : Hid (n = n1 + 1) := Lib.hid (by omega)
    clear hn1 hr0 hr1 hc
    cases hb : lenOK (n1 : Int) with
    | false =>
      have HB2 : Hid (backV salt es r = false) := Lib.hid (by rw [HBV.out, hb]; rfl)
      go_enter Tryz.func43, Tryz.ntmps43
      go_upto_region 1 with (fail)
      obtain ⟨w1, hw1'⟩ : ∃ w1 : World, w1 = w.alloc (.cells #[.int .i64 sz, .slice eo en ec, .slice go gn gc] 64) := ⟨_, rfl⟩
      have HE1 : Hid (Ex w.heap.size none w w1) := Lib.hid (by rw [hw1']; exact Ex.new _ _)
      rw [← hw1']
      clear hw1' cr0 cr1
      have hlen : ∀ w, Calls Tryz.prog 90 #[.int .i64 (n1 : Int)] w fun e w' => e = .returned (.bool false) ∧ w' = w := fun w => (length_any n1 w).mono fun _ _ h => ⟨by rw [h.1, hb], h.2.symm⟩
      go_quiet ((go_at_call 90; exact Calls.quiet_of_same (hlen _)))
      go_wp2
      go_ret
      exact ⟨by rw [HB2.out]; rfl, HE1.out.drewN⟩
    | true =>
      have HB2 : Hid (backV salt es r = (routeL salt es r0 r1 (n1 : Int) == r)) := Lib.hid (by rw [HBV.out, hb, Bool.true_and])
      go_enter Tryz.func43, Tryz.ntmps43
      go_upto_region 1 with (fail)
      obtain ⟨w1, hw1'⟩ : ∃ w1 : World, w1 = w.alloc (.cells #[.int .i64 sz, .slice eo en ec, .slice go gn gc] 64) := ⟨_, rfl⟩
      have HE1 : Hid (Ex w.heap.size none w w1) := Lib.hid (by rw [hw1']; exact Ex.new _ _)
      have hz1 : w.heap.size + 1 ≤ w1.heap.size := by rw [hw1']; simp
      have HC : Hid (∀ w', Ex w1.heap.size none w1 w' → w'.cell? ⟨w.heap.size, 0, none⟩ = some (.int .i64 sz) ∧ w'.cell? ⟨w.heap.size, 1, none⟩ = some (.slice eo en ec) ∧ w'.cell? ⟨w.heap.size, 2, none⟩ = some (.slice go gn gc) ∧ w'.cell? ⟨b, off, none⟩ = some (.int .i64 r0) ∧ w'.cell? ⟨b, off + 1, none⟩ = some (.int .i64 r1)) := Lib.hid (fun w' h => by
        have k : w'.heap[w.heap.size]? = some (.cells #[.int .i64 sz, .slice eo en ec, .slice go gn gc] 64 (0, 0)) := (h.block w.heap.size (by omega) (by simp)).trans (by rw [hw1']; exact heap_alloc_new _ _)
        have hbb : w'.heap[b]? = w.heap[b]? := (h.block b (by omega) (by simp)).trans (HE1.out.block b hbl (by simp))
        refine ⟨?_, ?_, ?_, (World.cell?_of_block (w := w) hbb).trans cr0, (World.cell?_of_block (w := w) hbb).trans cr1⟩ <;> (rw [cell_of_row _ _ _ _ _ _ k]; rfl))
      rw [← hw1']
      clear hw1' cr0 cr1
      go_region_held3 (fun w' => w'.cell? ⟨w.heap.size, 0, none⟩ = some (.int .i64 sz) ∧ w'.cell? ⟨w.heap.size, 1, none⟩ = some (.slice eo en ec) ∧ w'.cell? ⟨w.heap.size, 2, none⟩ = some (.slice go gn gc) ∧ w'.cell? ⟨b, off, none⟩ = some (.int .i64 r0) ∧ w'.cell? ⟨b, off + 1, none⟩ = some (.int .i64 r1))
        (first | exact HC.out _ HE3.out | exact HC.out _ HE2.out | exact HC.out _ (Ex.refl _ _ w1).drew | exact HC.out _ (Ex.refl _ _ w1) | fail)
        (first
          | (go_at_call 90; refine (length_any _ _).mono ?_; rw [hb]; rintro e w' ⟨rfl, rfl⟩)
          | (go_at_call 42
             refine (routeP_any (P := P) sz eo en ec go gn gc es salt r0 r1 (n1 : Int) _ (HX.out.keep (by decide) fun c _ hc => HE1.out.drew.block c hc (by simp)) HN.out HG.out).mono ?_
             rintro e w2 ⟨ro, rc, q, rfl, hq, hro, hex⟩
             have HE2 : Hid (Ex w1.heap.size none w1 w2) := Lib.hid ((Ex.refl _ _ w1).drew.trans hex (Nat.le_refl _) (by simp))
             have HQ := Lib.hid hq
             have HRO := Lib.hid hro
             have hz2 : w1.heap.size ≤ w2.heap.size := HE2.out.size
             clear hq hro hex)
          | (go_at_call 93
             refine (equal_any ro (some ⟨b, off, none⟩) q rc n cap (routeL salt es r0 r1 (n1 : Int)) r w2 (slI_ints HRO.out) ((HRI.out.keep HE1.out (Nat.le_refl _) (by simp)).keep HE2.out (Nat.le_refl _) (by simp)) HQ.out HRN.out (by omega) (by
               rw [← HQ.out]
               unfold routeL
               split
               · have := (lenOK_iff.1 hb).2; rw [rtI_len]; omega
               · simp) (by omega)).mono ?_
             rintro e w3 ⟨rfl, hex⟩
             have HE3 : Hid (Ex w1.heap.size none w1 w3) := Lib.hid (HE2.out.trans hex hz2 (by simp))
             clear hex)
          | fail)
      go_wp2
      go_ret
      exact ⟨by rw [HB2.out]; rfl, HE1.out.trans HE3.out (by omega) (by simp)⟩
  · have h1I : ¬ (1 : Int) < (n : Int) := by omega
    have h1d : decide (1 < n) = false := decide_eq_false h1
    have HB2 : Hid (backV salt es r = false) := Lib.hid (by unfold backV; rw [HRN.out, h1d]; rfl)
    go_enter Tryz.func43, Tryz.ntmps43
    go_upto_region 1 with (fail)
    obtain ⟨w1, hw1'⟩ : ∃ w1 : World, w1 = w.alloc (.cells #[.int .i64 sz, .slice eo en ec, .slice go gn gc] 64) := ⟨_, rfl⟩
    have HE1 : Hid (Ex w.heap.size none w w1) := Lib.hid (by rw [hw1']; exact Ex.new _ _)
    rw [← hw1']
    clear hw1'
    go_quiet (fail)
    go_wp2
    go_ret
    exact ⟨by rw [HB2.out]; rfl, HE1.out.drewN⟩
end Go.Proofs.YtfllcohnfboccaaGreat

namespace Go.Proofs.YtfllcohnfboccaaGreat
open Go.RowKit Go.Sort Go.Maps

theorem mem_nbI_sym {es : List EdD} {a b : Int} (h : a ∈ nbI es b) : b ∈ nbI es a := by
  rw [mem_nbI] at *
  obtain ⟨e, he, h⟩ := h
  exact ⟨e, he, h.symm.imp (fun h => ⟨h.2, h.1⟩) (fun h => ⟨h.2, h.1⟩)⟩
theorem graphT_of {salt : ByteArray} {es : List EdD} (hs : salt.size ≤ 1000) (hl : es.length ≤ 1000) (hr : ∀ e ∈ es, (0 ≤ e.1 ∧ e.1 < 12) ∧ 0 ≤ e.2.1 ∧ e.2.1 < 12) : GraphT salt es where
  tabs := ⟨fun k => tabI_nodup _ _ _, fun a b h => mem_tabI.2 (mem_nbI_sym (mem_tabI.1 h))⟩
  rng := fun a b h => by
    obtain ⟨e, he, h⟩ := mem_nbI.1 (mem_tabI.1 h)
    have := hr e he
    rcases h with h | h <;> omega
  few := fun b => by
    have h := nodup_sub_len (nbI es b) ((List.range 12).map fun (i : Nat) => (i : Int)) ((nbI_strict es b).imp fun hab e => by omega) fun x hx => by
      obtain ⟨e, he, h⟩ := mem_nbI.1 hx
      have := hr e he
      rw [List.mem_map]
      exact ⟨x.toNat, List.mem_range.2 (by rcases h with h | h <;> omega), by rcases h with h | h <;> omega⟩
    simpa using h
  salt := hs
  len := hl

/-- The example's edges. -/
def es0 : List EdD := [(0, 1, 1), (2, 1, 1)]
theorem nb0_0 : nbI es0 0 = [1] := strict_ext _ _ (nbI_strict _ _) (by decide) fun x => by
  rw [mem_nbI]; simp [es0]; omega
theorem nb0_1 : nbI es0 1 = [0, 2] := strict_ext _ _ (nbI_strict _ _) (by decide) fun x => by
  rw [mem_nbI]; simp [es0]; omega
theorem nb0_2 : nbI es0 2 = [1] := strict_ext _ _ (nbI_strict _ _) (by decide) fun x => by
  rw [mem_nbI]; simp [es0]; omega
theorem tab0_0 (salt : ByteArray) : tabI salt es0 0 = [1] := List.perm_singleton.1 (nb0_0 ▸ tabI_perm salt es0 0)
theorem tab0_2 (salt : ByteArray) : tabI salt es0 2 = [1] := List.perm_singleton.1 (nb0_2 ▸ tabI_perm salt es0 2)
theorem perm_two {l : List Int} {a b : Int} (h : l.Perm [a, b]) : l = [a, b] ∨ l = [b, a] := by
  match l, h with
  | [], h => simp at h
  | [x], h => have := h.length_eq; simp at this
  | x :: y :: z :: r, h => have := h.length_eq; simp at this
  | [x, y], h =>
    have hx := h.mem_iff.1 (show x ∈ [x, y] by simp)
    simp only [List.mem_cons, List.not_mem_nil, or_false] at hx
    rcases hx with rfl | rfl
    · have := (List.perm_cons x).1 h
      exact .inl (by rw [List.perm_singleton.1 this])
    · have := (List.perm_cons x).1 (h.trans (List.Perm.swap _ _ _))
      exact .inr (by rw [List.perm_singleton.1 this])
theorem tab0_1 (salt : ByteArray) : tabI salt es0 1 = [0, 2] ∨ tabI salt es0 1 = [2, 0] := perm_two (nb0_1 ▸ tabI_perm salt es0 1)
theorem nx0_1 (salt : ByteArray) : nxI (tabI salt es0) 0 1 = 2 := by
  unfold nxI
  rcases tab0_1 salt with h | h <;> rw [h] <;> decide
theorem nx0_2 (salt : ByteArray) : nxI (tabI salt es0) 1 2 = 1 := by
  unfold nxI
  rw [tab0_2]; decide
theorem rt0_0 (salt : ByteArray) : rtI (tabI salt es0) (0, 1) 0 = [0, 1] := rfl
theorem rt0_1 (salt : ByteArray) : rtI (tabI salt es0) (0, 1) 1 = [0, 1, 2] := by
  rw [rtI_succ, rt0_0]; show [0, 1] ++ [nxI (tabI salt es0) 0 1] = _; rw [nx0_1]; rfl
theorem rt0_2 (salt : ByteArray) : rtI (tabI salt es0) (0, 1) 2 = [0, 1, 2, 1] := by
  rw [rtI_succ, rt0_1]
  show [0, 1, 2] ++ [nxI (tabI salt es0) 1 (nxI (tabI salt es0) 0 1)] = _
  rw [nx0_1, nx0_2]; rfl
theorem graphT0 (salt : ByteArray) (hs : salt.size ≤ 1000) : GraphT salt es0 := graphT_of hs (by decide) (by decide)
theorem route0 (salt : ByteArray) : routeL salt es0 0 1 3 = [0, 1, 2, 1] := by
  unfold routeL
  rw [if_pos ⟨by decide, by rw [nb0_0]; simp⟩]
  exact rt0_2 salt
theorem back0 (salt : ByteArray) : backV salt es0 [0, 1, 2, 1] = true := by
  unfold backV
  have h : routeL salt es0 (([0, 1, 2, 1] : List Int).getD 0 0) (([0, 1, 2, 1] : List Int).getD 1 0) ((([0, 1, 2, 1] : List Int).length - 1 : Nat) : Int) = [0, 1, 2, 1] := route0 salt
  rw [h]
  decide
theorem esc0_2 (salt : ByteArray) : escV salt es0 [2] 0 2 = 1 := by
  unfold escV
  rw [if_pos (by decide), nb0_0]
  unfold escL
  rw [List.countP_singleton, show Int.toNat 2 - 1 = 1 from rfl, rt0_1]
  decide
theorem esc0_1 (salt : ByteArray) : escV salt es0 [2] 0 1 = 0 := by
  unfold escV
  rw [if_pos (by decide), nb0_0]
  unfold escL
  rw [List.countP_singleton, show Int.toNat 1 - 1 = 0 from rfl, rt0_0]
  decide
theorem meet0 (salt : ByteArray) : meetV salt es0 0 0 2 = 1 := by
  unfold meetV meetL endsL
  rw [if_pos (by decide), nb0_0]
  simp
end Go.Proofs.YtfllcohnfboccaaGreat

namespace Go.Proofs.YtfllcohnfboccaaGreat
open Go.RowKit Go.Sort Go.Maps

theorem sl_litE {α : Type} [Inhabited α] {enc : α → List Value} {k : Nat} {hk : ∀ x, (enc x).length = k} {h1 : ∀ x, ∀ v ∈ enc x, v.oneCell' = true} {P : Nat → Prop} {w : World} {cs : Array Value} {t : TypeId} {xs : List α} (hP : P w.heap.size) (h : cs.toList = flatL enc xs) : SlAt (valRep enc k hk h1) P (w.alloc (.cells cs t)) (some ⟨w.heap.size, 0, none⟩) xs :=
  val_sl hP (holdsK_flat hk (fun j v hv => by
    rw [cell_of_row _ _ _ _ _ _ (heap_alloc_new w _)]
    rw [← h] at hv
    simpa using hv) (fun j _ => by unfold World.frozen?; dsimp only; rw [heap_alloc_new]; simp))
set_option maxHeartbeats 8000000 in
set_option maxRecDepth 100000 in
theorem awake20_any (w : World) : Calls Tryz.prog 32 #[] w fun e w' => e = .returned (.bool true) ∧ Ex w.heap.size none w w' := by
  go_enter Tryz.func32, Tryz.ntmps32
  go_upto_region 2 with (fail)
  obtain ⟨w1, hw1⟩ : ∃ w1 : World, w1 = (w.alloc (.cells #[.int .i64 0, .int .i64 1, .int .i64 1, .int .i64 2, .int .i64 1, .int .i64 1] 105)).alloc (.cells #[.int .i64 3, .slice (some ⟨w.heap.size, 0, none⟩) 2 2, .slice none 0 0] 64) := ⟨_, rfl⟩
  have HE1 : Hid (Ex w.heap.size none w w1) := Lib.hid (by rw [hw1]; exact ex_two0 _ _)
  have hz1 : w.heap.size + 2 ≤ w1.heap.size := by rw [hw1]; simp
  have HC : Hid (∀ w', Ex w1.heap.size none w1 w' → w'.cell? ⟨w.heap.size + 1, 0, none⟩ = some (.int .i64 3) ∧ w'.cell? ⟨w.heap.size + 1, 1, none⟩ = some (.slice (some ⟨w.heap.size, 0, none⟩) 2 2) ∧ w'.cell? ⟨w.heap.size + 1, 2, none⟩ = some (.slice none 0 0)) := Lib.hid (fun w' h => by
    have k : w'.heap[w.heap.size + 1]? = some (.cells #[.int .i64 3, .slice (some ⟨w.heap.size, 0, none⟩) 2 2, .slice none 0 0] 64 (0, 0)) := (h.block _ (by omega) (by simp)).trans (by rw [hw1]; exact heap_alloc2_new _ _ _)
    refine ⟨?_, ?_, ?_⟩ <;> (rw [cell_of_row _ _ _ _ _ _ k]; rfl))
  have HX : Hid (∀ w', Ex w1.heap.size none w1 w' → SlAt edRep (fun _ => True) w' (some ⟨w.heap.size, 0, none⟩) es0) := Lib.hid (fun w' h => by
    have k : SlAt edRep (fun _ => True) (w.alloc (.cells #[.int .i64 0, .int .i64 1, .int .i64 1, .int .i64 2, .int .i64 1, .int .i64 1] 105)) (some ⟨w.heap.size, 0, none⟩) es0 := sl_litE trivial rfl
    refine k.keep (by decide) fun b _ hb => (h.block b (by simp at hb; omega) (by simp)).trans ?_
    rw [hw1]
    exact (Ex.new _ _).block b hb (by simp))
  rw [← hw1]
  clear hw1
  obtain ⟨salt, hsalt⟩ : ∃ s : ByteArray, s = ⟨#[120]⟩ := ⟨_, rfl⟩
  have HS : Hid (salt.size ≤ 1000) := Lib.hid (by rw [hsalt]; decide)
  have HG : Hid (GraphT salt es0) := Lib.hid (graphT0 salt HS.out)
  have HRT := Lib.hid (routeP_any (P := fun _ => True) 3 (some ⟨w.heap.size, 0, none⟩) 2 2 none 0 0 es0 salt 0 1 3 w1 (HX.out _ (Ex.refl _ _ _)) rfl HG.out)
  obtain ⟨c0, c1, c2⟩ := HC.out _ (Ex.refl _ _ w1)
  rw [hsalt] at HRT
  go_wp2_with fail
  refine HRT.out.mono ?_
  rintro e w2 ⟨ro, rc, q, rfl, hq, hro, hex⟩
  rw [route0] at hq hro
  have hq4 : q = 4 := hq.symm
  subst hq4
  have HE2 := Lib.hid hex
  have hz2 := hex.size
  have HRI := Lib.hid (slI_ints hro)
  clear hq hro hex HRT c0 c1 c2
  obtain ⟨c0, c1, c2⟩ := HC.out _ HE2.out
  go_wp2_with fail
  refine (neigh_any (P := fun _ => True) 3 (some ⟨w.heap.size, 0, none⟩) 2 2 none 0 0 es0 1 w2 (HX.out _ HE2.out) rfl (by decide)).mono ?_
  rintro e w3 ⟨no, nc, nn, rfl, hnn, _, hex⟩
  rw [nb0_1] at hnn
  have hn2 : nn = 2 := hnn.symm
  subst hn2
  have HE3 : Hid (Ex w1.heap.size none w1 w3) := Lib.hid (HE2.out.trans hex hz2 (by simp))
  have HRI3 : Hid (IntsAt w3 ro [0, 1, 2, 1]) := Lib.hid (HRI.out.keep hex (Nat.le_refl _) (by simp))
  have hz3 : w1.heap.size ≤ w3.heap.size := HE3.out.size
  clear hnn hex c0 c1 c2
  obtain ⟨c0, c1, c2⟩ := HC.out _ HE3.out
  obtain ⟨b, off, rfl, hc⟩ := HRI3.out 0 (by decide)
  have cr2 : w3.cell? ⟨b, off + 2, none⟩ = some (.int .i64 2) := hc 2 (by decide)
  have cr3 : w3.cell? ⟨b, off + 3, none⟩ = some (.int .i64 1) := hc 3 (by decide)
  have HBK := Lib.hid (back_any (P := fun _ => True) 3 (some ⟨w.heap.size, 0, none⟩) 2 2 none 0 0 es0 salt (some ⟨b, off, none⟩) 4 rc [0, 1, 2, 1] w3 (HX.out _ HE3.out) rfl HG.out HRI3.out rfl (by decide))
  rw [hsalt, back0] at HBK
  clear hc
  go_wp2_with fail
  refine HBK.out.mono ?_
  rintro e w4 ⟨rfl, hex⟩
  have HE4 : Hid (Ex w1.heap.size none w1 w4) := Lib.hid (HE3.out.trans hex hz3 (by simp))
  have hz4 : w1.heap.size ≤ w4.heap.size := HE4.out.size
  clear hex c0 c1 c2 cr2 cr3 HBK
  obtain ⟨c0, c1, c2⟩ := HC.out _ HE4.out
  have HTB := Lib.hid (table_any (P := fun _ => True) 3 (some ⟨w.heap.size, 0, none⟩) 2 2 none 0 0 es0 salt 1 w4 (HX.out _ HE4.out) rfl (by decide) HS.out (by rw [nb0_1]; decide))
  rw [hsalt] at HTB
  go_wp2_with fail
  refine HTB.out.mono ?_
  rintro e w5 ⟨to, tc, tn, rfl, htn, _, hex⟩
  rw [tabI_len, nb0_1] at htn
  have ht2 : tn = 2 := htn.symm
  subst ht2
  have HE5 : Hid (Ex w1.heap.size none w1 w5) := Lib.hid (HE4.out.trans hex hz4 (by simp))
  have hz5 : w1.heap.size ≤ w5.heap.size := HE5.out.size
  clear htn hex c0 c1 c2 HTB
  obtain ⟨c0, c1, c2⟩ := HC.out _ HE5.out
  have HX6 : Hid (Ex w1.heap.size none w1 (w5.alloc (.cells #[.int .i64 2] 3))) := Lib.hid (HE5.out.trans (Ex.new w5 _) hz5 (by simp))
  have HES := Lib.hid (escapes_any (P := fun _ => True) 3 (some ⟨w.heap.size, 0, none⟩) 2 2 none 0 0 es0 salt 0 2 (some ⟨w5.heap.size, 0, none⟩) 1 1 [2] (w5.alloc (.cells #[.int .i64 2] 3)) (HX.out _ HX6.out) rfl HG.out (IntsAt.lit w5 [2]) rfl (by decide))
  rw [hsalt, esc0_2] at HES
  go_wp2_with fail
  refine HES.out.mono ?_
  rintro e w6 ⟨rfl, hex⟩
  have HE6 : Hid (Ex w1.heap.size none w1 w6) := Lib.hid (HX6.out.trans hex (by simp; omega) (by simp))
  have hz6 : w1.heap.size ≤ w6.heap.size := HE6.out.size
  clear hex c0 c1 c2 HES HX6
  obtain ⟨c0, c1, c2⟩ := HC.out _ HE6.out
  have HX7 : Hid (Ex w1.heap.size none w1 (w6.alloc (.cells #[.int .i64 2] 3))) := Lib.hid (HE6.out.trans (Ex.new w6 _) hz6 (by simp))
  have HES := Lib.hid (escapes_any (P := fun _ => True) 3 (some ⟨w.heap.size, 0, none⟩) 2 2 none 0 0 es0 salt 0 1 (some ⟨w6.heap.size, 0, none⟩) 1 1 [2] (w6.alloc (.cells #[.int .i64 2] 3)) (HX.out _ HX7.out) rfl HG.out (IntsAt.lit w6 [2]) rfl (by decide))
  rw [hsalt, esc0_1] at HES
  go_wp2_with fail
  refine HES.out.mono ?_
  rintro e w7 ⟨rfl, hex⟩
  have HE7 : Hid (Ex w1.heap.size none w1 w7) := Lib.hid (HX7.out.trans hex (by simp; omega) (by simp))
  have hz7 : w1.heap.size ≤ w7.heap.size := HE7.out.size
  clear hex c0 c1 c2 HES HX7
  obtain ⟨c0, c1, c2⟩ := HC.out _ HE7.out
  have HMT := Lib.hid (meet_any (P := fun _ => True) 3 (some ⟨w.heap.size, 0, none⟩) 2 2 none 0 0 es0 salt 0 0 2 w7 (HX.out _ HE7.out) rfl HG.out)
  rw [hsalt, meet0] at HMT
  go_wp2_with fail
  refine HMT.out.mono ?_
  rintro e w8 ⟨rfl, hex⟩
  have HE8 : Hid (Ex w1.heap.size none w1 w8) := Lib.hid (HE7.out.trans hex hz7 (by simp))
  clear hex c0 c1 c2 HMT
  go_wp2
  go_ret
  exact ⟨rfl, HE1.out.trans HE8.out (by omega) (by simp)⟩
end Go.Proofs.YtfllcohnfboccaaGreat

namespace Go.Proofs.YtfllcohnfboccaaGreat
open Go.RowKit Go.Sort Go.Maps

/-- Pairs are ends of routes that begin with a step of a key below k, or of k to one of l. -/
def EndsOf (T : Int → List Int) (m : Nat) (k : Int) (l : List Int) (E : List (Int × Int)) : Prop :=
  ∀ x ∈ E, ∃ e : Int × Int, (e.1 < k ∨ (e.1 = k ∧ e.2 ∈ l)) ∧ e.1 ∈ T e.2 ∧ x = prI T e m
theorem EndsOf.nil (T : Int → List Int) (m : Nat) (k : Int) (l : List Int) : EndsOf T m k l [] := fun x hx => by cases hx
theorem EndsOf.fresh {T : Int → List Int} {m : Nat} {k y : Int} {l : List Int} {E : List (Int × Int)} (h : EndsOf T m k l E) (hT : Tabs T) (hy : k ∈ T y) (hl : y ∉ l) : ∀ x ∈ E, x ≠ prI T (k, y) m := by
  intro x hx e'
  obtain ⟨e, he, hm, rfl⟩ := h x hx
  have := pr_inj hT hm (e' := (k, y)) hy m e'
  subst this
  rcases he with he | he
  · simp at he
  · exact hl he.2
theorem EndsOf.snoc {T : Int → List Int} {m : Nat} {k y : Int} {l : List Int} {E : List (Int × Int)} (h : EndsOf T m k l E) (hy : k ∈ T y) : EndsOf T m k (l ++ [y]) (E ++ [prI T (k, y) m]) := by
  intro x hx
  rcases List.mem_append.1 hx with hx | hx
  · obtain ⟨e, he, h2⟩ := h x hx
    exact ⟨e, he.imp_right fun h => ⟨h.1, List.mem_append_left _ h.2⟩, h2⟩
  · rw [List.mem_singleton.1 hx]
    exact ⟨(k, y), .inr ⟨rfl, by simp⟩, hy, rfl⟩
theorem EndsOf.next {T : Int → List Int} {m : Nat} {k : Int} {l : List Int} {E : List (Int × Int)} (h : EndsOf T m k l E) : EndsOf T m (k + 1) [] E := by
  intro x hx
  obtain ⟨e, he, h2⟩ := h x hx
  exact ⟨e, .inl (by omega), h2⟩
theorem getD_mem {l : List Int} {i : Nat} (h : i < l.length) : l.getD i 0 ∈ l := by rw [getD_eq h]; exact List.getElem_mem _
theorem strict_notin {l : List Int} (hs : l.Pairwise (· < ·)) {i : Nat} (h : i < l.length) : l.getD i 0 ∉ l.take i := by
  intro hm
  obtain ⟨j, hj, e⟩ := List.mem_iff_getElem.1 hm
  have hj' : j < i := by simp at hj; omega
  rw [List.getElem_take, getD_eq h] at e
  have := List.pairwise_iff_getElem.1 hs j i (by omega) h hj'
  omega
/-- What a route of the program reads as. -/
theorem routeL_eq {salt : ByteArray} {es : List EdD} {k y : Int} {m : Nat} (hm : m ≤ 99) (h : y ∈ nbI es k) : routeL salt es k y ((m : Int) + 1) = rtI (tabI salt es) (k, y) m := by
  unfold routeL
  rw [if_pos ⟨lenOK_iff.2 (by omega), h⟩, show ((m : Int) + 1).toNat - 1 = m by omega]
theorem route_back {salt : ByteArray} {es : List EdD} {k y : Int} {m : Nat} (hm : m ≤ 99) (h : y ∈ nbI es k) : backV salt es (rtI (tabI salt es) (k, y) m) = true := by
  have h0 : (rtI (tabI salt es) (k, y) m).getD 0 0 = k := rfl
  have h1 : (rtI (tabI salt es) (k, y) m).getD 1 0 = y := rtI_snd _ _ (i := 0) (Nat.zero_le _)
  have h2 : (((rtI (tabI salt es) (k, y) m).length - 1 : Nat) : Int) = (m : Int) + 1 := by rw [rtI_len]; omega
  unfold backV
  rw [h0, h1, h2, routeL_eq hm h, rtI_len, lenOK_iff.2 (by omega)]
  simp

/-- A square of counters. -/
def CntOK (n : Nat) (E : List (Int × Int)) (C : List Int) : Prop := C.length = n * n ∧ ∀ a b : Nat, a < n → b < n → C.getD (a * n + b) 0 = (E.count ((a : Int), (b : Int)) : Nat)
theorem sq_lt {n a b : Nat} (ha : a < n) (hb : b < n) : a * n + b < n * n := by
  have := Nat.mul_le_mul_right n (show a + 1 ≤ n from ha)
  rw [Nat.succ_mul] at this
  omega
theorem sq_inj {n a b a' b' : Nat} (hb : b < n) (hb' : b' < n) (h : a * n + b = a' * n + b') : a = a' ∧ b = b' := by
  have h0 : 0 < n := by omega
  have h1 : (a * n + b) / n = a := by rw [Nat.add_comm, Nat.add_mul_div_right _ _ h0, Nat.div_eq_of_lt hb, Nat.zero_add]
  have h2 : (a' * n + b') / n = a' := by rw [Nat.add_comm, Nat.add_mul_div_right _ _ h0, Nat.div_eq_of_lt hb', Nat.zero_add]
  have : a = a' := by rw [← h1, h, h2]
  subst this
  exact ⟨rfl, by omega⟩
theorem CntOK.zero (n : Nat) : CntOK n [] (List.replicate (n * n) 0) := ⟨by simp, fun a b ha hb => by
  simp [List.getD, sq_lt ha hb]⟩
theorem CntOK.step {n a b : Nat} {E : List (Int × Int)} {C : List Int} (h : CntOK n E C) (ha : a < n) (hb : b < n) {v : Int} (hv : C.getD (a * n + b) 0 = v) : CntOK n (E ++ [((a : Int), (b : Int))]) (C.set (a * n + b) (v + 1)) := by
  refine ⟨by rw [List.length_set]; exact h.1, fun a' b' ha' hb' => ?_⟩
  have h1 := h.2 a' b' ha' hb'
  rw [List.count_append, List.count_singleton]
  by_cases c : a = a' ∧ b = b'
  · obtain ⟨rfl, rfl⟩ := c
    have hl : a * n + b < C.length := by rw [h.1]; exact sq_lt ha hb
    rw [hv] at h1
    have h3 : (C.set (a * n + b) (v + 1)).getD (a * n + b) 0 = v + 1 := by simp [List.getD, hl]
    rw [h3, h1]
    simp
  · have hne : a * n + b ≠ a' * n + b' := fun e => c (sq_inj hb hb' e)
    have h3 : (C.set (a * n + b) (v + 1)).getD (a' * n + b') 0 = C.getD (a' * n + b') 0 := by simp [List.getD, List.getElem?_set_ne hne]
    have h4 : (((a : Int), (b : Int)) == ((a' : Int), (b' : Int))) = false := by
      rw [beq_eq_false_iff_ne]
      intro e
      simp only [Prod.mk.injEq, Int.ofNat_inj] at e
      exact c e
    rw [h3, h1, h4]
    simp
/-- The steps of all keys in the order of their lists of neighbours. -/
theorem steps_perm {S T : Int → List Int} (h : ∀ k, (S k).Perm (T k)) : ∀ n, (stepsI S n).Perm (stepsI T n)
  | 0 => List.Perm.refl _
  | n + 1 => (steps_perm h n).append ((h _).map _)
theorem ends_count_nb {salt : ByteArray} {es : List EdD} (hG : GraphT salt es) (m n : Nat) (hr : ∀ a b, a ∈ tabI salt es b → 0 ≤ a ∧ a < n) (a b : Int) :
    (endsI (tabI salt es) m (stepsI (nbI es) n)).count (a, b) = if hasI (nbI es a) b then 1 else 0 := by
  have hp : (endsI (tabI salt es) m (stepsI (nbI es) n)).Perm (endsI (tabI salt es) m (stepsI (tabI salt es) n)) := (steps_perm (fun k => (tabI_perm salt es k).symm) n).map _
  rw [hp.count_eq, ends_count hG.tabs m n hr]
  by_cases c : b ∈ nbI es a
  · rw [if_pos (mem_tabI.2 c), if_pos (hasI_iff.2 c)]
  · rw [if_neg (fun h => c (mem_tabI.1 h)), if_neg (by rw [hasI_iff]; exact c)]
theorem endsI_up {T : Int → List Int} {m : Nat} {S : List (Int × Int)} {l : List Int} {i : Nat} {k y : Int} (hi : i < l.length) (h : l.getD i 0 = y) : endsI T m (S ++ (l.take (i + 1)).map fun x => (k, x)) = endsI T m (S ++ (l.take i).map fun x => (k, x)) ++ [prI T (k, y) m] := by
  have e : l.take (i + 1) = l.take i ++ [y] := by rw [List.take_add_one, List.getElem?_eq_getElem hi, ← h, getD_eq hi]; rfl
  rw [e, List.map_append, ← List.append_assoc]
  unfold endsI
  rw [List.map_append]
  rfl
theorem steps_len {S : Int → List Int} (h : ∀ k, (S k).length ≤ 12) : ∀ n, (stepsI S n).length ≤ 12 * n
  | 0 => by simp [stepsI]
  | n + 1 => by
    have h1 := steps_len h n
    have h2 := h (n : Int)
    rw [stepsI, List.length_append, List.length_map]
    omega
theorem CntOK.val {n a b : Nat} {E : List (Int × Int)} {C : List Int} (h : CntOK n E C) (ha : a < n) (hb : b < n) {v : Int} (hv : C.getD (a * n + b) 0 = v) : 0 ≤ v ∧ v ≤ E.length := by
  have h1 := h.2 a b ha hb
  rw [hv] at h1
  have := List.count_le_length (a := ((a : Int), (b : Int))) (l := E)
  omega
theorem cntEnd {salt : ByteArray} {es : List EdD} (hG : GraphT salt es) {m n : Nat} (hr : ∀ a b, a ∈ tabI salt es b → 0 ≤ a ∧ a < n) {C : List Int} (h : CntOK n (endsI (tabI salt es) m (stepsI (nbI es) n)) C) {a b : Nat} (ha : a < n) (hb : b < n) : C.getD (a * n + b) 0 = if hasI (nbI es (a : Int)) (b : Int) then 1 else 0 := by
  rw [h.2 a b ha hb, ends_count_nb hG m n hr]
  split <;> rfl
theorem badI_up {l : List Int} {bad : List Int} {i : Nat} {y : Int} (hi : i < l.length) (h : l.getD i 0 = y) : (l.take (i + 1)).countP (fun x => hasI bad x) = (l.take i).countP (fun x => hasI bad x) + if hasI bad y then 1 else 0 := by
  have e : l.take (i + 1) = l.take i ++ [y] := by rw [List.take_add_one, List.getElem?_eq_getElem hi, ← h, getD_eq hi]; rfl
  rw [e, List.countP_append]
  congr 1
  simp [List.countP_cons]
theorem hasB_hasI (l : List Int) (x : Int) : hasB l x = hasI l x := by
  rw [Bool.eq_iff_iff, hasB_iff, hasI_iff]
theorem meetB_meetI (l r : List Int) : meetB l r = meetI l r := by
  unfold meetB meetI
  congr 1
  funext x
  exact hasB_hasI l x
/-- What the statement adds up: escapes, and steps to bad keys. -/
def escN (salt : ByteArray) (es : List EdD) (bad : List Int) (m : Nat) : Nat → Nat
  | 0 => 0
  | n + 1 => escN salt es bad m n + if hasI bad (n : Int) then 0 else escV salt es bad (n : Int) ((m : Int) + 1)
def badN (es : List EdD) (bad : List Int) : Nat → Nat
  | 0 => 0
  | n + 1 => badN es bad n + if hasI bad (n : Int) then 0 else (nbI es (n : Int)).countP fun x => hasI bad x
theorem escV_eq {salt : ByteArray} {es : List EdD} {bad : List Int} {k : Int} {m : Nat} (hm : m ≤ 99) : escV salt es bad k ((m : Int) + 1) = escI (tabI salt es) bad m k := by
  unfold escV escI escL
  rw [if_pos (lenOK_iff.2 (by omega)), show ((m : Int) + 1).toNat - 1 = m by omega, ← (tabI_perm salt es k).countP_eq]
  congr 1
  funext x
  exact (meetB_meetI _ _).symm
theorem escN_eq {salt : ByteArray} {es : List EdD} {bad : List Int} {m : Nat} (hm : m ≤ 99) (n : Nat) : escN salt es bad m n = escTo (tabI salt es) bad m n := by
  induction n with
  | zero => rfl
  | succ n ih => rw [escN, escTo, ih, hasB_hasI, escV_eq hm]
theorem badN_eq (salt : ByteArray) {es : List EdD} {bad : List Int} (n : Nat) : badN es bad n = badTo (tabI salt es) bad n := by
  induction n with
  | zero => rfl
  | succ n ih =>
    rw [badN, badTo, ih, hasB_hasI, (tabI_perm salt es (n : Int)).countP_eq]
    congr 2
    congr 1
    funext x
    exact (hasB_hasI _ _).symm
theorem esc_bound_nb {salt : ByteArray} {es : List EdD} (hG : GraphT salt es) (bad : List Int) {m : Nat} (hm : m ≤ 99) (n : Nat) (hr : ∀ a b, a ∈ tabI salt es b → 0 ≤ a ∧ a < n) : escN salt es bad m n ≤ (m + 1) * badN es bad n := by
  rw [escN_eq hm, badN_eq salt]
  exact esc_bound hG.tabs bad m n hr
theorem escV_le {salt : ByteArray} {es : List EdD} (hG : GraphT salt es) (bad : List Int) (k n : Int) : escV salt es bad k n ≤ 12 := by
  unfold escV
  split
  · exact Nat.le_trans List.countP_le_length (hG.few k)
  · omega
theorem escN_le {salt : ByteArray} {es : List EdD} (hG : GraphT salt es) (bad : List Int) (m : Nat) : ∀ n, escN salt es bad m n ≤ 12 * n
  | 0 => by simp [escN]
  | n + 1 => by
    have h1 := escN_le hG bad m n
    have h2 := escV_le hG bad (n : Int) ((m : Int) + 1)
    rw [escN]
    split <;> omega
theorem badN_le {salt : ByteArray} {es : List EdD} (hG : GraphT salt es) (bad : List Int) : ∀ n, badN es bad n ≤ 12 * n
  | 0 => by simp [badN]
  | n + 1 => by
    have h1 := badN_le hG bad n
    have h2 : (nbI es (n : Int)).countP (fun x => hasI bad x) ≤ (nbI es (n : Int)).length := List.countP_le_length
    have h3 := hG.few (n : Int)
    rw [badN]
    split <;> omega

/-- Two graphs with the same neighbours. -/
def SameNb (es es' : List EdD) : Prop := ∀ a x, x ∈ nbI es a ↔ x ∈ nbI es' a
theorem SameNb.eq {es es' : List EdD} (h : SameNb es es') : nbI es = nbI es' := funext fun a => strict_ext _ _ (nbI_strict _ _) (nbI_strict _ _) (h a)
theorem tabI_same {salt : ByteArray} {es es' : List EdD} (h : nbI es = nbI es') : tabI salt es = tabI salt es' := by
  funext k
  unfold tabI
  rw [h]
theorem routeL_same {salt : ByteArray} {es es' : List EdD} (h : SameNb es es') (k y n : Int) : routeL salt es k y n = routeL salt es' k y n := by
  unfold routeL
  rw [h.eq, tabI_same h.eq]
theorem mem_nbI_snoc {es : List EdD} {e : EdD} {a x : Int} : x ∈ nbI (es ++ [e]) a ↔ x ∈ nbI es a ∨ ((e.1 = a ∧ e.2.1 = x) ∨ (e.2.1 = a ∧ e.1 = x)) := by
  rw [mem_nbI, mem_nbI]
  constructor
  · rintro ⟨y, hy, h⟩
    rcases List.mem_append.1 hy with hy | hy
    · exact .inl ⟨y, hy, h⟩
    · rw [List.mem_singleton.1 hy] at h; exact .inr h
  · rintro (⟨y, hy, h⟩ | h)
    · exact ⟨y, List.mem_append_left _ hy, h⟩
    · exact ⟨e, by simp, h⟩
/-- An edge more, in whatever direction. -/
theorem SameNb.add {es es' es2 : List EdD} {e : EdD} {f t l : Int} (h : SameNb es es') (hft : (f = e.1 ∧ t = e.2.1) ∨ (f = e.2.1 ∧ t = e.1)) (h2 : ∀ x, x ∈ es2 ↔ x = (f, t, l) ∨ x ∈ es') : SameNb (es ++ [e]) es2 := by
  intro a x
  rw [mem_nbI_snoc, h a x, mem_nbI, mem_nbI]
  constructor
  · rintro (⟨y, hy, h⟩ | h)
    · exact ⟨y, (h2 y).2 (.inr hy), h⟩
    · refine ⟨(f, t, l), (h2 _).2 (.inl rfl), ?_⟩
      show (f = a ∧ t = x) ∨ (t = a ∧ f = x)
      rcases hft with ⟨rfl, rfl⟩ | ⟨rfl, rfl⟩
      · exact h
      · exact h.symm
  · rintro ⟨y, hy, h⟩
    rcases (h2 y).1 hy with rfl | hy
    · refine .inr ?_
      have h : (f = a ∧ t = x) ∨ (t = a ∧ f = x) := h
      rcases hft with ⟨rfl, rfl⟩ | ⟨rfl, rfl⟩
      · exact h
      · exact h.symm
    · exact .inl ⟨y, hy, h⟩
theorem SameNb.had {es es' : List EdD} {e : EdD} {f t : Int} (h : SameNb es es') (hft : (f = e.1 ∧ t = e.2.1) ∨ (f = e.2.1 ∧ t = e.1)) (h2 : ∃ x ∈ es', x.1 = f ∧ x.2.1 = t) : SameNb (es ++ [e]) es' := by
  intro a x
  rw [mem_nbI_snoc, h a x]
  constructor
  · rintro (h | h)
    · exact h
    · obtain ⟨z, hz, h3, h4⟩ := h2
      refine mem_nbI.2 ⟨z, hz, ?_⟩
      rw [h3, h4]
      rcases hft with ⟨rfl, rfl⟩ | ⟨rfl, rfl⟩
      · exact h
      · exact h.symm
  · exact .inl

/-- A number put into an ascending list. -/
theorem put_strict {l : List Int} {x : Int} {k : Nat} (hs : l.Pairwise (· < ·)) (h1 : ∀ y ∈ l.take k, y < x) (h2 : ∀ y ∈ l.drop k, x < y) : (l.take k ++ [x] ++ l.drop k).Pairwise (· < ·) := by
  rw [List.append_assoc, List.pairwise_append]
  refine ⟨hs.take, ?_, fun a ha b hb => ?_⟩
  · rw [List.singleton_append, List.pairwise_cons]
    exact ⟨h2, hs.drop⟩
  · rcases List.mem_append.1 hb with hb | hb
    · rw [List.mem_singleton.1 hb]; exact h1 a ha
    · exact Int.lt_trans (h1 a ha) (h2 b hb)
theorem mem_put {l : List Int} {x y : Int} {k : Nat} : y ∈ l.take k ++ [x] ++ l.drop k ↔ y = x ∨ y ∈ l := by
  constructor
  · intro h
    rcases List.mem_append.1 h with h | h
    · rcases List.mem_append.1 h with h | h
      · exact .inr (List.mem_of_mem_take h)
      · exact .inl (List.mem_singleton.1 h)
    · exact .inr (List.mem_of_mem_drop h)
  · rintro (rfl | h)
    · simp
    · rw [← List.take_append_drop k l] at h
      rcases List.mem_append.1 h with h | h
      · simp [h]
      · simp [h]
theorem put_drop {l : List Int} {x : Int} {k : Nat} (hs : l.Pairwise (· < ·)) (h : k < l.length → x < l.getD k 0) : ∀ y ∈ l.drop k, x < y := by
  intro y hy
  obtain ⟨i, hi, rfl⟩ := List.mem_iff_getElem.1 hy
  rw [List.getElem_drop]
  have hk : k + i < l.length := by simp at hi; omega
  have h0 := h (by omega)
  rw [getD_eq (by omega)] at h0
  cases i with
  | zero => exact h0
  | succ i => exact Int.lt_trans h0 (List.pairwise_iff_getElem.1 hs k (k + (i + 1)) (by omega) hk (by omega))
end Go.Proofs.YtfllcohnfboccaaGreat
