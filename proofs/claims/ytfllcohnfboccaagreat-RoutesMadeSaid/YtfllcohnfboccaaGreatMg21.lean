/- The reference's Route and Back. No statement of the seat. | The reference's Escapes. No statement of the seat. -/
import Derived.Test.YtfllcohnfboccaaGreatTab20G
import Derived.Test.YtfllcohnfboccaaGreatMg07
namespace Go.Proofs.YtfllcohnfboccaaGreat
open Go.RowKit Go.Sort Go.Maps

theorem litc {α : Type} {enc : α → List Value} {w : World} {x : α} {t : TypeId} {cs : Array Value} (h : cs.toList = enc x) : ∀ (j : Nat) (v : Value), (flatL enc [x])[j]? = some v → (w.alloc (.cells cs t)).cell? ((⟨w.heap.size, 0, none⟩ : Addr).add j) = some v := by
  intro j v hv
  rw [Addr.add_lit, Nat.zero_add, cell_of_row _ _ _ _ _ _ (heap_alloc_new w _)]
  have e : flatL enc [x] = enc x := by simp [flatL]
  rw [e, ← h] at hv
  simpa using hv
set_option maxHeartbeats 16000000 in
set_option maxRecDepth 100000 in
theorem route20_any {P : Nat → Prop} (sz : Int) (eo : Option Addr) (en ec : Nat) (go : Option Addr) (gn gc : Nat) (es : List EdD) (salt : ByteArray) (key first n : Int) (w : World) (h : SlAt edRep P w eo es) (hn : es.length = en) (hG : GraphT salt es) :
    Calls Tryz.prog 41 #[.agg #[.int .i64 sz, .slice eo en ec, .slice go gn gc], .string salt, .int .i64 key, .int .i64 first, .int .i64 n] w fun e w' => ∃ (ro : Option Addr) (rc q : Nat), e = .returned (.slice ro q rc) ∧ (routeL salt es key first n).length = q ∧ OwnI w' w.heap.size ro rc (routeL salt es key first n) ∧ Ex w.heap.size none w w' := by
  have HX := Lib.hid h
  have HN := Lib.hid hn
  have HG := Lib.hid hG
  have hen : en ≤ 1000 := by rw [← hn]; exact hG.len
  clear h hn hG
  go_enter Tryz.func41, Tryz.ntmps41
  go_upto_region 1 with (fail)
  obtain ⟨w1, hw1⟩ : ∃ w1 : World, w1 = w.alloc (.cells #[.int .i64 sz, .slice eo en ec, .slice go gn gc] 64) := ⟨_, rfl⟩
  have HE1 : Hid (Ex w.heap.size none w w1) := Lib.hid (by rw [hw1]; exact Ex.new _ _)
  have hz1 : w.heap.size + 1 ≤ w1.heap.size := by rw [hw1]; simp
  have HC : Hid (∀ w', Ex w1.heap.size none w1 w' → w'.cell? ⟨w.heap.size, 0, none⟩ = some (.int .i64 sz) ∧ w'.cell? ⟨w.heap.size, 1, none⟩ = some (.slice eo en ec) ∧ w'.cell? ⟨w.heap.size, 2, none⟩ = some (.slice go gn gc)) := Lib.hid (fun w' h => by
    have k : w'.heap[w.heap.size]? = some (.cells #[.int .i64 sz, .slice eo en ec, .slice go gn gc] 64 (0, 0)) := (h.block w.heap.size (by omega) (by simp)).trans (by rw [hw1]; exact heap_alloc_new _ _)
    refine ⟨?_, ?_, ?_⟩ <;> (rw [cell_of_row _ _ _ _ _ _ k]; rfl))
  have HXW : Hid (∀ w', Ex w1.heap.size none w1 w' → SlAt edRep P w' eo es) := Lib.hid (fun w' h => HX.out.keep (by decide) fun b _ hb => (h.block b (by omega) (by simp)).trans (HE1.out.block b hb (by simp)))
  rw [← hw1]
  clear hw1
  obtain ⟨c0, c1, c2⟩ := HC.out _ (Ex.refl _ _ w1)
  by_cases h1 : n < 1
  · have d1 : decide (n < 1) = true := decide_eq_true h1
    have HR : Hid (routeL salt es key first n = []) := Lib.hid (by unfold routeL; rw [if_neg (fun h => by have := lenOK_iff.1 h.1; omega)])
    go_wp2
    go_ret
    exact ⟨none, 0, 0, rfl, by rw [HR.out]; rfl, by rw [HR.out]; exact OwnI.nil _ _, HE1.out⟩
  · have d1 : decide (n < 1) = false := decide_eq_false h1
    by_cases h2 : 100 < n
    · have d2 : decide (100 < n) = true := decide_eq_true h2
      have HR : Hid (routeL salt es key first n = []) := Lib.hid (by unfold routeL; rw [if_neg (fun h => by have := lenOK_iff.1 h.1; omega)])
      go_wp2
      go_ret
      exact ⟨none, 0, 0, rfl, by rw [HR.out]; rfl, by rw [HR.out]; exact OwnI.nil _ _, HE1.out⟩
    · have d2 : decide (100 < n) = false := decide_eq_false h2
      cases hb : hasI (nbI es key) first with
      | false =>
        have HR : Hid (routeL salt es key first n = []) := Lib.hid (by
          unfold routeL
          rw [if_neg (fun h => by have := hasI_iff.2 h.2; rw [hb] at this; cases this)])
        go_wp2_with (first
          | (go_at_call 38
             refine (nb20_any sz eo en ec go gn gc es key w1 (HXW.out _ (Ex.refl _ _ w1)) HN.out (by omega)).mono ?_
             rintro e w2 ⟨no2, nc2, nn2, rfl, hnn, hown, hex⟩
             have HNN2 := Lib.hid hnn
             have HNI2 := Lib.hid hown.ints
             have HEw2 : Hid (Ex w1.heap.size none w1 w2) := Lib.hid (((Ex.refl _ _ w1)).trans hex (Nat.le_refl _) (by simp))
             have hzw2 : w1.heap.size ≤ w2.heap.size := HEw2.out.size
             have hnn2 : nn2 ≤ 12 := (by rw [← hnn]; exact HG.out.few _)
             clear hnn hown hex)
          | (go_at_call 88
             refine (has11_any _ (nbI es key) first w2 ⟨no2, nc2, by rw [HNN2.out], HNI2.out⟩ (by rw [HNN2.out]; omega)).mono ?_
             rw [hb]
             rintro e w' ⟨rfl, rfl⟩)
          | fail)
        go_ret
        exact ⟨none, 0, 0, rfl, by rw [HR.out]; rfl, by rw [HR.out]; exact OwnI.nil _ _, HE1.out.trans HEw2.out (by omega) (by simp)⟩
      | true =>
        have hmem : first ∈ nbI es key := hasI_iff.1 hb
        obtain ⟨m, hm⟩ : ∃ m : Nat, n = (m : Int) + 1 := ⟨(n - 1).toNat, by omega⟩
        have hm99 : m ≤ 99 := by omega
        have HR : Hid (routeL salt es key first n = rtI (tabI salt es) (key, first) m) := Lib.hid (by rw [hm]; exact routeL_eq hm99 hmem)
        have HF : Hid (key ∈ tabI salt es first) := Lib.hid (HG.out.tabs.sym _ _ (mem_tabI.2 hmem))
        have HNM : Hid (n = (m : Int) + 1) := Lib.hid hm
        clear hm hmem
        go_upto_region 4 with (first
          | (go_at_call 38
             refine (nb20_any sz eo en ec go gn gc es key w1 (HXW.out _ (Ex.refl _ _ w1)) HN.out (by omega)).mono ?_
             rintro e w2 ⟨no2, nc2, nn2, rfl, hnn, hown, hex⟩
             have HNN2 := Lib.hid hnn
             have HNI2 := Lib.hid hown.ints
             have HEw2 : Hid (Ex w1.heap.size none w1 w2) := Lib.hid (((Ex.refl _ _ w1)).trans hex (Nat.le_refl _) (by simp))
             have hzw2 : w1.heap.size ≤ w2.heap.size := HEw2.out.size
             have hnn2 : nn2 ≤ 12 := (by rw [← hnn]; exact HG.out.few _)
             clear hnn hown hex)
          | (go_at_call 88
             refine (has11_any _ (nbI es key) first w2 ⟨no2, nc2, by rw [HNN2.out], HNI2.out⟩ (by rw [HNN2.out]; omega)).mono ?_
             rw [hb]
             rintro e w' ⟨rfl, rfl⟩)
          | fail)
        obtain ⟨w3, hw3⟩ : ∃ w3 : World, w3 = w2.alloc (.cells #[.int .i64 key, .int .i64 first] 3) := ⟨_, rfl⟩
        have HE3 : Hid (Ex w2.heap.size none w2 w3) := Lib.hid (by rw [hw3]; exact Ex.new _ _)
        have HO3 : Hid (OwnI w3 w2.heap.size (some ⟨w2.heap.size, 0, none⟩) 2 (rtI (tabI salt es) (key, first) 0)) := Lib.hid (by
          refine ⟨rfl, .inr ⟨w2.heap.size, 2, #[.int .i64 key, .int .i64 first], rfl, Nat.le_refl _, ?_, Nat.le_refl _, by decide, rfl, rfl⟩⟩
          rw [hw3]
          exact heap_alloc_new _ _)
        rw [← hw3]
        clear hw3 c0 c1 c2
        go_upto_region 5 with (fail)
        go_loopw [11, 12] (fun v i wr => ∃ (k c q : Nat) (ro : Option Addr) (rc : Nat), i = .int .i64 (c : Int) ∧ v = .slice ro q rc ∧ Hid (c = k + 1) ∧ Hid (q = k + 2) ∧ k ≤ m ∧ c ≤ 100 ∧ q ≤ 101 ∧ Hid (OwnI wr w2.heap.size ro rc (rtI (tabI salt es) (key, first) k)) ∧ Hid (Ex w2.heap.size none w2 wr)) (fun _ i _ => 101 - (intOf i).toNat)
        case atStart => exact ⟨0, 1, 2, _, 2, rfl, rfl, Lib.hid rfl, Lib.hid rfl, by omega, by omega, by omega, HO3, HE3⟩
        case round =>
          obtain ⟨k, c, q, ro, rc, rfl, rfl, HCK, HQK, hk, hc100, hq101, HO, HEX⟩ := hrel
          have hsz : w2.heap.size ≤ wr.heap.size := HEX.out.size
          have HEW : Hid (Ex w1.heap.size none w1 wr) := Lib.hid (HEw2.out.trans HEX.out hzw2 (by simp))
          have hzr : w1.heap.size ≤ wr.heap.size := HEW.out.size
          obtain ⟨c0, c1, c2⟩ := HC.out _ HEW.out
          have HL : Hid ((rtI (tabI salt es) (key, first) k).length = q) := Lib.hid (by rw [rtI_len, HQK.out])
          by_cases hlt : k < m
          · have hcn : (c : Int) < n := by have := HCK.out; have := HNM.out; omega
            have hcd : decide ((c : Int) < n) = true := decide_eq_true hcn
            have hwc : IntKind.i64.wrap ((c : Int) - 1) = (k : Int) := by have := HCK.out; rw [IntWalk.i64_in _ (by omega)]; omega
            have hkq : k < q := by have := HQK.out; omega
            have hcq : c < q := by have := HQK.out; have := HCK.out; omega
            have hkqI : (k : Int) < (q : Int) := by omega
            have hcqI : (c : Int) < (q : Int) := by omega
            obtain ⟨g1, rfl, hbg, hgl, hcs⟩ := own_at HO.out (by rw [HL.out]; omega)
            obtain ⟨a, ha⟩ : ∃ a, a = (prI (tabI salt es) (key, first) k).1 := ⟨_, rfl⟩
            obtain ⟨b, hb'⟩ : ∃ b, b = (prI (tabI salt es) (key, first) k).2 := ⟨_, rfl⟩
            have hca : wr.cell? ⟨g1, k, none⟩ = some (.int .i64 a) := by rw [hcs k (by rw [HL.out]; exact hkq), rtI_fst _ _ (Nat.le_refl k), ha]
            have hcb : wr.cell? ⟨g1, c, none⟩ = some (.int .i64 b) := by rw [hcs c (by rw [HL.out]; exact hcq), HCK.out, rtI_snd _ _ (Nat.le_refl k), hb']
            obtain ⟨y, hy⟩ : ∃ y, y = nxI (tabI salt es) a b := ⟨_, rfl⟩
            have HNX : Hid (nx20 (tabI salt es) a b = y) := Lib.hid (by
              unfold nx20
              rw [if_pos (by rw [ha, hb']; exact pr_mem HG.out.tabs (e := (key, first)) HF.out k), hy])
            have HRS : Hid (rtI (tabI salt es) (key, first) (k + 1) = rtI (tabI salt es) (key, first) k ++ [y]) := Lib.hid (by rw [rtI_succ, ← ha, ← hb', hy])
            have HFA : Hid ((flatL iE (rtI (tabI salt es) (key, first) k))[k]? = some (.int .i64 a)) := Lib.hid (by
              have hl : k < (rtI (tabI salt es) (key, first) k).length := by rw [HL.out]; exact hkq
              rw [flat_iE, List.getElem?_map, List.getElem?_eq_getElem hl, ← getD_eq hl, rtI_fst _ _ (Nat.le_refl k), ← ha]; rfl)
            have HFB : Hid ((flatL iE (rtI (tabI salt es) (key, first) k))[c]? = some (.int .i64 b)) := Lib.hid (by
              have hl : c < (rtI (tabI salt es) (key, first) k).length := by rw [HL.out]; exact hcq
              rw [flat_iE, List.getElem?_map, List.getElem?_eq_getElem hl, ← getD_eq hl, HCK.out, rtI_snd _ _ (Nat.le_refl k), ← hb']; rfl)
            clear hcs ha hb' hy
            have HQ5 : Hid (∀ w', Ex wr.heap.size none wr w' → w'.cell? ⟨w.heap.size, 0, none⟩ = some (.int .i64 sz) ∧ w'.cell? ⟨w.heap.size, 1, none⟩ = some (.slice eo en ec) ∧ w'.cell? ⟨w.heap.size, 2, none⟩ = some (.slice go gn gc) ∧ w'.cell? ⟨g1, k, none⟩ = some (.int .i64 a) ∧ w'.cell? ⟨g1, c, none⟩ = some (.int .i64 b)) := Lib.hid (fun w' h => by
              obtain ⟨z0, z1, z2⟩ := HC.out _ (HEW.out.trans h hzr (by simp))
              have hb := h.block g1 hgl (by simp)
              exact ⟨z0, z1, z2, (World.cell?_of_block (w := wr) (a := ⟨g1, k, none⟩) hb).trans hca, (World.cell?_of_block (w := wr) (a := ⟨g1, c, none⟩) hb).trans hcb⟩)
            clear c0 c1 c2 hca hcb
            go_upto_region 7 with (fail)
            go_region_held3 (fun w' => w'.cell? ⟨w.heap.size, 0, none⟩ = some (.int .i64 sz) ∧ w'.cell? ⟨w.heap.size, 1, none⟩ = some (.slice eo en ec) ∧ w'.cell? ⟨w.heap.size, 2, none⟩ = some (.slice go gn gc) ∧ w'.cell? ⟨g1, k, none⟩ = some (.int .i64 a) ∧ w'.cell? ⟨g1, c, none⟩ = some (.int .i64 b))
              (first | (obtain ⟨z0, z1, z2⟩ := HC.out _ (HEw2.out.trans HE5.out hzw2 (by simp)); exact ⟨z0, z1, z2, HS5.out.1, HS5.out.2⟩) | exact HQ5.out _ (HE4.out.trans (Ex.new w4 _) hz4 (by simp)) | exact HQ5.out _ HE4.out | exact HQ5.out _ (Ex.refl _ _ wr).drew | exact HQ5.out _ (Ex.refl _ _ wr) | fail)
              (first
                | (go_at_call 89
                   refine (next20_any sz eo en ec go gn gc es salt a b _ (HXW.out _ HEW.out.drew) HN.out HG.out).mono ?_
                   rw [HNX.out]
                   rintro e w4 ⟨rfl, hex⟩
                   have HE4 : Hid (Ex wr.heap.size none wr w4) := Lib.hid ((Ex.refl _ none wr).drew.trans hex (Nat.le_refl _) (by simp))
                   have hz4 : wr.heap.size ≤ w4.heap.size := HE4.out.size
                   clear hex)
                | (refine step_appEK (α := Int) (P := Tryz.prog) rfl (.tmp 35) (.tmp 48) 22 3 (by rfl) Tryz.underlying22 (.int .i64 0) 1 8 infoI3 rfl (by decide) (by decide) iE iE_len one_iE w2.heap.size g1 rc q (rtI (tabI salt es) (key, first) k) HL.out (by rfl) ⟨w4.heap.size, 0, none⟩ 1 1 (by rfl) [y] rfl (((HO.out.keep HE4.out (Nat.le_refl _) (by simp)).keep (Ex.new w4 _) (Nat.le_refl _) (by simp)).e) (litc (by rfl)) (by omega) (by simp; omega) (q + 1) (by omega) ?_
                   intro ro3 rc3 w5 hown hex hb hk
                   have HO5 : Hid (OwnI w5 w2.heap.size ro3 rc3 (rtI (tabI salt es) (key, first) (k + 1))) := Lib.hid (by rw [HRS.out]; exact hown.i)
                   have HE5 : Hid (Ex w2.heap.size none w2 w5) := Lib.hid (((HEX.out.trans HE4.out hsz (by simp)).trans (Ex.new w4 _) (by omega) (by simp)).trans hex (Nat.le_refl _) (by simp))
                   have HS5 : Hid (w5.cell? ⟨g1, k, none⟩ = some (.int .i64 a) ∧ w5.cell? ⟨g1, c, none⟩ = some (.int .i64 b)) := Lib.hid ⟨hk k _ HFA.out, hk c _ HFB.out⟩
                   clear hown hex hb hk)
                | fail)
            go_wp2
            go_roundw
            case rel => exact ⟨k + 1, c + 1, q + 1, ro3, rc3, by go_num, rfl, Lib.hid (by rw [HCK.out]), Lib.hid (by rw [HQK.out]), by omega, by omega, by have := HQK.out; omega, HO5, HE5⟩
            case measure => simp [intOf] <;> omega
          · have hcn : ¬ (c : Int) < n := by have := HCK.out; have := HNM.out; omega
            have hcd : decide ((c : Int) < n) = false := decide_eq_false hcn
            have HKM : Hid (rtI (tabI salt es) (key, first) k = routeL salt es key first n) := Lib.hid (by rw [HR.out, show k = m by omega])
            go_wp2
            go_ret
            exact ⟨ro, rc, q, rfl, by rw [← HKM.out]; exact HL.out, by rw [← HKM.out]; exact (HO.out.e.lowerE (by omega)).i, HE1.out.trans HEW.out (by omega) (by simp)⟩
end Go.Proofs.YtfllcohnfboccaaGreat

namespace Go.Proofs.YtfllcohnfboccaaGreat
open Go.RowKit Go.Sort Go.Maps

theorem routeL_len (salt : ByteArray) (es : List EdD) (key y n : Int) : (routeL salt es key y n).length ≤ 101 := by
  unfold routeL
  split
  · rename_i h
    have := lenOK_iff.1 h.1
    rw [rtI_len]; omega
  · simp
/-- How many routes of a key meet some keys. -/
def escC (salt : ByteArray) (es : List EdD) (keys : List Int) (key n : Int) (l : List Int) : Nat := l.countP fun y => meetI keys (routeL salt es key y n)
theorem escC_up {salt : ByteArray} {es : List EdD} {keys : List Int} {key n y : Int} {l : List Int} {i : Nat} (hi : i < l.length) (h : l.getD i 0 = y) : escC salt es keys key n (l.take (i + 1)) = escC salt es keys key n (l.take i) + if meetI keys (routeL salt es key y n) then 1 else 0 := by
  have e : l.take (i + 1) = l.take i ++ [y] := take_getD l hi h
  unfold escC
  rw [e, List.countP_append]
  congr 1
  simp [List.countP_cons]
theorem escC_eq (salt : ByteArray) (es : List EdD) (keys : List Int) (key n : Int) : escC salt es keys key n (nbI es key) = escV salt es keys key n := by
  unfold escC escV
  by_cases h : lenOK n = true
  · rw [if_pos h]
    unfold escL
    apply List.countP_congr
    intro x hx
    unfold routeL
    rw [if_pos ⟨h, hx⟩]
  · rw [if_neg h]
    apply List.countP_eq_zero.2
    intro x hx
    unfold routeL
    rw [if_neg fun hh => h hh.1]
    simp [meetI]
set_option maxHeartbeats 16000000 in
set_option maxRecDepth 100000 in
theorem escapes20_any {P : Nat → Prop} (sz : Int) (eo : Option Addr) (en ec : Nat) (go : Option Addr) (gn gc : Nat) (es : List EdD) (salt : ByteArray) (key n : Int) (ko : Option Addr) (kn kc : Nat) (keys : List Int) (w : World) (h : SlAt edRep P w eo es) (hn : es.length = en) (hG : GraphT salt es) (hk : IntsAt w ko keys) (hkn : keys.length = kn) (hkm : kn ≤ 1000000) :
    Calls Tryz.prog 46 #[.agg #[.int .i64 sz, .slice eo en ec, .slice go gn gc], .string salt, .int .i64 key, .int .i64 n, .slice ko kn kc] w fun e w' => e = .returned (.int .i64 (escV salt es keys key n : Nat)) ∧ Ex w.heap.size none w w' := by
  have HKI := Lib.hid hk
  have HKN := Lib.hid hkn
  clear hk hkn
  have HX := Lib.hid h
  have HN := Lib.hid hn
  have HG := Lib.hid hG
  have hen : en ≤ 1000 := by rw [← hn]; exact hG.len
  clear h hn hG
  go_enter Tryz.func46, Tryz.ntmps46
  go_upto_region 1 with (fail)
  obtain ⟨w1, hw1⟩ : ∃ w1 : World, w1 = w.alloc (.cells #[.int .i64 sz, .slice eo en ec, .slice go gn gc] 64) := ⟨_, rfl⟩
  have HE1 : Hid (Ex w.heap.size none w w1) := Lib.hid (by rw [hw1]; exact Ex.new _ _)
  have hz1 : w.heap.size + 1 ≤ w1.heap.size := by rw [hw1]; simp
  have HC : Hid (∀ w', Ex w1.heap.size none w1 w' → w'.cell? ⟨w.heap.size, 0, none⟩ = some (.int .i64 sz) ∧ w'.cell? ⟨w.heap.size, 1, none⟩ = some (.slice eo en ec) ∧ w'.cell? ⟨w.heap.size, 2, none⟩ = some (.slice go gn gc)) := Lib.hid (fun w' h => by
    have k : w'.heap[w.heap.size]? = some (.cells #[.int .i64 sz, .slice eo en ec, .slice go gn gc] 64 (0, 0)) := (h.block w.heap.size (by omega) (by simp)).trans (by rw [hw1]; exact heap_alloc_new _ _)
    refine ⟨?_, ?_, ?_⟩ <;> (rw [cell_of_row _ _ _ _ _ _ k]; rfl))
  have HXW : Hid (∀ w', Ex w1.heap.size none w1 w' → SlAt edRep P w' eo es) := Lib.hid (fun w' h => HX.out.keep (by decide) fun b _ hb => (h.block b (by omega) (by simp)).trans (HE1.out.block b hb (by simp)))
  rw [← hw1]
  clear hw1
  obtain ⟨c0, c1, c2⟩ := HC.out _ (Ex.refl _ _ w1)
  go_upto_region 4 with (first
    | (go_at_call 38
       refine (nb20_any sz eo en ec go gn gc es key w1 (HXW.out _ (Ex.refl _ _ w1)) HN.out (by omega)).mono ?_
       rintro e w2 ⟨no2, nc2, nn2, rfl, hnn, hown, hex⟩
       have HNN2 := Lib.hid hnn
       have HNI2 := Lib.hid hown.ints
       have HEw2 : Hid (Ex w1.heap.size none w1 w2) := Lib.hid (((Ex.refl _ _ w1)).trans hex (Nat.le_refl _) (by simp))
       have hzw2 : w1.heap.size ≤ w2.heap.size := HEw2.out.size
       have hnn2 : nn2 ≤ 12 := (by rw [← hnn]; exact HG.out.few _)
       clear hnn hown hex)
    | fail)
  clear c0 c1 c2
  go_loopw [12, 13, 14, 15] (fun o i u1 u2 wr => ∃ (k x : Nat), i = .int .i64 (k : Int) ∧ k ≤ nn2 ∧ o = .int .i64 (x : Int) ∧ Hid (x = escC salt es keys key n ((nbI es key).take k)) ∧ x ≤ k ∧ Hid (Ex w2.heap.size none w2 wr)) (fun _ i _ _ _ => nn2 - (intOf i).toNat)
  case atStart => exact ⟨0, 0, rfl, by omega, rfl, Lib.hid rfl, by omega, Lib.hid (Ex.refl _ _ _)⟩
  case round =>
    obtain ⟨i, x, rfl, hi, rfl, HX2, hxi, HEX⟩ := hrel
    have hsz : w2.heap.size ≤ wr.heap.size := HEX.out.size
    have HEW : Hid (Ex w1.heap.size none w1 wr) := Lib.hid (HEw2.out.trans HEX.out hzw2 (by simp))
    have hzr : w1.heap.size ≤ wr.heap.size := HEW.out.size
    obtain ⟨c0, c1, c2⟩ := HC.out _ HEW.out
    by_cases hlt : i < nn2
    · have hltI : (i : Int) < (nn2 : Int) := by omega
      have hltd : decide (i < nn2) = true := decide_eq_true hlt
      obtain ⟨b, off, y, hno, cy, HY⟩ := (HNI2.out.keep HEX.out (Nat.le_refl _) (by simp)).get i (by rw [HNN2.out]; exact hlt)
      subst hno
      obtain ⟨R, hR⟩ : ∃ R, R = routeL salt es key y n := ⟨_, rfl⟩
      have HUP : Hid (escC salt es keys key n ((nbI es key).take (i + 1)) = x + if meetI keys R then 1 else 0) := Lib.hid (by rw [escC_up (by rw [HNN2.out]; exact hlt) HY.out, ← HX2.out, hR])
      have HQ6 : Hid (∀ w', Ex wr.heap.size none wr w' → w'.cell? ⟨w.heap.size, 0, none⟩ = some (.int .i64 sz) ∧ w'.cell? ⟨w.heap.size, 1, none⟩ = some (.slice eo en ec) ∧ w'.cell? ⟨w.heap.size, 2, none⟩ = some (.slice go gn gc) ∧ w'.cell? ⟨b, off + i, none⟩ = some (.int .i64 y)) := Lib.hid (fun w' h => by
        obtain ⟨z0, z1, z2⟩ := HC.out _ (HEW.out.trans h hzr (by simp))
        exact ⟨z0, z1, z2, (World.cell?_of_block (w := wr) (h.block b (World.block_lt_of_cell? wr _ cy) (by simp))).trans cy⟩)
      go_upto_region 6 with (fail)
      go_region_held3 (fun w' => w'.cell? ⟨w.heap.size, 0, none⟩ = some (.int .i64 sz) ∧ w'.cell? ⟨w.heap.size, 1, none⟩ = some (.slice eo en ec) ∧ w'.cell? ⟨w.heap.size, 2, none⟩ = some (.slice go gn gc) ∧ w'.cell? ⟨b, off + i, none⟩ = some (.int .i64 y)) (first | exact HQ6.out _ HE4.out | exact HQ6.out _ (Ex.refl _ _ wr).drew | exact HQ6.out _ (Ex.refl _ _ wr) | fail)
        (first
          | (go_at_call 41
             refine (route20_any sz eo en ec go gn gc es salt key y n _ (HXW.out _ HEW.out.drew) HN.out HG.out).mono ?_
             rw [← hR]
             rintro e w4 ⟨ro, rc, q, rfl, hq, hri, hex⟩
             have HQL := Lib.hid hq
             have hq101 : q ≤ 101 := (by rw [← hq, hR]; exact routeL_len _ _ _ _ _)
             have HRI := Lib.hid hri.ints
             have HE4 : Hid (Ex wr.heap.size none wr w4) := Lib.hid ((Ex.refl _ none wr).drew.trans hex (Nat.le_refl _) (by simp))
             clear hq hri hex)
          | fail)
      clear c0 c1 c2 cy hR
      have hz4 : wr.heap.size ≤ w4.heap.size := HE4.out.size
      have HEW4 : Hid (Ex w2.heap.size none w2 w4) := Lib.hid (HEX.out.trans HE4.out hsz (by simp))
      have HKW : Hid (IntsAt w4 ko keys) := Lib.hid (HKI.out.keep ((HE1.out.trans HEw2.out (by omega) (by simp)).trans HEW4.out (by have := HE1.out.size; omega) (by simp)) (Nat.le_refl _) (by simp))
      go_upto_region 8 with (fail)
      go_loop [12, 15] (fun oo kk => ∃ k : Nat, kk = .int .i64 (k : Int) ∧ k ≤ q ∧ oo = .int .i64 (x : Int) ∧ Hid (meetI keys (R.take k) = false)) (fun _ kk => q - (intOf kk).toNat)
      case atStart => exact ⟨0, rfl, by omega, rfl, Lib.hid rfl⟩
      case round =>
        obtain ⟨k, rfl, hk, rfl, HNO⟩ := hrel
        by_cases hkq : k < q
        · have hkI : (k : Int) < (q : Int) := by omega
          have hkd : decide (k < q) = true := decide_eq_true hkq
          obtain ⟨b2, off2, z, hro, cz, HZ⟩ := HRI.out.get k (by rw [HQL.out]; exact hkq)
          subst hro
          cases hb : hasI keys z with
          | true =>
            have HHIT : Hid (x + 1 = escC salt es keys key n ((nbI es key).take (i + 1))) := Lib.hid (by rw [HUP.out, meetI_hit (by rw [HQL.out]; exact hkq) HZ.out hb]; rfl)
            go_wp2_with (first
              | (go_at_call 88; refine (has11_any _ keys z w4 ⟨ko, kc, by rw [HKN.out], HKW.out⟩ (by rw [HKN.out]; omega)).mono ?_; rw [hb]; rintro e w' ⟨rfl, rfl⟩)
              | fail)
            go_roundw
            case rel => exact ⟨i + 1, x + 1, by go_num, by omega, by go_num, HHIT, by omega, HEW4⟩
            case measure => simp [intOf] <;> omega
          | false =>
            have HNO2 : Hid (meetI keys (R.take (k + 1)) = false) := Lib.hid (by rw [meetI_up (by rw [HQL.out]; exact hkq) HZ.out, HNO.out, hb]; rfl)
            go_wp2_with (first
              | (go_at_call 88; refine (has11_any _ keys z w4 ⟨ko, kc, by rw [HKN.out], HKW.out⟩ (by rw [HKN.out]; omega)).mono ?_; rw [hb]; rintro e w' ⟨rfl, rfl⟩)
              | fail)
            go_round
            case rel => exact ⟨k + 1, by go_num, by omega, rfl, HNO2⟩
            case measure => simp [intOf] <;> omega
        · have hkI : ¬ (k : Int) < (q : Int) := by omega
          have hkd : decide (k < q) = false := decide_eq_false hkq
          have HMISS : Hid (x = escC salt es keys key n ((nbI es key).take (i + 1))) := Lib.hid (by
            have h := HNO.out
            rw [List.take_of_length_le (by rw [HQL.out]; omega)] at h
            rw [HUP.out, h]; rfl)
          go_wp2
          go_roundw
          case rel => exact ⟨i + 1, x, by go_num, by omega, rfl, HMISS, by omega, HEW4⟩
          case measure => simp [intOf] <;> omega
    · have hltI : ¬ (i : Int) < (nn2 : Int) := by omega
      have hltd : decide (i < nn2) = false := decide_eq_false hlt
      have HV : Hid (escV salt es keys key n = x) := Lib.hid (by
        rw [← escC_eq, HX2.out, List.take_of_length_le (by rw [HNN2.out]; omega)])
      go_wp2
      go_ret
      exact ⟨by rw [HV.out]; rfl, HE1.out.trans HEW.out (by omega) (by simp)⟩
end Go.Proofs.YtfllcohnfboccaaGreat
