/- routes.Table. No statement of the seat. | routes: the walker's tables, its routes. No statement of the seat. -/
import Derived.Test.YtfllcohnfboccaaGreatMg07
import Derived.Test.YtfllcohnfboccaaGreatMg03
import Derived.Test.YtfllcohnfboccaaGreatSumPG
import Derived.Test.YtfllcohnfboccaaGreatMg06
import Derived.Test.YtfllcohnfboccaaGreatMg05
import Derived.Test.YtfllcohnfboccaaGreatMg00
import Derived.Maps.OwnSet
import Derived.Maps.OwnOps
import Derived.Maps.Views
namespace Go.Proofs.YtfllcohnfboccaaGreat
open Go.RowKit Go.Sort

theorem textP_v {P : Nat → Prop} (v : Value) (xs : List UInt8) (s : ByteArray) (w : World) (hv : Sl byRep P w v xs) (hm : xs.length ≤ 4000000) (hs : s.size ≤ 1000000) :
    Calls Tryz.prog 83 #[v, .string s] w fun e w' => ∃ u, e = .returned u ∧ ByV w' w.heap.size u (xs ++ int8 s.size ++ strL s) ∧ Ex w.heap.size none w w' :=
  (text_any v xs s w hv hm hs).mono fun _ _ ⟨ro, rc, he, ho, hx⟩ => ⟨_, he, ⟨ro, rc, by rw [List.length_append, List.length_append, int8_len, strL_len], ho⟩, hx⟩
theorem intP_v {P : Nat → Prop} (v : Value) (xs : List UInt8) (n : Int) (w : World) (hv : Sl byRep P w v xs) (hm : xs.length ≤ 5000000) :
    Calls Tryz.prog 82 #[v, .int .i64 n] w fun e w' => ∃ u, e = .returned u ∧ ByV w' w.heap.size u (xs ++ int8 n) ∧ Ex w.heap.size none w w' :=
  (int_any v xs n w hv hm).mono fun _ _ ⟨ro, rc, he, ho, hx⟩ => ⟨_, he, ⟨ro, rc, by rw [List.length_append, int8_len], ho⟩, hx⟩
/-- The bytes by which a neighbour is ordered; their digest. -/
def rankL (salt : ByteArray) (key x : Int) : List UInt8 := [] ++ int8 salt.size ++ strL salt ++ int8 key ++ int8 x
def rankB (salt : ByteArray) (key x : Int) : ByteArray := sha (rankL salt key x)
def placesL (salt : ByteArray) (key : Int) (l : List Int) : List PlD := l.map fun x => (x, rankB salt key x)
def sortP (l : List PlD) : List PlD := (Sort.insertionSort (ltOf byDig) l.toArray 0 l.length).toList
/-- The table of a key. -/
def tabI (salt : ByteArray) (es : List EdD) (key : Int) : List Int := (sortP (placesL salt key (nbI es key))).map (·.1)
theorem sortP_perm (l : List PlD) : (sortP l).Perm l := by
  have h := (insertionSort_holds swo_byDig l.toArray 0 l.length (Nat.zero_le _) (by simp)).1
  obtain ⟨h1, _, h3⟩ := h
  unfold sortP
  rw [Array.extract_eq_self_of_le (by rw [h1]; simp), Array.extract_eq_self_of_le (by simp)] at h3
  exact h3
theorem sortP_len (l : List PlD) : (sortP l).length = l.length := (sortP_perm l).length_eq
theorem tabI_perm (salt : ByteArray) (es : List EdD) (key : Int) : (tabI salt es key).Perm (nbI es key) := by
  have h := (sortP_perm (placesL salt key (nbI es key))).map (·.1)
  have e : (placesL salt key (nbI es key)).map (·.1) = nbI es key := by
    unfold placesL
    rw [List.map_map]
    exact List.map_id _
  rw [e] at h
  exact h
theorem tabI_len (salt : ByteArray) (es : List EdD) (key : Int) : (tabI salt es key).length = (nbI es key).length := (tabI_perm salt es key).length_eq
theorem tabI_nodup (salt : ByteArray) (es : List EdD) (key : Int) : (tabI salt es key).Nodup := (tabI_perm salt es key).nodup_iff.2 ((nbI_strict es key).imp fun h e => by omega)
theorem mem_tabI {salt : ByteArray} {es : List EdD} {key x : Int} : x ∈ tabI salt es key ↔ x ∈ nbI es key := (tabI_perm salt es key).mem_iff
theorem placesL_len (salt : ByteArray) (key : Int) (l : List Int) : (placesL salt key l).length = l.length := List.length_map _
theorem placesL_up {salt : ByteArray} {key : Int} {l : List Int} {k : Nat} {y : Int} (hk : k < l.length) (h : l.getD k 0 = y) : placesL salt key (l.take (k + 1)) = placesL salt key (l.take k) ++ [(y, rankB salt key y)] := by
  rw [take_getD l hk h]
  unfold placesL
  rw [List.map_append]
  rfl
theorem fst_up {l : List PlD} {k : Nat} {p : PlD} (h : l[k]? = some p) : (l.take (k + 1)).map (·.1) = (l.take k).map (·.1) ++ [p.1] := by
  rw [List.take_add_one, h]
  simp
def plRep : Rep PlD := valRep plE 2 plE_len one_plE
theorem pl_get {P : Nat → Prop} {w : World} {ao : Option Addr} {xs : List PlD} (h : SlAt plRep P w ao xs) (i : Nat) (hi : i < xs.length) :
    ∃ b off e, ao = some ⟨b, off, none⟩ ∧ P b ∧ b < w.heap.size ∧ w.cell? ⟨b, off + i * 2, none⟩ = some (.int .i64 e.1) ∧ w.cell? ⟨b, off + i * 2 + 1, none⟩ = some (.string e.2) ∧ Hid (xs[i]? = some e) := by
  obtain ⟨b, off, cs, e, hp, hr, hR⟩ := h i hi
  have hR : cs = plE xs[i] := hR
  subst hR
  exact ⟨b, off, xs[i], e, hp, rangeAt_lt hr (by rw [plE_len]; omega), hr 0 _ rfl, hr 1 _ rfl, (show _ = _ by simp [hi])⟩
theorem infoPlace : (Tryz.prog.info? 115).map (fun i => (i.zero, i.size, i.bytes)) = some (some (.agg #[.int .i64 0, .string ⟨#[]⟩]), 2, 24) := by kernel_rfl

set_option maxHeartbeats 2000000 in
set_option maxRecDepth 100000 in
theorem insPlace_nil (ao : Option Addr) (cap : Nat) (F : Value) (w : World) :
    Calls Tryz.prog 164 #[.slice ao 0 cap, .int .i64 0, .int .i64 0, F] w fun e w' => e = .returned (.tuple #[]) ∧ w = w' := by
  go_enter Tryz.func164, Tryz.ntmps164
  go_wp2
  go_loopw [8] (fun i wr => i = .int .i64 1 ∧ wr = w) (fun _ _ => 0)
  case atStart => exact ⟨by go_num, rfl⟩
  case round =>
    obtain ⟨rfl, rfl⟩ := hrel
    go_wp2
    go_end0
    exact ⟨rfl, rfl⟩
set_option maxHeartbeats 4000000 in
set_option maxRecDepth 100000 in
theorem pdqPlace_nil (ao : Option Addr) (cap : Nat) (L : Int) (F : Value) (w : World) :
    Calls Tryz.prog 127 #[.slice ao 0 cap, .int .i64 0, .int .i64 0, .int .i64 L, F] w fun e w' => e = .returned (.tuple #[]) ∧ w = w' := by
  go_enter Tryz.func127, Tryz.ntmps127
  go_wp2
  go_loopw [1, 2] (fun a b wr => a = .int .i64 0 ∧ b = .int .i64 0 ∧ wr = w) (fun _ _ _ => 0)
  case atStart => exact ⟨rfl, rfl, rfl⟩
  case round =>
    obtain ⟨rfl, rfl, rfl⟩ := hrel
    go_wp2_with (go_at_call 164; refine (insPlace_nil ao cap F _).mono ?_; rintro e w' ⟨rfl, rfl⟩)
    refine bodyPost_ret (results_none rfl _ _ _) rfl ?_
    exact ⟨rfl, rfl⟩
set_option maxHeartbeats 1000000 in
theorem sortPlaces_nil (ao : Option Addr) (cap : Nat) (F : Value) (w : World) :
    Calls Tryz.prog 84 #[.slice ao 0 cap, F] w fun e w' => e = .returned (.tuple #[]) ∧ w = w' := by
  go_enter Tryz.func84, Tryz.ntmps84
  go_wp2_with (first
    | (go_at_call 108; refine (Tryz.bitsLen 0 _ (by omega) (by omega)).mono ?_; rintro e w' ⟨rfl, rfl⟩)
    | (go_at_call 127; refine (pdqPlace_nil ao cap _ F _).mono ?_; rintro e w' ⟨rfl, rfl⟩)
    | fail)
  go_end0
  exact ⟨rfl, rfl⟩
/-- slices.SortFunc at an owned list of up to twelve places. -/
theorem sortPlacesO_any (base : Nat) (ao : Option Addr) (cap n : Nat) (l : List PlD) (w : World) (hO : OwnE plE 2 115 w base ao cap l) (hn : l.length = n) (hm : n ≤ 12) (hb : base ≤ w.heap.size) :
    Calls Tryz.prog 84 #[.slice ao n cap, .func (.func 85) #[] #[]] w fun e w' =>
      e = .returned (.tuple #[]) ∧ SlAt plRep (fun b => base ≤ b) w' ao (sortP l) ∧ Ex base none w w' := by
  rcases hO.cases with ⟨rfl, rfl, rfl⟩ | ⟨g, rfl, hg, hgl, _⟩
  · subst hn
    refine (sortPlaces_nil none 0 _ w).mono ?_
    rintro e w' ⟨rfl, rfl⟩
    have h0 : sortP [] = [] := List.eq_nil_of_length_eq_zero (sortP_len [])
    exact ⟨rfl, by rw [h0]; exact SlAt.nil _ _ _, Ex.refl _ _ _⟩
  · refine (sortPlaces_any g cap n l.toArray w (hO.holds plE_len) hgl (by simpa using hn) hm).mono ?_
    rintro e w' ⟨rfl, hH, hex⟩
    refine ⟨rfl, val_sl hg ?_, (hex.mono hb).above hg⟩
    unfold sortP
    rw [hn]
    simpa using hH

set_option maxHeartbeats 8000000 in
set_option maxRecDepth 100000 in
theorem table_any {P : Nat → Prop} (sz : Int) (eo : Option Addr) (en ec : Nat) (go : Option Addr) (gn gc : Nat) (es : List EdD) (salt : ByteArray) (key : Int) (w : World) (h : SlAt edRep P w eo es) (hn : es.length = en) (hm : en ≤ 1000) (hs : salt.size ≤ 1000) (hnb : (nbI es key).length ≤ 12) :
    Calls Tryz.prog 39 #[.agg #[.int .i64 sz, .slice eo en ec, .slice go gn gc], .string salt, .int .i64 key] w fun e w' => ∃ (ro : Option Addr) (rc n : Nat), e = .returned (.slice ro n rc) ∧ (tabI salt es key).length = n ∧ OwnI w' w.heap.size ro rc (tabI salt es key) ∧ Ex w.heap.size none w w' := by
  have HX := Lib.hid h
  have HN := Lib.hid hn
  have HNB := Lib.hid hnb
  clear h hn hnb
  go_enter Tryz.func39, Tryz.ntmps39
  go_upto_region 2 with (fail)
  obtain ⟨w1, hw1⟩ : ∃ w1 : World, w1 = w.alloc (.cells #[.int .i64 sz, .slice eo en ec, .slice go gn gc] 64) := ⟨_, rfl⟩
  have HE1 : Hid (Ex w.heap.size none w w1) := Lib.hid (by rw [hw1]; exact Ex.new _ _)
  have hz1 : w.heap.size ≤ w1.heap.size := by rw [hw1]; simp
  have hk : w1.heap[w.heap.size]? = some (.cells #[.int .i64 sz, .slice eo en ec, .slice go gn gc] 64 (0, 0)) := by rw [hw1]; exact heap_alloc_new _ _
  have k0 : w1.cell? ⟨w.heap.size, 0, none⟩ = some (.int .i64 sz) := by rw [cell_of_row _ _ _ _ _ _ hk]; rfl
  have k1 : w1.cell? ⟨w.heap.size, 1, none⟩ = some (.slice eo en ec) := by rw [cell_of_row _ _ _ _ _ _ hk]; rfl
  have k2 : w1.cell? ⟨w.heap.size, 2, none⟩ = some (.slice go gn gc) := by rw [cell_of_row _ _ _ _ _ _ hk]; rfl
  rw [← hw1]
  clear hw1 hk
  go_wp2_with fail
  refine (neigh_any sz eo en ec go gn gc es key w1 (HX.out.keep (by decide) fun b _ hb => HE1.out.block b hb (by simp)) HN.out hm).mono ?_
  rintro e w2 ⟨no, nc, n, rfl, hnn, hni, hex2⟩
  have HNN := Lib.hid hnn
  have HNI := Lib.hid hni
  have HE2 : Hid (Ex w.heap.size none w w2) := Lib.hid (HE1.out.trans hex2 hz1 (by simp))
  have hz2 : w.heap.size ≤ w2.heap.size := HE2.out.size
  have hn12 : n ≤ 12 := by rw [← hnn]; exact HNB.out
  clear hnn hni hex2 k0 k1 k2
  go_wp2
  go_loopw [7, 9, 17] (fun v _ i wr => ∃ (k : Nat) (ro : Option Addr) (rc : Nat), i = .int .i64 k ∧ k ≤ n ∧ v = .slice ro k rc ∧ Hid (OwnE plE 2 115 wr w2.heap.size ro rc (placesL salt key ((nbI es key).take k))) ∧ Ex w2.heap.size none w2 wr) (fun _ _ i _ => n - (intOf i).toNat)
  case atStart => exact ⟨0, none, 0, rfl, by omega, rfl, Lib.hid (OwnE.nil _ _ _ _ _), Ex.refl _ _ _⟩
  case round =>
    obtain ⟨k, ro, rc, rfl, hk, rfl, HO, hex⟩ := hrel
    have hsz := hex.size
    have HEX := Lib.hid hex
    clear hex
    by_cases hlt : k < n
    · have hltI : (k : Int) < (n : Int) := by omega
      obtain ⟨b, off, y, rfl, cy, HY⟩ := (HNI.out.keep HEX.out (Nat.le_refl _) (by simp)).get k (by rw [HNN.out]; exact hlt)
      have HUP : Hid (placesL salt key ((nbI es key).take (k + 1)) = placesL salt key ((nbI es key).take k) ++ [(y, rankB salt key y)]) := Lib.hid (placesL_up (by rw [HNN.out]; exact hlt) HY.out)
      have HLK : Hid ((placesL salt key ((nbI es key).take k)).length = k) := Lib.hid (by rw [placesL_len, List.length_take, HNN.out]; omega)
      go_wp2_with fail
      refine (textP_v (P := fun _ => True) (.slice none 0 0) [] salt wr ⟨none, 0, rfl, SlAt.nil _ _ _⟩ (by simp) (by omega)).mono ?_
      rintro e w3 ⟨u3, rfl, hb3, hex3⟩
      have HB3 := Lib.hid hb3
      have HE3 := Lib.hid hex3
      have hz3 := hex3.size
      clear hb3 hex3 cy
      go_wp2_with fail
      refine (intP_v u3 _ key w3 HB3.out.sl (by simp only [List.length_append, List.length_nil, int8_len, strL_len]; omega)).mono ?_
      rintro e w4 ⟨u4, rfl, hb4, hex4⟩
      have HB4 := Lib.hid hb4
      have HE4 : Hid (Ex wr.heap.size none wr w4) := Lib.hid (HE3.out.trans hex4 hz3 (by simp))
      have hz4 : wr.heap.size ≤ w4.heap.size := HE4.out.size
      clear hb4 hex4
      go_wp2_with fail
      refine (intP_v u4 _ y w4 HB4.out.sl (by simp only [List.length_append, List.length_nil, int8_len, strL_len]; omega)).mono ?_
      rintro e w5 ⟨u5, rfl, hb5, hex5⟩
      have HB5 := Lib.hid hb5
      have HE5 : Hid (Ex wr.heap.size none wr w5) := Lib.hid (HE4.out.trans hex5 hz4 (by simp))
      have hz5 : wr.heap.size ≤ w5.heap.size := HE5.out.size
      clear hb5 hex5
      go_wp2_with fail
      refine (sumP_any u5 (rankL salt key y) w5 HB5.out.sl (by unfold rankL; simp only [List.length_append, List.length_nil, int8_len, strL_len]; omega)).mono ?_
      rintro e w6 ⟨rfl, hex6⟩
      have HE6 : Hid (Ex wr.heap.size none wr w6) := Lib.hid (HE5.out.trans hex6 hz5 (by simp))
      have hz6 : wr.heap.size ≤ w6.heap.size := HE6.out.size
      obtain ⟨dg, hdg⟩ : ∃ dg, dg = sha (rankL salt key y) := ⟨_, rfl⟩
      have HDG : Hid (rankB salt key y = dg) := Lib.hid hdg.symm
      rw [← hdg]
      clear hex6 hdg
      go_wp2_with (at_builtin; refine wpList_appE2 rfl (.tmp 21) (.tmp 31) _ 115 (by rfl) Tryz.underlying110 _ 2 24 infoPlace rfl (by decide) (by decide) plE plE_len one_plE w2.heap.size ro rc k (placesL salt key ((nbI es key).take k)) HLK.out (by rfl) (some ⟨w6.heap.size, 0, none⟩) 1 1 (by rfl) [(y, dg)] rfl ((HO.out.keep HE6.out (Nat.le_refl _) (by simp)).keep (Ex.new w6 _) (Nat.le_refl _) (by simp)) (lit_cells (by rfl)) (by omega) (by simp; omega) (k + 1) (by omega) ?_; intro ro7 rc7 w7 hown7 hex7 _ _; have H7 : Hid (OwnE plE 2 115 w7 w2.heap.size ro7 rc7 (placesL salt key ((nbI es key).take (k + 1))) ∧ Ex w2.heap.size none w2 w7) := Lib.hid ⟨by rw [HUP.out, HDG.out]; exact hown7, ((HEX.out.trans HE6.out hsz (by simp)).trans ((Ex.new w6 _).mono (show w2.heap.size ≤ w6.heap.size by omega)) (Nat.le_refl _) (by simp)).trans hex7 (Nat.le_refl _) (by simp)⟩; clear hown7 hex7)
      go_roundw
      case rel => exact ⟨k + 1, ro7, rc7, by go_num, by omega, rfl, Lib.hid H7.out.1, H7.out.2⟩
      case measure => simp [intOf] <;> omega
    · have hltI : ¬ (k : Int) < (n : Int) := by omega
      have hkn : k = n := by omega
      have HOL : Hid (OwnE plE 2 115 wr w2.heap.size ro rc (placesL salt key (nbI es key))) := Lib.hid (by have h := HO.out; rw [hkn, ← HNN.out, List.take_length] at h; exact h)
      have HKN : Hid ((placesL salt key (nbI es key)).length = k) := Lib.hid (by rw [placesL_len, HNN.out, hkn])
      have hk12 : k ≤ 12 := by omega
      clear hkn HO hlt hk
      go_wp2_with (go_at_call 84; refine (sortPlacesO_any w2.heap.size ro rc k _ wr HOL.out HKN.out hk12 hsz).mono ?_; rintro e w3 ⟨rfl, hs3, hex3⟩; have HS3 := Lib.hid hs3; have HE3 : Hid (Ex w.heap.size none w w3) := Lib.hid ((HE2.out.trans HEX.out hz2 (by simp)).trans (hex3.mono hz2) (Nat.le_refl _) (by simp)); clear hs3 hex3)
      have HSL : Hid ((sortP (placesL salt key (nbI es key))).length = k) := Lib.hid (by rw [sortP_len, HKN.out])
      have hz3 : w.heap.size ≤ w3.heap.size := HE3.out.size
      go_loopw [10, 12, 38] (fun v _ i wq => ∃ (j : Nat) (qo : Option Addr) (qc : Nat), i = .int .i64 j ∧ j ≤ k ∧ v = .slice qo j qc ∧ Hid (OwnI wq w3.heap.size qo qc (((sortP (placesL salt key (nbI es key))).take j).map (·.1))) ∧ Ex w3.heap.size none w3 wq) (fun _ _ i _ => k - (intOf i).toNat)
      case atStart => exact ⟨0, none, 0, rfl, by omega, rfl, Lib.hid (OwnI.nil _ _), Ex.refl _ _ _⟩
      case round =>
        obtain ⟨j, qo, qc, rfl, hj, rfl, HQ, hexq⟩ := hrel
        have hszq := hexq.size
        have HEQ := Lib.hid hexq
        clear hexq
        by_cases hjk : j < k
        · have hjI : (j : Int) < (k : Int) := by omega
          obtain ⟨b, off, p, rfl, _, hbl, c0, c1, HP⟩ := pl_get (HS3.out.keep (by decide) (fun b _ hb => HEQ.out.block b hb (by simp))) j (by rw [HSL.out]; exact hjk)
          have HUP : Hid (((sortP (placesL salt key (nbI es key))).take (j + 1)).map (·.1) = ((sortP (placesL salt key (nbI es key))).take j).map (·.1) ++ [p.1]) := Lib.hid (fst_up HP.out)
          have HLJ : Hid ((((sortP (placesL salt key (nbI es key))).take j).map (·.1)).length = j) := Lib.hid (by rw [List.length_map, List.length_take, HSL.out]; omega)
          go_upto_region 12 with (fail)
          obtain ⟨w5, hw5⟩ : ∃ w5 : World, w5 = wr.alloc (.cells #[.int .i64 p.1, .string p.2] 115) := ⟨_, rfl⟩
          have HE5 : Hid (Ex wr.heap.size none wr w5) := Lib.hid (by rw [hw5]; exact Ex.new _ _)
          have hz5 : wr.heap.size ≤ w5.heap.size := by rw [hw5]; simp
          have hp0 : w5.cell? ⟨wr.heap.size, 0, none⟩ = some (.int .i64 p.1) := by rw [hw5, cell_of_row _ _ _ _ _ _ (heap_alloc_new wr _)]; rfl
          rw [← hw5]
          clear hw5 c0 c1
          go_wp2_with (at_builtin; refine wpList_appI (w0 := w5) rfl (.tmp 42) (.tmp 45) _ (by rfl) Tryz.underlying22 infoI3 w3.heap.size qo qc (((sortP (placesL salt key (nbI es key))).take j).map (·.1)) w5.heap.size p.1 (by rw [HLJ.out]; rfl) (by rfl) (HQ.out.keep HE5.out (Nat.le_refl _) (by simp)) (Ex.new w5 _) (by rw [cell_of_row _ _ _ _ _ _ (heap_alloc_new w5 _)]; rfl) (by rw [HLJ.out]; omega) (by omega) ?_; intro qo6 qc6 w6 hown6 hex6; rw [HLJ.out]; have H6 : Hid (OwnI w6 w3.heap.size qo6 qc6 (((sortP (placesL salt key (nbI es key))).take (j + 1)).map (·.1)) ∧ Ex w3.heap.size none w3 w6) := Lib.hid ⟨by rw [HUP.out]; exact hown6, (HEQ.out.trans HE5.out hszq (by simp)).trans hex6 (Nat.le_refl _) (by simp)⟩; clear hown6 hex6)
          go_roundw
          case rel => exact ⟨j + 1, qo6, qc6, by go_num, by omega, rfl, Lib.hid H6.out.1, H6.out.2⟩
          case measure => simp [intOf] <;> omega
        · have hjI : ¬ (j : Int) < (k : Int) := by omega
          have hjk2 : j = k := by omega
          have HT : Hid (((sortP (placesL salt key (nbI es key))).take j).map (·.1) = tabI salt es key) := Lib.hid (by rw [hjk2, ← HSL.out, List.take_length]; rfl)
          have HTL : Hid ((tabI salt es key).length = j) := Lib.hid (by rw [← HT.out, List.length_map, List.length_take, HSL.out]; omega)
          clear hjk2 hjk hj
          go_wp2
          go_ret
          refine ⟨qo, qc, j, rfl, HTL.out, ?_, HE3.out.trans HEQ.out hz3 (by simp)⟩
          have h := HQ.out
          rw [HT.out] at h
          unfold OwnI at *
          refine ⟨h.1, ?_⟩
          rcases h.2 with h | ⟨g, c, cur, e1, e2, e3⟩
          · exact .inl h
          · exact .inr ⟨g, c, cur, e1, by omega, e3⟩
end Go.Proofs.YtfllcohnfboccaaGreat

namespace Go.Proofs.YtfllcohnfboccaaGreat
open Go.RowKit Go.Sort Go.Maps

theorem idxOf_mem {l : List Int} {x : Int} (h : x ∈ l) : Lib.idxOf l x = (idxI l x : Int) := by
  have h1 := Lib.idxFrom_hit x l (idxI l x) 0 (idxI_lt h) (by rw [getD_eq (idxI_lt h)]; exact idxI_get h) fun j hj => by
    have hl : j < l.length := Nat.lt_trans hj (idxI_lt h)
    rw [getD_eq hl]
    have := List.not_of_lt_findIdx hj
    simpa using this
  rw [Nat.zero_add] at h1
  exact h1
/-- slices.Index of a number that is there. -/
theorem indexAt_any (ao : Option Addr) (n cap : Nat) (xs : List Int) (x : Int) (w : World) (hn : xs.length = n) (hm : n ≤ 1000000) (h : IntsAt w ao xs) (hx : x ∈ xs) :
    Calls Tryz.prog 105 #[.slice ao n cap, .int .i64 x] w fun e w' => e = .returned (.int .i64 (idxI xs x : Nat)) ∧ w = w' := by
  subst hn
  obtain ⟨b, off, rfl, hc⟩ := h 0 (List.length_pos_of_mem hx)
  refine (Tryz.slices_Index_int b off xs.length cap xs x w (Nat.le_refl _) (by omega) hc).mono ?_
  rintro e w' ⟨rfl, rfl⟩
  rw [List.take_length, idxOf_mem hx]
  exact ⟨rfl, rfl⟩

/-- A slice in a cell of a map, as it lies. -/
def rawE (v : Value) : Option (DataW Value × List MemPlace) := some (.held v, [])
/-- A map of tables: whatever it holds of the first keys are those of T; they lie in blocks of which P holds. -/
def TabMap (w : World) (mb N : Nat) (P : Nat → Prop) (T : Int → List Int) : Prop :=
  ∃ D : DataW Value, w.ownsMap Tryz.prog 3 rawE mb N D ∧ IsMap D ∧ ∀ k : Int, 0 ≤ k → k < 64 → Maps.has D (.int .i64 k) = true → ∃ ro rc, D.atKey (.int .i64 k) (.held (.slice none 0 0)) = .held (.slice ro (T k).length rc) ∧ SlAt intRep (fun b => b ≠ mb ∧ P b) w ro (T k)
theorem TabMap.lt {w : World} {mb N : Nat} {P : Nat → Prop} {T : Int → List Int} (h : TabMap w mb N P T) : mb < w.heap.size := by
  obtain ⟨D, h, _⟩ := h
  exact h.lt
theorem TabMap.keep {w w' : World} {mb N : Nat} {P : Nat → Prop} {T : Int → List Int} (h : TabMap w mb N P T) (hx : ∀ b, b = mb ∨ P b → b < w.heap.size → w'.heap[b]? = w.heap[b]?) : TabMap w' mb N P T := by
  have hl := h.lt
  obtain ⟨D, ⟨es, clock, h1, h2⟩, h3, h4⟩ := h
  refine ⟨D, ⟨es, clock, (hx mb (.inl rfl) hl).trans h1, h2⟩, h3, fun k k0 k1 hk => ?_⟩
  obtain ⟨ro, rc, e, hi⟩ := h4 k k0 k1 hk
  exact ⟨ro, rc, e, hi.keep (by decide) fun b hb hl => hx b (.inr hb.2) hl⟩
theorem TabMap.ex {w w' : World} {mb N B : Nat} {P : Nat → Prop} {T : Int → List Int} (h : TabMap w mb N P T) (hx : Ex B none w w') (hB : w.heap.size ≤ B) : TabMap w' mb N P T := h.keep fun b _ hb => hx.block b (by omega) (by simp)
theorem TabMap.mono {w : World} {mb N : Nat} {P P' : Nat → Prop} {T : Int → List Int} (h : TabMap w mb N P T) (hx : ∀ b, P b → b < w.heap.size → P' b) : TabMap w mb N P' T := by
  obtain ⟨D, h1, h3, h4⟩ := h
  refine ⟨D, h1, h3, fun k k0 k1 hk => ?_⟩
  obtain ⟨ro, rc, e, hi⟩ := h4 k k0 k1 hk
  exact ⟨ro, rc, e, hi.mono (by decide) fun b hb hl => ⟨hb.1, hx b hb.2 hl⟩⟩
theorem TabMap.new (w : World) (P : Nat → Prop) (T : Int → List Int) : TabMap (w.alloc (.map #[] 0)) w.heap.size 0 P T :=
  ⟨.map [], World.ownsMap_made _ _ _ _, isMap_empty, fun k _ _ h => by simp [Maps.has] at h⟩
theorem TabMap.more {w : World} {mb N M : Nat} {P : Nat → Prop} {T : Int → List Int} (h : TabMap w mb N P T) (hM : N ≤ M) : TabMap w mb M P T := by
  obtain ⟨D, h1, h2⟩ := h
  exact ⟨D, h1.mono hM, h2⟩
theorem ex_row {w w' : World} {mb : Nat} (hg : w.grownBy w' (some mb)) : Ex w.heap.size (some mb) w w' :=
  ⟨hg.os, hg.tape, hg.output, hg.size, fun k hk hne => hg.block k hk (fun e => hne e)⟩
theorem key_int (k : Int) : WideAt.IsKeyLit (.int .i64 k) := trivial
theorem tab_put {w w' : World} {mb N : Nat} {P : Nat → Prop} {T : Int → List Int} {key : Int} {ro : Option Addr} {rc n : Nat} (hi : SlAt intRep (fun b => b ≠ mb ∧ P b) w ro (T key)) (hg : w.grownBy w' (some mb))
    (D : DataW Value) (hD : IsMap D) (h4 : ∀ k : Int, 0 ≤ k → k < 64 → Maps.has D (.int .i64 k) = true → ∃ ro rc, D.atKey (.int .i64 k) (.held (.slice none 0 0)) = .held (.slice ro (T k).length rc) ∧ SlAt intRep (fun b => b ≠ mb ∧ P b) w ro (T k))
    (hn : (T key).length = n) (hown : w'.ownsMap Tryz.prog 3 rawE mb (N + 1) (D.put (.int .i64 key) (.held (.slice ro n rc)))) : TabMap w' mb (N + 1) P T := by
  subst hn
  refine ⟨_, hown, hD.put _ _, fun k k0 k1 hk => ?_⟩
  have hx := ex_row hg
  have keep : ∀ {ro : Option Addr} {xs : List Int}, SlAt intRep (fun b => b ≠ mb ∧ P b) w ro xs → SlAt intRep (fun b => b ≠ mb ∧ P b) w' ro xs := fun h => h.keep (by decide) fun b hb hl => hx.block b hl (fun e => hb.1 (Option.some.inj e))
  by_cases c : k = key
  · subst c
    exact ⟨ro, rc, by rw [atKey_put_same hD (key_int k)], keep hi⟩
  · have hne : Lit.int .i64 k ≠ Lit.int .i64 key := fun e => c (by cases e; rfl)
    rw [has_put_other hne] at hk
    obtain ⟨ro', rc', e', hi'⟩ := h4 k k0 k1 hk
    exact ⟨ro', rc', by rw [atKey_put_other hne]; exact e', keep hi'⟩
theorem slI_ints {P : Nat → Prop} {w : World} {ao : Option Addr} {xs : List Int} (h : SlAt intRep P w ao xs) : IntsAt w ao xs := (sl_ints (v := .slice ao xs.length 0) ⟨_, _, rfl, h⟩).at'
/-- The numbers of an owned slice, by its places. -/
theorem own_at {w : World} {base : Nat} {ro : Option Addr} {rc : Nat} {xs : List Int} (h : OwnI w base ro rc xs) (hne : 0 < xs.length) : ∃ g, ro = some ⟨g, 0, none⟩ ∧ base ≤ g ∧ g < w.heap.size ∧ ∀ i, i < xs.length → w.cell? ⟨g, i, none⟩ = some (.int .i64 (xs.getD i 0)) := by
  rcases h.2 with ⟨hv, h0⟩ | ⟨g, cap', cur, hv, hg, hh, _⟩
  · omega
  · simp only [Value.slice.injEq] at hv
    obtain ⟨rfl, _, rfl⟩ := hv
    refine ⟨g, rfl, hg, (Array.getElem?_eq_some_iff.1 hh).1, fun i hi => ?_⟩
    obtain ⟨b, off, e, hc⟩ := h.ints i hi
    cases e
    have := hc i hi
    rwa [Nat.zero_add] at this
theorem OwnI.sl {w : World} {base : Nat} {ro : Option Addr} {rc : Nat} {xs : List Int} (h : OwnI w base ro rc xs) : SlAt intRep (fun b => base ≤ b) w ro xs := by
  intro i hi
  obtain ⟨g, rfl, hg, _, hc⟩ := own_at h (by omega)
  refine ⟨g, 0, [.int .i64 xs[i]], rfl, hg, ?_, rfl⟩
  intro j v hv
  match j, hv with
  | 0, hv =>
    simp at hv
    subst hv
    have := hc i hi
    simp only [List.getD, List.getElem?_eq_getElem hi, Option.getD_some] at this
    simpa [intRep] using this
/-- What is asked of a graph's edges and a salt. -/
structure GraphT (salt : ByteArray) (es : List EdD) : Prop where
  tabs : Tabs (tabI salt es)
  rng : ∀ a b, a ∈ tabI salt es b → 0 ≤ a ∧ a < 64
  few : ∀ b, (nbI es b).length ≤ 12
  salt : salt.size ≤ 1000
  len : es.length ≤ 1000

set_option maxHeartbeats 8000000 in
set_option maxRecDepth 100000 in
theorem tableM_any {P Q : Nat → Prop} (sz : Int) (eo : Option Addr) (en ec : Nat) (go : Option Addr) (gn gc : Nat) (es : List EdD) (salt : ByteArray) (key : Int) (mb N : Nat) (w : World) (h : SlAt edRep P w eo es) (hn : es.length = en) (hG : GraphT salt es) (hM : TabMap w mb N Q (tabI salt es)) (hQ : ∀ b, w.heap.size ≤ b → Q b) (hN : N ≤ 1000000) (hk : 0 ≤ key ∧ key < 64) :
    Calls Tryz.prog 133 #[.agg #[.int .i64 sz, .slice eo en ec, .slice go gn gc, .string salt, .map (some mb)], .int .i64 key] w fun e w' => ∃ (ro : Option Addr) (rc n : Nat), e = .returned (.slice ro n rc) ∧ (tabI salt es key).length = n ∧ IntsAt w' ro (tabI salt es key) ∧ TabMap w' mb (N + 1) Q (tabI salt es) ∧ Ex w.heap.size (some mb) w w' := by
  have HX := Lib.hid h
  have HN := Lib.hid hn
  have HG := Lib.hid hG
  have hmb := hM.lt
  have hkey : keyOf Tryz.prog 3 (.int .i64 key) = some (.int .i64 key) := keyOf_int_mk Tryz.underlying3 (WalkArith.wf_i64 (by omega))
  obtain ⟨T, hT⟩ : ∃ T, T = tabI salt es := ⟨_, rfl⟩
  have HT := Lib.hid hT
  rw [← hT] at hM ⊢
  obtain ⟨D, hown, hD, h4⟩ := id hM
  have HMM := Lib.hid hM
  have HO := Lib.hid hown
  have HD := Lib.hid hD
  have H4 := Lib.hid h4
  clear h hn hG hT hM hown hD h4
  go_enter Tryz.func133, Tryz.ntmps133
  go_upto_region 1 with (fail)
  obtain ⟨w1, hw1⟩ : ∃ w1 : World, w1 = w.alloc (.cells #[.int .i64 sz, .slice eo en ec, .slice go gn gc, .string salt, .map (some mb)] 124) := ⟨_, rfl⟩
  have HE1 : Hid (Ex w.heap.size none w w1) := Lib.hid (by rw [hw1]; exact Ex.new _ _)
  have hz1 : w.heap.size + 1 ≤ w1.heap.size := by rw [hw1]; simp
  have HC : Hid (∀ w', Ex w1.heap.size none w1 w' → w'.cell? ⟨w.heap.size, 0, none⟩ = some (.int .i64 sz) ∧ w'.cell? ⟨w.heap.size, 1, none⟩ = some (.slice eo en ec) ∧ w'.cell? ⟨w.heap.size, 2, none⟩ = some (.slice go gn gc) ∧ w'.cell? ⟨w.heap.size, 3, none⟩ = some (.string salt) ∧ w'.cell? ⟨w.heap.size, 4, none⟩ = some (.map (some mb))) := Lib.hid (fun w' h => by
    have k : w'.heap[w.heap.size]? = some (.cells #[.int .i64 sz, .slice eo en ec, .slice go gn gc, .string salt, .map (some mb)] 124 (0, 0)) := (h.block w.heap.size (by omega) (by simp)).trans (by rw [hw1]; exact heap_alloc_new _ _)
    refine ⟨?_, ?_, ?_, ?_, ?_⟩ <;> (rw [cell_of_row _ _ _ _ _ _ k]; rfl))
  have HO1 : Hid (w1.ownsMap Tryz.prog 3 rawE mb N D) := Lib.hid (by
    obtain ⟨es, clock, q1, q2⟩ := HO.out
    exact ⟨es, clock, (HE1.out.block _ hmb (by simp)).trans q1, q2⟩)
  rw [← hw1]
  clear hw1
  obtain ⟨c0, c1, c2, c3, c4⟩ := HC.out _ (Ex.refl _ _ w1)
  cases hsn : Maps.has D (.int .i64 key) with
  | true =>
    obtain ⟨ro, rc, hat, hi⟩ := H4.out key hk.1 hk.2 hsn
    obtain ⟨n, hn⟩ : ∃ n, n = (T key).length := ⟨_, rfl⟩
    rw [← hn] at hat
    have HAT := Lib.hid hat
    have HI := Lib.hid hi
    have HLN := Lib.hid hn
    clear hat hi hn
    go_wp2_with (first
      | (at_lookup; refine wpList_lookup_own_ok _ rfl _ _ _ rfl 3 22 (int_keyed Tryz.underlying3) Tryz.underlying122 rawE (Tryz.zeroValue22 _) (.held (.slice none 0 0)) [] rfl mb N D (by rfl) HO1.out _ _ (by rfl) hkey ?_; intro v ps hv; rw [hsn]; have hv2 : v = .slice ro n rc := (by rw [HAT.out] at hv; simp [rawE] at hv; exact hv.1); rw [hv2]; clear hv hv2)
      | fail)
    go_ret
    exact ⟨ro, rc, n, rfl, HLN.out.symm, (slI_ints HI.out).keep HE1.out (Nat.le_refl _) (by simp), (HMM.out.ex HE1.out (Nat.le_refl _)).more (by omega), HE1.out.weaken _⟩
  | false =>
    go_upto_region 3 with (first
      | (at_lookup; refine wpList_lookup_own_ok _ rfl _ _ _ rfl 3 22 (int_keyed Tryz.underlying3) Tryz.underlying122 rawE (Tryz.zeroValue22 _) (.held (.slice none 0 0)) [] rfl mb N D (by rfl) HO1.out _ _ (by rfl) hkey ?_; intro v ps hv; rw [hsn]; clear hv)
      | fail)
    go_wp2_with fail
    refine (table_any sz eo en ec go gn gc es salt key w1 (HX.out.keep (by decide) fun b _ hb => HE1.out.block b hb (by simp)) HN.out (by rw [← HN.out]; exact HG.out.len) HG.out.salt (HG.out.few key)).mono ?_
    rintro e w2 ⟨ro, rc, n, rfl, hln, hown2, hex2⟩
    rw [← HT.out] at hln hown2
    have HLN := Lib.hid hln
    have HI2 : Hid (SlAt intRep (fun b => b ≠ mb ∧ Q b) w2 ro (T key)) := Lib.hid (hown2.sl.mono (by decide) fun b hb _ => ⟨by omega, hQ b (by omega)⟩)
    have HE2 : Hid (Ex w.heap.size none w w2) := Lib.hid (HE1.out.trans hex2 (by omega) (by simp))
    have hz2 : w.heap.size ≤ w2.heap.size := HE2.out.size
    clear c0 c1 c2 c3 c4
    obtain ⟨c0, c1, c2, c3, c4⟩ := HC.out _ hex2
    clear hln hown2 hex2
    have HO2 : Hid (w2.ownsMap Tryz.prog 3 rawE mb N D) := Lib.hid (by
      obtain ⟨es, clock, q1, q2⟩ := HO.out
      exact ⟨es, clock, (HE2.out.block _ hmb (by simp)).trans q1, q2⟩)
    go_wp2_with (at_mapUpdate; refine wpList_mapUpdate_own _ rfl _ _ _ _ rfl 3 22 (int_keyed Tryz.underlying3) Tryz.underlying122 rawE mb N D (by rfl) HO2.out (by unfold maxLen; omega) _ _ (.int .i64 key) (by rfl) (by rfl) hkey (.held (.slice ro n rc)) [] rfl ?_; intro w3 hown3 hgr3; have HO3 := Lib.hid hown3; have HGR := Lib.hid hgr3; clear hown3 hgr3)
    go_ret
    have hx3 := ex_row HGR.out
    refine ⟨ro, rc, n, rfl, HLN.out, slI_ints (HI2.out.keep (by decide) fun b hb hl => hx3.block b hl (fun e => hb.1 (Option.some.inj e))), ?_, (HE2.out.weaken _).trans hx3 hz2 (fun q e _ => by cases e; rfl)⟩
    refine tab_put HI2.out HGR.out D HD.out (fun k k0 k1 hk => ?_) HLN.out HO3.out
    obtain ⟨ro', rc', e', hi'⟩ := H4.out k k0 k1 hk
    exact ⟨ro', rc', e', hi'.keep (by decide) fun b _ hb => HE2.out.block b hb (by simp)⟩
end Go.Proofs.YtfllcohnfboccaaGreat
