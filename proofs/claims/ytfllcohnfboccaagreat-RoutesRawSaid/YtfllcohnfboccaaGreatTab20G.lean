/- The reference's rank, Table and next. No statement of the seat. -/
import Derived.Test.YtfllcohnfboccaaGreatMg16
import Derived.Test.YtfllcohnfboccaaGreatTabPlainG
import Derived.Test.YtfllcohnfboccaaGreatMg06
import Derived.Test.YtfllcohnfboccaaGreatSum01G
namespace Go.Proofs.YtfllcohnfboccaaGreat
open Go.RowKit Go.Sort Go.Maps

set_option maxHeartbeats 2000000 in
theorem rank20_any (salt : ByteArray) (key x : Int) (w : World) (hs : salt.size ≤ 1000) :
    Calls Tryz.prog 87 #[.string salt, .int .i64 key, .int .i64 x] w fun e w' => e = .returned (.string (rankB salt key x)) ∧ Ex w.heap.size none w w' := by
  go_enter Tryz.func87, Tryz.ntmps87
  go_wp2_with fail
  refine (text02_v (P := fun _ => True) (.slice none 0 0) [] salt w ⟨none, 0, rfl, SlAt.nil _ _ _⟩ (by simp) (by omega)).mono ?_
  rintro e w3 ⟨u3, rfl, hb3, hex3⟩
  have HB3 := Lib.hid hb3
  have HE3 := Lib.hid hex3
  have hz3 := hex3.size
  clear hb3 hex3
  go_wp2_with fail
  refine (int02_v u3 _ key w3 HB3.out.sl (by simp only [List.length_append, List.length_nil, int8_len, strL_len]; omega)).mono ?_
  rintro e w4 ⟨u4, rfl, hb4, hex4⟩
  have HB4 := Lib.hid hb4
  have HE4 : Hid (Ex w.heap.size none w w4) := Lib.hid (HE3.out.trans hex4 hz3 (by simp))
  have hz4 : w.heap.size ≤ w4.heap.size := HE4.out.size
  clear hb4 hex4
  go_wp2_with fail
  refine (int02_v u4 _ x w4 HB4.out.sl (by simp only [List.length_append, List.length_nil, int8_len, strL_len]; omega)).mono ?_
  rintro e w5 ⟨u5, rfl, hb5, hex5⟩
  have HB5 := Lib.hid hb5
  have HE5 : Hid (Ex w.heap.size none w w5) := Lib.hid (HE4.out.trans hex5 hz4 (by simp))
  have hz5 : w.heap.size ≤ w5.heap.size := HE5.out.size
  clear hb5 hex5
  go_wp2_with fail
  refine (sum01_any u5 (rankL salt key x) w5 HB5.out.sl (by unfold rankL; simp only [List.length_append, List.length_nil, int8_len, strL_len]; omega)).mono ?_
  rintro e w6 ⟨rfl, hex6⟩
  have HE6 : Hid (Ex w.heap.size none w w6) := Lib.hid (HE5.out.trans hex6 hz5 (by simp))
  clear hex6
  go_wp2
  go_ret
  exact ⟨rfl, HE6.out⟩

/-- A text, as one cell. -/
def sE (s : ByteArray) : List Value := [.string s]
theorem sE_len (s : ByteArray) : (sE s).length = 1 := rfl
theorem one_sE : ∀ s, ∀ v ∈ sE s, v.oneCell' = true := fun s v hv => by simp [sE] at hv; subst hv; rfl
theorem infoStr : (Tryz.prog.info? 9).map (fun i => (i.zero, i.size, i.bytes)) = some (some (.string ⟨#[]⟩), 1, 16) := by kernel_rfl
theorem OwnE.capE {α : Type} {enc : α → List Value} {k : Nat} {e : TypeId} {w : World} {base : Nat} {ao : Option Addr} {cap : Nat} {xs : List α} (h : OwnE enc k e w base ao cap xs) : xs.length ≤ cap := by
  rcases h.cases with ⟨_, _, e⟩ | ⟨g, _, _, _, h⟩
  · rw [e]; exact Nat.zero_le _
  · exact h
theorem OwnE.slV {α : Type} [Inhabited α] {enc : α → List Value} {k : Nat} {hk : ∀ x, (enc x).length = k} {h1 : ∀ x, ∀ v ∈ enc x, v.oneCell' = true} {e : TypeId} {w : World} {base : Nat} {ao : Option Addr} {cap : Nat} {xs : List α} (h : OwnE enc k e w base ao cap xs) : SlAt (valRep enc k hk h1) (fun b => base ≤ b) w ao xs := by
  rcases h.cases with ⟨_, _, e⟩ | ⟨g, e, hg, _, _⟩
  · rw [e]; exact SlAt.nil _ _ _
  · subst e; exact val_sl hg (h.holds hk)
theorem src1 {α : Type} [Inhabited α] {enc : α → List Value} (hk : ∀ x, (enc x).length = 1) (h1 : ∀ x, ∀ v ∈ enc x, v.oneCell' = true) {e : TypeId} {w : World} {base : Nat} {ao : Option Addr} {cap : Nat} {xs : List α} (h : OwnE enc 1 e w base ao cap xs) (k c : Nat) (hk' : k ≤ xs.length) (hc : xs.length ≤ c) :
    ((xs.take k).length = 0 ∨ ∃ ad, ao = some ad ∧ ∀ (j : Nat) (v : Value), (flatL enc (xs.take k))[j]? = some v → w.cell? (ad.add j) = some v) ∧
    ((xs.drop k).length = 0 ∨ ∃ ad, (if c = k then ao else ao.map (fun x => x.add k)) = some ad ∧ ∀ (j : Nat) (v : Value), (flatL enc (xs.drop k))[j]? = some v → w.cell? (ad.add j) = some v) := by
  have hs := h.slV (hk := hk) (h1 := h1)
  refine ⟨val_cells (by decide) (hs.take k), ?_⟩
  by_cases e : k = xs.length
  · exact .inl (by rw [List.length_drop]; omega)
  · obtain ⟨b, off, _, e2, _⟩ := hs 0 (by omega)
    subst e2
    rw [if_neg (by omega)]
    rcases val_cells (by decide) (hs.drop k) with h2 | ⟨ad, e3, h3⟩
    · exact .inl h2
    · refine .inr ⟨ad, ?_, h3⟩
      rw [← e3]
      show some ((⟨b, off, none⟩ : Addr).add k) = _
      rw [Addr.add_lit]
      simp [valRep]
theorem OwnE.cellS {e : TypeId} {w : World} {base : Nat} {ro : Option Addr} {rc : Nat} {xs : List ByteArray} (h : OwnE sE 1 e w base ro rc xs) (j : Nat) (hj : j < xs.length) : ∃ g x, ro = some ⟨g, 0, none⟩ ∧ w.cell? ⟨g, j, none⟩ = some (.string x) ∧ Hid (xs[j]? = some x) := by
  rcases h.cases with ⟨_, _, h0⟩ | ⟨g, rfl, _, _, _⟩
  · subst h0; simp at hj
  · refine ⟨g, xs[j], rfl, ?_, Lib.hid (by simp [hj])⟩
    have := ((h.holds sE_len).cell (i := j) (c := 0) (by simpa using hj) (by decide)).1
    rw [getElem!_pos xs.toArray j (by simpa using hj), List.getElem_toArray] at this
    simpa [sE] using this
/-- Where who comes to a key from a neighbour goes on, by the reference. -/
def nx20 (T : Int → List Int) (a b : Int) : Int := if a ∈ T b then nxI T a b else -1
theorem idxI_at {l : List Int} {x : Int} {k : Nat} (hk : k < l.length) (h : ∀ y ∈ l.take k, y ≠ x) (hx : l.getD k 0 = x) : idxI l x = k := by
  unfold idxI
  rw [List.findIdx_eq hk]
  refine ⟨by rw [← getD_eq hk, hx]; simp, fun j hj => ?_⟩
  have := h l[j] (List.mem_iff_getElem.2 ⟨j, by simp; omega, by simp⟩)
  simpa using this
set_option maxHeartbeats 16000000 in
set_option maxRecDepth 100000 in
theorem table20_any {P : Nat → Prop} (sz : Int) (eo : Option Addr) (en ec : Nat) (go : Option Addr) (gn gc : Nat) (es : List EdD) (salt : ByteArray) (key : Int) (w : World) (h : SlAt edRep P w eo es) (hn : es.length = en) (hG : GraphT salt es) :
    Calls Tryz.prog 40 #[.agg #[.int .i64 sz, .slice eo en ec, .slice go gn gc], .string salt, .int .i64 key] w fun e w' => ∃ (ro : Option Addr) (rc n : Nat), e = .returned (.slice ro n rc) ∧ (tabI salt es key).length = n ∧ OwnI w' w.heap.size ro rc (tabI salt es key) ∧ Ex w.heap.size none w w' := by
  have HX := Lib.hid h
  have HN := Lib.hid hn
  have HG := Lib.hid hG
  have hen : en ≤ 1000 := by rw [← hn]; exact hG.len
  clear h hn hG
  go_enter Tryz.func40, Tryz.ntmps40
  go_upto_region 1 with (fail)
  obtain ⟨w1, hw1⟩ : ∃ w1 : World, w1 = w.alloc (.cells #[.int .i64 sz, .slice eo en ec, .slice go gn gc] 64) := ⟨_, rfl⟩
  have HE1 : Hid (Ex w.heap.size none w w1) := Lib.hid (by rw [hw1]; exact Ex.new _ _)
  have hz1 : w.heap.size + 1 ≤ w1.heap.size := by rw [hw1]; simp
  have HC : Hid (∀ w', Ex w1.heap.size none w1 w' → w'.cell? ⟨w.heap.size, 0, none⟩ = some (.int .i64 sz) ∧ w'.cell? ⟨w.heap.size, 1, none⟩ = some (.slice eo en ec) ∧ w'.cell? ⟨w.heap.size, 2, none⟩ = some (.slice go gn gc)) := Lib.hid (fun w' h => by
    have k : w'.heap[w.heap.size]? = some (.cells #[.int .i64 sz, .slice eo en ec, .slice go gn gc] 64 (0, 0)) := (h.block w.heap.size (by omega) (by simp)).trans (by rw [hw1]; exact heap_alloc_new _ _)
    refine ⟨?_, ?_, ?_⟩ <;> (rw [cell_of_row _ _ _ _ _ _ k]; rfl))
  have HXW : Hid (∀ w', Ex w1.heap.size none w1 w' → SlAt edRep P w' eo es) := Lib.hid (fun w' h => HX.out.keep (by decide) fun b _ hb => (h.block b (by omega) (by simp)).trans (HE1.out.block b hb (by simp)))
  rw [← hw1]
  clear hw1
  obtain ⟨c0, c1, c2⟩ := HC.out _ (Ex.refl _ _ w1)
  go_wp2_with fail
  refine (nb20_any sz eo en ec go gn gc es key w1 (HXW.out _ (Ex.refl _ _ _)) HN.out (by omega)).mono ?_
  rintro e w2 ⟨no, nc, n, rfl, hnn, hni, hex2⟩
  have HNN := Lib.hid hnn
  have HNI := Lib.hid hni.ints
  have HE2 : Hid (Ex w.heap.size none w w2) := Lib.hid (HE1.out.trans hex2 (by omega) (by simp))
  have hz2 : w.heap.size ≤ w2.heap.size := HE2.out.size
  have hn12 : n ≤ 12 := by rw [← hnn]; exact HG.out.few key
  have hs1 : salt.size ≤ 1000 := HG.out.salt
  clear hnn hni hex2 c0 c1 c2
  go_upto_region 5 with (fail)
  go_loopw [8, 9, 10, 11, 12] (fun v u i _ _ wr => ∃ (k : Nat) (ro : Option Addr) (rc : Nat) (qo : Option Addr) (qc : Nat), i = .int .i64 (k : Int) ∧ k ≤ n ∧ v = .slice ro k rc ∧ u = .slice qo k qc ∧ Hid (OwnE iE 1 3 wr w2.heap.size ro rc ((ordP salt key ((nbI es key).take k)).map (·.1))) ∧ Hid (OwnE sE 1 9 wr w2.heap.size qo qc ((ordP salt key ((nbI es key).take k)).map (·.2))) ∧ Hid (Ex w2.heap.size none w2 wr)) (fun _ _ i _ _ _ => n - (intOf i).toNat)
  case atStart => exact ⟨0, none, 0, none, 0, rfl, by omega, rfl, rfl, Lib.hid (OwnE.nil _ _ _ _ _), Lib.hid (OwnE.nil _ _ _ _ _), Lib.hid (Ex.refl _ _ _)⟩
  case round =>
    obtain ⟨i, ro, rc, qo, qc, rfl, hi, rfl, rfl, HO, HQ, HEX⟩ := hrel
    have hsz : w2.heap.size ≤ wr.heap.size := HEX.out.size
    by_cases hlt : i < n
    · have hltI : (i : Int) < (n : Int) := by omega
      have hltd : decide (i < n) = true := decide_eq_true hlt
      obtain ⟨b, off, y, hno, cy, HY⟩ := (HNI.out.keep HEX.out (Nat.le_refl _) (by simp)).get i (by rw [HNN.out]; exact hlt)
      subst hno
      have hbl : b < wr.heap.size := World.block_lt_of_cell? wr _ cy
      have HCY : Hid (∀ w', Ex wr.heap.size none wr w' → w'.cell? ⟨b, off + i, none⟩ = some (.int .i64 y)) := Lib.hid (fun w' h => (World.cell?_of_block (w := wr) (h.block b hbl (by simp))).trans cy)
      obtain ⟨acc, hacc⟩ : ∃ acc, acc = ordP salt key ((nbI es key).take i) := ⟨_, rfl⟩
      have HUP : Hid (ordP salt key ((nbI es key).take (i + 1)) = insI (ltOf byDig) acc (y, rankB salt key y)) := Lib.hid (by rw [hacc]; exact ordP_up (by rw [HNN.out]; exact hlt) HY.out)
      have HAL : Hid (acc.length = i) := Lib.hid (by rw [hacc, ordP_len, List.length_take, HNN.out]; omega)
      rw [← hacc] at HO HQ
      clear hacc
      obtain ⟨dg, hdg⟩ : ∃ dg, dg = rankB salt key y := ⟨_, rfl⟩
      have HDG := Lib.hid hdg
      rw [← hdg] at HUP
      clear hdg
      go_upto_region 9 with (first
        | (go_at_call 87
           refine (rank20_any salt key y wr hs1).mono ?_
           rw [← HDG.out]
           rintro e w3 ⟨rfl, hex⟩
           have HE3 : Hid (Ex wr.heap.size none wr w3) := Lib.hid hex
           have hz3 : wr.heap.size ≤ w3.heap.size := hex.size
           have HO3 := Lib.hid (HO.out.keep hex (Nat.le_refl _) (by simp))
           have HQ3 := Lib.hid (HQ.out.keep hex (Nat.le_refl _) (by simp))
           clear hex)
        | fail)
      clear cy
      go_loop [12] (fun kk => ∃ k : Nat, kk = .int .i64 (k : Int) ∧ k ≤ i ∧ Hid (posI (ltOf byDig) acc (y, dg) acc.length = posI (ltOf byDig) acc (y, dg) k)) (fun kk => (intOf kk).toNat)
      case atStart => exact ⟨i, rfl, Nat.le_refl _, Lib.hid (by rw [HAL.out])⟩
      case round =>
        obtain ⟨k, rfl, hk, HP⟩ := hrel
        by_cases h0 : 0 < k
        · have h0I : (0 : Int) < (k : Int) := by omega
          have h0d : decide (0 < k) = true := decide_eq_true h0
          obtain ⟨j, hj⟩ : ∃ j, j + 1 = k := ⟨k - 1, by omega⟩
          have hwk : IntKind.i64.wrap ((k : Int) - 1) = (j : Int) := by rw [show (k : Int) - 1 = j by omega]; exact IntWalk.i64_in _ (by omega)
          have hji : j < i := by omega
          have hjiI : (j : Int) < (i : Int) := by omega
          obtain ⟨qg, s, hqo, cs, HS⟩ := HQ3.out.cellS j (by rw [List.length_map, HAL.out]; exact hji)
          subst hqo
          obtain ⟨p, hp⟩ : ∃ p, acc[j]? = some p := ⟨_, List.getElem?_eq_getElem (by rw [HAL.out]; exact hji)⟩
          have hps : p.2 = s := by
            have h := HS.out
            rw [List.getElem?_map, hp] at h
            simpa using h
          cases hb : Op.bytesLess dg.toList s.toList with
          | true =>
            have HP2 : Hid (posI (ltOf byDig) acc (y, dg) acc.length = posI (ltOf byDig) acc (y, dg) j) := Lib.hid (by
              rw [HP.out, ← hj]
              exact posI_go hp (by rw [ltOf_byDig]; show lssS dg p.2 = true; rw [hps]; exact hb))
            clear hp hps
            go_wp2
            go_round
            case rel => exact ⟨j, rfl, by omega, HP2⟩
            case measure => simp [intOf] <;> omega
          | false =>
            have HPK : Hid (posI (ltOf byDig) acc (y, dg) acc.length = k) := Lib.hid (by
              rw [HP.out, ← hj]
              exact posI_stop hp (by rw [ltOf_byDig]; show lssS dg p.2 = false; rw [hps]; exact hb))
            clear hp hps
            go_upto_region 11 with (fail)
            clear hb cs hj hwk hji hjiI h0 h0I h0d
            obtain ⟨q0, hq0⟩ : ∃ q0 : Option Addr, q0 = some ⟨qg, 0, none⟩ := ⟨_, rfl⟩
            rw [← hq0] at HQ3 ⊢
            clear hq0
            have HLL : Hid ((acc.map (·.1)).length = i) := Lib.hid (by rw [List.length_map, HAL.out])
            have HTLwc : Hid (((acc.map (·.1)).take k).length = k) := Lib.hid (by rw [List.length_take, HLL.out]; omega)
            have HDLwc : Hid (((acc.map (·.1)).drop k).length = i - k) := Lib.hid (by rw [List.length_drop, HLL.out])
            obtain ⟨a2wc, ha2wc⟩ : ∃ a2, (if rc = k then ro else ro.map (fun x => x.add k)) = a2 := ⟨_, rfl⟩
            have HSTwc : Hid (∀ w', Ex w3.heap.size none w3 w' → (((acc.map (·.1)).take k).length = 0 ∨ ∃ ad, ro = some ad ∧ ∀ (j : Nat) (v : Value), (flatL iE ((acc.map (·.1)).take k))[j]? = some v → w'.cell? (ad.add j) = some v) ∧ (((acc.map (·.1)).drop k).length = 0 ∨ ∃ ad, a2wc = some ad ∧ ∀ (j : Nat) (v : Value), (flatL iE ((acc.map (·.1)).drop k))[j]? = some v → w'.cell? (ad.add j) = some v)) := Lib.hid (fun w' h => by
              have h := src1 iE_len one_iE (HO3.out.keep h (Nat.le_refl _) (by simp)) k rc (by rw [HLL.out]; omega) (by have := HO3.out.capE; omega)
              rw [ha2wc] at h
              exact h)
            have hcapnwc : i ≤ rc := by have h := HO3.out.capE; rw [HLL.out] at h; exact h
            have g1wc : (0 : Int) ≤ (k : Int) := by omega
            have g2wc : (k : Int) ≤ (i : Int) := by omega
            have g3wc : (i : Int) ≤ (rc : Int) := by omega
            have g4wc : (k : Int) ≤ (rc : Int) := by omega
            go_region_held3 (fun w' => w'.cell? ⟨b, off + i, none⟩ = some (.int .i64 y))
              (first | exact HCY.out _ (HE3.out.trans HEwc.out hz3 (by simp)) | exact HCY.out _ (HE3.out.trans HEwb.out hz3 (by simp)) | exact HCY.out _ ((HE3.out.trans HEwa.out hz3 (by simp)).alloc (by omega) _) | exact HCY.out _ (HE3.out.trans HEwa.out hz3 (by simp)) | exact HCY.out _ (HE3.out.drew.alloc (by first | omega | (simp; omega)) _) | exact HCY.out _ (HE3.out.alloc (by omega) _).drew | exact HCY.out _ (HE3.out.alloc (by omega) _) | exact HCY.out _ HE3.out.drew | exact HCY.out _ HE3.out | fail)
              (first
                | (refine step_appE (α := Int) (P := Tryz.prog) rfl (.const (.slice none 0 0)) (.tmp 46) 22 3 (by rfl) Tryz.underlying22 (.int .i64 0) 1 8 infoI3 rfl (by decide) (by decide) iE iE_len one_iE w3.heap.size none 0 0 [] rfl (by rfl) ro k rc (by rfl) ((acc.map (·.1)).take k) HTLwc.out (OwnE.nil _ _ _ _ _) (HSTwc.out _ (Ex.refl _ _ w3).drew).1 (by omega) (Nat.le_refl _) k (by omega) ?_
                   intro ro6 rc6 wa hown hex hb hr
                   have HEwa : Hid (Ex w3.heap.size none w3 wa) := Lib.hid ((Ex.refl _ _ w3).drew.trans hex (Nat.le_refl _) (by simp))
                   have HOwa := Lib.hid hown
                   have hzwa : w3.heap.size ≤ wa.heap.size := HEwa.out.size
                   clear hown hex hb hr)
                | (refine step_appE (α := Int) (P := Tryz.prog) rfl (.const (.slice none 0 0)) (.tmp 46) 22 3 (by rfl) Tryz.underlying22 (.int .i64 0) 1 8 infoI3 rfl (by decide) (by decide) iE iE_len one_iE w3.heap.size none 0 0 [] rfl (by rfl) ro k rc (by rfl) ((acc.map (·.1)).take k) HTLwc.out (OwnE.nil _ _ _ _ _) (HSTwc.out _ (Ex.new w3 _).drew).1 (by omega) (by simp) k (by omega) ?_
                   intro ro6 rc6 wa hown hex hb hr
                   have HLBwc : Hid (∀ (j : Nat) (v : Value), (flatL iE [y])[j]? = some v → wa.cell? ((⟨w3.heap.size, 0, none⟩ : Addr).add j) = some v) := Lib.hid (fun j v hv => by
                     have hh : wa.heap[w3.heap.size]? = some (.cells #[.int .i64 y] 3 (0, 0)) := (hb _ (by simp) (by simp [rowOf])).trans (heap_alloc_new w3 _)
                     rw [Addr.add_lit, Nat.zero_add, cell_of_row _ _ _ _ _ _ hh]
                     have e : flatL iE [y] = [.int .i64 y] := rfl
                     rw [e] at hv
                     simpa using hv)
                   have HEwa : Hid (Ex w3.heap.size none w3 wa) := Lib.hid ((Ex.new w3 _).drew.trans hex (Nat.le_refl _) (by simp))
                   have HOwa := Lib.hid hown
                   have hzwa : w3.heap.size ≤ wa.heap.size := HEwa.out.size
                   clear hown hex hb hr)
                | (refine step_appE (α := Int) (P := Tryz.prog) rfl (.tmp 47) (.tmp 52) 22 3 (by rfl) Tryz.underlying22 (.int .i64 0) 1 8 infoI3 rfl (by decide) (by decide) iE iE_len one_iE w3.heap.size ro6 rc6 k ([] ++ (acc.map (·.1)).take k) (by rw [List.nil_append]; exact HTLwc.out) (by rfl) (some ⟨w3.heap.size, 0, none⟩) 1 1 (by rfl) [y] rfl HOwa.out (.inr ⟨_, rfl, HLBwc.out⟩) (by omega) hzwa (k + 1) (by omega) ?_
                   intro ro7 rc7 wb hown hex hb hr
                   have HEwb : Hid (Ex w3.heap.size none w3 wb) := Lib.hid (HEwa.out.trans hex (Nat.le_refl _) (by simp))
                   have HOwb := Lib.hid hown
                   have hzwb : w3.heap.size ≤ wb.heap.size := HEwb.out.size
                   clear hown hex hb hr)
                | (refine step_appE (α := Int) (P := Tryz.prog) rfl (.tmp 47) (.tmp 52) 22 3 (by rfl) Tryz.underlying22 (.int .i64 0) 1 8 infoI3 rfl (by decide) (by decide) iE iE_len one_iE w3.heap.size ro6 rc6 k ([] ++ (acc.map (·.1)).take k) (by rw [List.nil_append]; exact HTLwc.out) (by rfl) (some ⟨wa.heap.size, 0, none⟩) 1 1 (by rfl) [y] rfl (HOwa.out.keep (Ex.new wa _) (Nat.le_refl _) (by simp)) (lit_cells (by rfl)) (by omega) (by simp; omega) (k + 1) (by omega) ?_
                   intro ro7 rc7 wb hown hex hb hr
                   have HEwb : Hid (Ex w3.heap.size none w3 wb) := Lib.hid ((HEwa.out.trans (Ex.new wa _) hzwa (by simp)).trans hex (Nat.le_refl _) (by simp))
                   have HOwb := Lib.hid hown
                   have hzwb : w3.heap.size ≤ wb.heap.size := HEwb.out.size
                   clear hown hex hb hr)
                | (refine step_appE (α := Int) (P := Tryz.prog) rfl (.tmp 53) (.tmp 56) 22 3 (by rfl) Tryz.underlying22 (.int .i64 0) 1 8 infoI3 rfl (by decide) (by decide) iE iE_len one_iE w3.heap.size ro7 rc7 (k + 1) ([] ++ (acc.map (·.1)).take k ++ [y]) (by rw [List.nil_append, List.length_append, HTLwc.out]; rfl) (by rfl) a2wc (i - k) (rc - k) (by rfl) ((acc.map (·.1)).drop k) HDLwc.out HOwb.out (HSTwc.out _ HEwb.out).2 (by omega) hzwb (i + 1) (by omega) ?_
                   intro ro8 rc8 wc hown hex hb hr
                   have HEwc : Hid (Ex w3.heap.size none w3 wc) := Lib.hid (HEwb.out.trans hex (Nat.le_refl _) (by simp))
                   have HOwc : Hid (OwnE iE 1 3 wc w3.heap.size ro8 rc8 ((acc.map (·.1)).take k ++ [y] ++ (acc.map (·.1)).drop k)) := Lib.hid (by rw [List.nil_append] at hown; exact hown)
                   have hzwc : w3.heap.size ≤ wc.heap.size := HEwc.out.size
                   clear hown hex hb hr)
                | fail)
            all_goals (
              clear HLL ha2wc
              have HLL : Hid ((acc.map (·.2)).length = i) := Lib.hid (by rw [List.length_map, HAL.out])
              have HQ4 := Lib.hid (HQ3.out.keep HEwc.out (Nat.le_refl _) (by simp))
              go_upto_region 12 with (fail)
              have HTLwf : Hid (((acc.map (·.2)).take k).length = k) := Lib.hid (by rw [List.length_take, HLL.out]; omega)
              have HDLwf : Hid (((acc.map (·.2)).drop k).length = i - k) := Lib.hid (by rw [List.length_drop, HLL.out])
              obtain ⟨a2wf, ha2wf⟩ : ∃ a2, (if qc = k then q0 else q0.map (fun x => x.add k)) = a2 := ⟨_, rfl⟩
              have HSTwf : Hid (∀ w', Ex wc.heap.size none wc w' → (((acc.map (·.2)).take k).length = 0 ∨ ∃ ad, q0 = some ad ∧ ∀ (j : Nat) (v : Value), (flatL sE ((acc.map (·.2)).take k))[j]? = some v → w'.cell? (ad.add j) = some v) ∧ (((acc.map (·.2)).drop k).length = 0 ∨ ∃ ad, a2wf = some ad ∧ ∀ (j : Nat) (v : Value), (flatL sE ((acc.map (·.2)).drop k))[j]? = some v → w'.cell? (ad.add j) = some v)) := Lib.hid (fun w' h => by
                have h := src1 sE_len one_sE (HQ4.out.keep h (Nat.le_refl _) (by simp)) k qc (by rw [HLL.out]; omega) (by have := HQ4.out.capE; omega)
                rw [ha2wf] at h
                exact h)
              have hcapnwf : i ≤ qc := by have h := HQ4.out.capE; rw [HLL.out] at h; exact h
              have g1wf : (0 : Int) ≤ (k : Int) := by omega
              have g2wf : (k : Int) ≤ (i : Int) := by omega
              have g3wf : (i : Int) ≤ (qc : Int) := by omega
              have g4wf : (k : Int) ≤ (qc : Int) := by omega
              go_region_held3 (fun _ => True)
                (exact trivial)
                (first
                  | (refine step_appE (α := ByteArray) (P := Tryz.prog) rfl (.const (.slice none 0 0)) (.tmp 60) 119 9 (by rfl) Tryz.underlying119 (.string ⟨#[]⟩) 1 16 infoStr rfl (by decide) (by decide) sE sE_len one_sE wc.heap.size none 0 0 [] rfl (by rfl) q0 k qc (by rfl) ((acc.map (·.2)).take k) HTLwf.out (OwnE.nil _ _ _ _ _) (HSTwf.out _ (Ex.refl _ _ wc).drew).1 (by omega) (Nat.le_refl _) k (by omega) ?_
                     intro qo6 qc6 wd hown hex hb hr
                     have HEwd : Hid (Ex wc.heap.size none wc wd) := Lib.hid ((Ex.refl _ _ wc).drew.trans hex (Nat.le_refl _) (by simp))
                     have HOwd := Lib.hid hown
                     have hzwd : wc.heap.size ≤ wd.heap.size := HEwd.out.size
                     clear hown hex hb hr)
                  | (refine step_appE (α := ByteArray) (P := Tryz.prog) rfl (.const (.slice none 0 0)) (.tmp 60) 119 9 (by rfl) Tryz.underlying119 (.string ⟨#[]⟩) 1 16 infoStr rfl (by decide) (by decide) sE sE_len one_sE wc.heap.size none 0 0 [] rfl (by rfl) q0 k qc (by rfl) ((acc.map (·.2)).take k) HTLwf.out (OwnE.nil _ _ _ _ _) (HSTwf.out _ (Ex.new wc _).drew).1 (by omega) (by simp) k (by omega) ?_
                     intro qo6 qc6 wd hown hex hb hr
                     have HLBwf : Hid (∀ (j : Nat) (v : Value), (flatL sE [dg])[j]? = some v → wd.cell? ((⟨wc.heap.size, 0, none⟩ : Addr).add j) = some v) := Lib.hid (fun j v hv => by
                       have hh : wd.heap[wc.heap.size]? = some (.cells #[.string dg] 9 (0, 0)) := (hb _ (by simp) (by simp [rowOf])).trans (heap_alloc_new wc _)
                       rw [Addr.add_lit, Nat.zero_add, cell_of_row _ _ _ _ _ _ hh]
                       have e : flatL sE [dg] = [.string dg] := rfl
                       rw [e] at hv
                       simpa using hv)
                     have HEwd : Hid (Ex wc.heap.size none wc wd) := Lib.hid ((Ex.new wc _).drew.trans hex (Nat.le_refl _) (by simp))
                     have HOwd := Lib.hid hown
                     have hzwd : wc.heap.size ≤ wd.heap.size := HEwd.out.size
                     clear hown hex hb hr)
                  | (refine step_appE (α := ByteArray) (P := Tryz.prog) rfl (.tmp 61) (.tmp 63) 119 9 (by rfl) Tryz.underlying119 (.string ⟨#[]⟩) 1 16 infoStr rfl (by decide) (by decide) sE sE_len one_sE wc.heap.size qo6 qc6 k ([] ++ (acc.map (·.2)).take k) (by rw [List.nil_append]; exact HTLwf.out) (by rfl) (some ⟨wc.heap.size, 0, none⟩) 1 1 (by rfl) [dg] rfl HOwd.out (.inr ⟨_, rfl, HLBwf.out⟩) (by omega) hzwd (k + 1) (by omega) ?_
                     intro qo7 qc7 we hown hex hb hr
                     have HEwe : Hid (Ex wc.heap.size none wc we) := Lib.hid (HEwd.out.trans hex (Nat.le_refl _) (by simp))
                     have HOwe := Lib.hid hown
                     have hzwe : wc.heap.size ≤ we.heap.size := HEwe.out.size
                     clear hown hex hb hr)
                  | (refine step_appE (α := ByteArray) (P := Tryz.prog) rfl (.tmp 61) (.tmp 63) 119 9 (by rfl) Tryz.underlying119 (.string ⟨#[]⟩) 1 16 infoStr rfl (by decide) (by decide) sE sE_len one_sE wc.heap.size qo6 qc6 k ([] ++ (acc.map (·.2)).take k) (by rw [List.nil_append]; exact HTLwf.out) (by rfl) (some ⟨wd.heap.size, 0, none⟩) 1 1 (by rfl) [dg] rfl (HOwd.out.keep (Ex.new wd _) (Nat.le_refl _) (by simp)) (lit_cells (by rfl)) (by omega) (by simp; omega) (k + 1) (by omega) ?_
                     intro qo7 qc7 we hown hex hb hr
                     have HEwe : Hid (Ex wc.heap.size none wc we) := Lib.hid ((HEwd.out.trans (Ex.new wd _) hzwd (by simp)).trans hex (Nat.le_refl _) (by simp))
                     have HOwe := Lib.hid hown
                     have hzwe : wc.heap.size ≤ we.heap.size := HEwe.out.size
                     clear hown hex hb hr)
                  | (refine step_appE (α := ByteArray) (P := Tryz.prog) rfl (.tmp 64) (.tmp 67) 119 9 (by rfl) Tryz.underlying119 (.string ⟨#[]⟩) 1 16 infoStr rfl (by decide) (by decide) sE sE_len one_sE wc.heap.size qo7 qc7 (k + 1) ([] ++ (acc.map (·.2)).take k ++ [dg]) (by rw [List.nil_append, List.length_append, HTLwf.out]; rfl) (by rfl) a2wf (i - k) (qc - k) (by rfl) ((acc.map (·.2)).drop k) HDLwf.out HOwe.out (HSTwf.out _ HEwe.out).2 (by omega) hzwe (i + 1) (by omega) ?_
                     intro qo8 qc8 wf hown hex hb hr
                     have HEwf : Hid (Ex wc.heap.size none wc wf) := Lib.hid (HEwe.out.trans hex (Nat.le_refl _) (by simp))
                     have HOwf : Hid (OwnE sE 1 9 wf wc.heap.size qo8 qc8 ((acc.map (·.2)).take k ++ [dg] ++ (acc.map (·.2)).drop k)) := Lib.hid (by rw [List.nil_append] at hown; exact hown)
                     have hzwf : wc.heap.size ≤ wf.heap.size := HEwf.out.size
                     clear hown hex hb hr)
                  | fail)
              all_goals (
                clear ha2wf
                go_wp2
                go_roundw
                case rel =>
                  refine ⟨i + 1, ro8, rc8, qo8, qc8, by go_num, by omega, rfl, rfl, Lib.hid ?_, Lib.hid ?_, Lib.hid ((((HEX.out.trans HE3.out hsz (by simp)).trans HEwc.out (by omega) (by simp))).trans HEwf.out (by omega) (by simp))⟩
                  · rw [HUP.out, insI_at HPK.out, List.map_append, List.map_append, List.map_take, List.map_drop]
                    exact (HOwc.out.keep HEwf.out (Nat.le_refl _) (by simp)).lowerE (by omega)
                  · rw [HUP.out, insI_at HPK.out, List.map_append, List.map_append, List.map_take, List.map_drop]
                    exact HOwf.out.lowerE (by omega)
                case measure => simp [intOf] <;> omega))
        · have h0I : ¬ (0 : Int) < (k : Int) := by omega
          have h0d : decide (0 < k) = false := decide_eq_false h0
          have HPK : Hid (posI (ltOf byDig) acc (y, dg) acc.length = k) := Lib.hid (by rw [HP.out, show k = 0 by omega]; rfl)
          obtain ⟨q0, hq0⟩ : ∃ q0 : Option Addr, q0 = qo := ⟨_, rfl⟩
          subst hq0
          go_upto_region 11 with (fail)
          clear h0 h0I h0d
          have HLL : Hid ((acc.map (·.1)).length = i) := Lib.hid (by rw [List.length_map, HAL.out])
          have HTLwc : Hid (((acc.map (·.1)).take k).length = k) := Lib.hid (by rw [List.length_take, HLL.out]; omega)
          have HDLwc : Hid (((acc.map (·.1)).drop k).length = i - k) := Lib.hid (by rw [List.length_drop, HLL.out])
          obtain ⟨a2wc, ha2wc⟩ : ∃ a2, (if rc = k then ro else ro.map (fun x => x.add k)) = a2 := ⟨_, rfl⟩
          have HSTwc : Hid (∀ w', Ex w3.heap.size none w3 w' → (((acc.map (·.1)).take k).length = 0 ∨ ∃ ad, ro = some ad ∧ ∀ (j : Nat) (v : Value), (flatL iE ((acc.map (·.1)).take k))[j]? = some v → w'.cell? (ad.add j) = some v) ∧ (((acc.map (·.1)).drop k).length = 0 ∨ ∃ ad, a2wc = some ad ∧ ∀ (j : Nat) (v : Value), (flatL iE ((acc.map (·.1)).drop k))[j]? = some v → w'.cell? (ad.add j) = some v)) := Lib.hid (fun w' h => by
            have h := src1 iE_len one_iE (HO3.out.keep h (Nat.le_refl _) (by simp)) k rc (by rw [HLL.out]; omega) (by have := HO3.out.capE; omega)
            rw [ha2wc] at h
            exact h)
          have hcapnwc : i ≤ rc := by have h := HO3.out.capE; rw [HLL.out] at h; exact h
          have g1wc : (0 : Int) ≤ (k : Int) := by omega
          have g2wc : (k : Int) ≤ (i : Int) := by omega
          have g3wc : (i : Int) ≤ (rc : Int) := by omega
          have g4wc : (k : Int) ≤ (rc : Int) := by omega
          go_region_held3 (fun w' => w'.cell? ⟨b, off + i, none⟩ = some (.int .i64 y))
            (first | exact HCY.out _ (HE3.out.trans HEwc.out hz3 (by simp)) | exact HCY.out _ (HE3.out.trans HEwb.out hz3 (by simp)) | exact HCY.out _ ((HE3.out.trans HEwa.out hz3 (by simp)).alloc (by omega) _) | exact HCY.out _ (HE3.out.trans HEwa.out hz3 (by simp)) | exact HCY.out _ (HE3.out.drew.alloc (by first | omega | (simp; omega)) _) | exact HCY.out _ (HE3.out.alloc (by omega) _).drew | exact HCY.out _ (HE3.out.alloc (by omega) _) | exact HCY.out _ HE3.out.drew | exact HCY.out _ HE3.out | fail)
            (first
              | (refine step_appE (α := Int) (P := Tryz.prog) rfl (.const (.slice none 0 0)) (.tmp 46) 22 3 (by rfl) Tryz.underlying22 (.int .i64 0) 1 8 infoI3 rfl (by decide) (by decide) iE iE_len one_iE w3.heap.size none 0 0 [] rfl (by rfl) ro k rc (by rfl) ((acc.map (·.1)).take k) HTLwc.out (OwnE.nil _ _ _ _ _) (HSTwc.out _ (Ex.refl _ _ w3).drew).1 (by omega) (Nat.le_refl _) k (by omega) ?_
                 intro ro6 rc6 wa hown hex hb hr
                 have HEwa : Hid (Ex w3.heap.size none w3 wa) := Lib.hid ((Ex.refl _ _ w3).drew.trans hex (Nat.le_refl _) (by simp))
                 have HOwa := Lib.hid hown
                 have hzwa : w3.heap.size ≤ wa.heap.size := HEwa.out.size
                 clear hown hex hb hr)
              | (refine step_appE (α := Int) (P := Tryz.prog) rfl (.const (.slice none 0 0)) (.tmp 46) 22 3 (by rfl) Tryz.underlying22 (.int .i64 0) 1 8 infoI3 rfl (by decide) (by decide) iE iE_len one_iE w3.heap.size none 0 0 [] rfl (by rfl) ro k rc (by rfl) ((acc.map (·.1)).take k) HTLwc.out (OwnE.nil _ _ _ _ _) (HSTwc.out _ (Ex.new w3 _).drew).1 (by omega) (by simp) k (by omega) ?_
                 intro ro6 rc6 wa hown hex hb hr
                 have HLBwc : Hid (∀ (j : Nat) (v : Value), (flatL iE [y])[j]? = some v → wa.cell? ((⟨w3.heap.size, 0, none⟩ : Addr).add j) = some v) := Lib.hid (fun j v hv => by
                   have hh : wa.heap[w3.heap.size]? = some (.cells #[.int .i64 y] 3 (0, 0)) := (hb _ (by simp) (by simp [rowOf])).trans (heap_alloc_new w3 _)
                   rw [Addr.add_lit, Nat.zero_add, cell_of_row _ _ _ _ _ _ hh]
                   have e : flatL iE [y] = [.int .i64 y] := rfl
                   rw [e] at hv
                   simpa using hv)
                 have HEwa : Hid (Ex w3.heap.size none w3 wa) := Lib.hid ((Ex.new w3 _).drew.trans hex (Nat.le_refl _) (by simp))
                 have HOwa := Lib.hid hown
                 have hzwa : w3.heap.size ≤ wa.heap.size := HEwa.out.size
                 clear hown hex hb hr)
              | (refine step_appE (α := Int) (P := Tryz.prog) rfl (.tmp 47) (.tmp 52) 22 3 (by rfl) Tryz.underlying22 (.int .i64 0) 1 8 infoI3 rfl (by decide) (by decide) iE iE_len one_iE w3.heap.size ro6 rc6 k ([] ++ (acc.map (·.1)).take k) (by rw [List.nil_append]; exact HTLwc.out) (by rfl) (some ⟨w3.heap.size, 0, none⟩) 1 1 (by rfl) [y] rfl HOwa.out (.inr ⟨_, rfl, HLBwc.out⟩) (by omega) hzwa (k + 1) (by omega) ?_
                 intro ro7 rc7 wb hown hex hb hr
                 have HEwb : Hid (Ex w3.heap.size none w3 wb) := Lib.hid (HEwa.out.trans hex (Nat.le_refl _) (by simp))
                 have HOwb := Lib.hid hown
                 have hzwb : w3.heap.size ≤ wb.heap.size := HEwb.out.size
                 clear hown hex hb hr)
              | (refine step_appE (α := Int) (P := Tryz.prog) rfl (.tmp 47) (.tmp 52) 22 3 (by rfl) Tryz.underlying22 (.int .i64 0) 1 8 infoI3 rfl (by decide) (by decide) iE iE_len one_iE w3.heap.size ro6 rc6 k ([] ++ (acc.map (·.1)).take k) (by rw [List.nil_append]; exact HTLwc.out) (by rfl) (some ⟨wa.heap.size, 0, none⟩) 1 1 (by rfl) [y] rfl (HOwa.out.keep (Ex.new wa _) (Nat.le_refl _) (by simp)) (lit_cells (by rfl)) (by omega) (by simp; omega) (k + 1) (by omega) ?_
                 intro ro7 rc7 wb hown hex hb hr
                 have HEwb : Hid (Ex w3.heap.size none w3 wb) := Lib.hid ((HEwa.out.trans (Ex.new wa _) hzwa (by simp)).trans hex (Nat.le_refl _) (by simp))
                 have HOwb := Lib.hid hown
                 have hzwb : w3.heap.size ≤ wb.heap.size := HEwb.out.size
                 clear hown hex hb hr)
              | (refine step_appE (α := Int) (P := Tryz.prog) rfl (.tmp 53) (.tmp 56) 22 3 (by rfl) Tryz.underlying22 (.int .i64 0) 1 8 infoI3 rfl (by decide) (by decide) iE iE_len one_iE w3.heap.size ro7 rc7 (k + 1) ([] ++ (acc.map (·.1)).take k ++ [y]) (by rw [List.nil_append, List.length_append, HTLwc.out]; rfl) (by rfl) a2wc (i - k) (rc - k) (by rfl) ((acc.map (·.1)).drop k) HDLwc.out HOwb.out (HSTwc.out _ HEwb.out).2 (by omega) hzwb (i + 1) (by omega) ?_
                 intro ro8 rc8 wc hown hex hb hr
                 have HEwc : Hid (Ex w3.heap.size none w3 wc) := Lib.hid (HEwb.out.trans hex (Nat.le_refl _) (by simp))
                 have HOwc : Hid (OwnE iE 1 3 wc w3.heap.size ro8 rc8 ((acc.map (·.1)).take k ++ [y] ++ (acc.map (·.1)).drop k)) := Lib.hid (by rw [List.nil_append] at hown; exact hown)
                 have hzwc : w3.heap.size ≤ wc.heap.size := HEwc.out.size
                 clear hown hex hb hr)
              | fail)
          all_goals (
            clear HLL ha2wc
            have HLL : Hid ((acc.map (·.2)).length = i) := Lib.hid (by rw [List.length_map, HAL.out])
            have HQ4 := Lib.hid (HQ3.out.keep HEwc.out (Nat.le_refl _) (by simp))
            go_upto_region 12 with (fail)
            have HTLwf : Hid (((acc.map (·.2)).take k).length = k) := Lib.hid (by rw [List.length_take, HLL.out]; omega)
            have HDLwf : Hid (((acc.map (·.2)).drop k).length = i - k) := Lib.hid (by rw [List.length_drop, HLL.out])
            obtain ⟨a2wf, ha2wf⟩ : ∃ a2, (if qc = k then q0 else q0.map (fun x => x.add k)) = a2 := ⟨_, rfl⟩
            have HSTwf : Hid (∀ w', Ex wc.heap.size none wc w' → (((acc.map (·.2)).take k).length = 0 ∨ ∃ ad, q0 = some ad ∧ ∀ (j : Nat) (v : Value), (flatL sE ((acc.map (·.2)).take k))[j]? = some v → w'.cell? (ad.add j) = some v) ∧ (((acc.map (·.2)).drop k).length = 0 ∨ ∃ ad, a2wf = some ad ∧ ∀ (j : Nat) (v : Value), (flatL sE ((acc.map (·.2)).drop k))[j]? = some v → w'.cell? (ad.add j) = some v)) := Lib.hid (fun w' h => by
              have h := src1 sE_len one_sE (HQ4.out.keep h (Nat.le_refl _) (by simp)) k qc (by rw [HLL.out]; omega) (by have := HQ4.out.capE; omega)
              rw [ha2wf] at h
              exact h)
            have hcapnwf : i ≤ qc := by have h := HQ4.out.capE; rw [HLL.out] at h; exact h
            have g1wf : (0 : Int) ≤ (k : Int) := by omega
            have g2wf : (k : Int) ≤ (i : Int) := by omega
            have g3wf : (i : Int) ≤ (qc : Int) := by omega
            have g4wf : (k : Int) ≤ (qc : Int) := by omega
            go_region_held3 (fun _ => True)
              (exact trivial)
              (first
                | (refine step_appE (α := ByteArray) (P := Tryz.prog) rfl (.const (.slice none 0 0)) (.tmp 60) 119 9 (by rfl) Tryz.underlying119 (.string ⟨#[]⟩) 1 16 infoStr rfl (by decide) (by decide) sE sE_len one_sE wc.heap.size none 0 0 [] rfl (by rfl) q0 k qc (by rfl) ((acc.map (·.2)).take k) HTLwf.out (OwnE.nil _ _ _ _ _) (HSTwf.out _ (Ex.refl _ _ wc).drew).1 (by omega) (Nat.le_refl _) k (by omega) ?_
                   intro qo6 qc6 wd hown hex hb hr
                   have HEwd : Hid (Ex wc.heap.size none wc wd) := Lib.hid ((Ex.refl _ _ wc).drew.trans hex (Nat.le_refl _) (by simp))
                   have HOwd := Lib.hid hown
                   have hzwd : wc.heap.size ≤ wd.heap.size := HEwd.out.size
                   clear hown hex hb hr)
                | (refine step_appE (α := ByteArray) (P := Tryz.prog) rfl (.const (.slice none 0 0)) (.tmp 60) 119 9 (by rfl) Tryz.underlying119 (.string ⟨#[]⟩) 1 16 infoStr rfl (by decide) (by decide) sE sE_len one_sE wc.heap.size none 0 0 [] rfl (by rfl) q0 k qc (by rfl) ((acc.map (·.2)).take k) HTLwf.out (OwnE.nil _ _ _ _ _) (HSTwf.out _ (Ex.new wc _).drew).1 (by omega) (by simp) k (by omega) ?_
                   intro qo6 qc6 wd hown hex hb hr
                   have HLBwf : Hid (∀ (j : Nat) (v : Value), (flatL sE [dg])[j]? = some v → wd.cell? ((⟨wc.heap.size, 0, none⟩ : Addr).add j) = some v) := Lib.hid (fun j v hv => by
                     have hh : wd.heap[wc.heap.size]? = some (.cells #[.string dg] 9 (0, 0)) := (hb _ (by simp) (by simp [rowOf])).trans (heap_alloc_new wc _)
                     rw [Addr.add_lit, Nat.zero_add, cell_of_row _ _ _ _ _ _ hh]
                     have e : flatL sE [dg] = [.string dg] := rfl
                     rw [e] at hv
                     simpa using hv)
                   have HEwd : Hid (Ex wc.heap.size none wc wd) := Lib.hid ((Ex.new wc _).drew.trans hex (Nat.le_refl _) (by simp))
                   have HOwd := Lib.hid hown
                   have hzwd : wc.heap.size ≤ wd.heap.size := HEwd.out.size
                   clear hown hex hb hr)
                | (refine step_appE (α := ByteArray) (P := Tryz.prog) rfl (.tmp 61) (.tmp 63) 119 9 (by rfl) Tryz.underlying119 (.string ⟨#[]⟩) 1 16 infoStr rfl (by decide) (by decide) sE sE_len one_sE wc.heap.size qo6 qc6 k ([] ++ (acc.map (·.2)).take k) (by rw [List.nil_append]; exact HTLwf.out) (by rfl) (some ⟨wc.heap.size, 0, none⟩) 1 1 (by rfl) [dg] rfl HOwd.out (.inr ⟨_, rfl, HLBwf.out⟩) (by omega) hzwd (k + 1) (by omega) ?_
                   intro qo7 qc7 we hown hex hb hr
                   have HEwe : Hid (Ex wc.heap.size none wc we) := Lib.hid (HEwd.out.trans hex (Nat.le_refl _) (by simp))
                   have HOwe := Lib.hid hown
                   have hzwe : wc.heap.size ≤ we.heap.size := HEwe.out.size
                   clear hown hex hb hr)
                | (refine step_appE (α := ByteArray) (P := Tryz.prog) rfl (.tmp 61) (.tmp 63) 119 9 (by rfl) Tryz.underlying119 (.string ⟨#[]⟩) 1 16 infoStr rfl (by decide) (by decide) sE sE_len one_sE wc.heap.size qo6 qc6 k ([] ++ (acc.map (·.2)).take k) (by rw [List.nil_append]; exact HTLwf.out) (by rfl) (some ⟨wd.heap.size, 0, none⟩) 1 1 (by rfl) [dg] rfl (HOwd.out.keep (Ex.new wd _) (Nat.le_refl _) (by simp)) (lit_cells (by rfl)) (by omega) (by simp; omega) (k + 1) (by omega) ?_
                   intro qo7 qc7 we hown hex hb hr
                   have HEwe : Hid (Ex wc.heap.size none wc we) := Lib.hid ((HEwd.out.trans (Ex.new wd _) hzwd (by simp)).trans hex (Nat.le_refl _) (by simp))
                   have HOwe := Lib.hid hown
                   have hzwe : wc.heap.size ≤ we.heap.size := HEwe.out.size
                   clear hown hex hb hr)
                | (refine step_appE (α := ByteArray) (P := Tryz.prog) rfl (.tmp 64) (.tmp 67) 119 9 (by rfl) Tryz.underlying119 (.string ⟨#[]⟩) 1 16 infoStr rfl (by decide) (by decide) sE sE_len one_sE wc.heap.size qo7 qc7 (k + 1) ([] ++ (acc.map (·.2)).take k ++ [dg]) (by rw [List.nil_append, List.length_append, HTLwf.out]; rfl) (by rfl) a2wf (i - k) (qc - k) (by rfl) ((acc.map (·.2)).drop k) HDLwf.out HOwe.out (HSTwf.out _ HEwe.out).2 (by omega) hzwe (i + 1) (by omega) ?_
                   intro qo8 qc8 wf hown hex hb hr
                   have HEwf : Hid (Ex wc.heap.size none wc wf) := Lib.hid (HEwe.out.trans hex (Nat.le_refl _) (by simp))
                   have HOwf : Hid (OwnE sE 1 9 wf wc.heap.size qo8 qc8 ((acc.map (·.2)).take k ++ [dg] ++ (acc.map (·.2)).drop k)) := Lib.hid (by rw [List.nil_append] at hown; exact hown)
                   have hzwf : wc.heap.size ≤ wf.heap.size := HEwf.out.size
                   clear hown hex hb hr)
                | fail)
            all_goals (
              clear ha2wf
              go_wp2
              go_roundw
              case rel =>
                refine ⟨i + 1, ro8, rc8, qo8, qc8, by go_num, by omega, rfl, rfl, Lib.hid ?_, Lib.hid ?_, Lib.hid ((((HEX.out.trans HE3.out hsz (by simp)).trans HEwc.out (by omega) (by simp))).trans HEwf.out (by omega) (by simp))⟩
                · rw [HUP.out, insI_at HPK.out, List.map_append, List.map_append, List.map_take, List.map_drop]
                  exact (HOwc.out.keep HEwf.out (Nat.le_refl _) (by simp)).lowerE (by omega)
                · rw [HUP.out, insI_at HPK.out, List.map_append, List.map_append, List.map_take, List.map_drop]
                  exact HOwf.out.lowerE (by omega)
              case measure => simp [intOf] <;> omega))
    · have hltI : ¬ (i : Int) < (n : Int) := by omega
      have hltd : decide (i < n) = false := decide_eq_false hlt
      have HFIN : Hid ((ordP salt key ((nbI es key).take i)).map (·.1) = tabI salt es key) := Lib.hid (by rw [List.take_of_length_le (by rw [HNN.out]; omega)]; exact ordP_tab salt es key)
      go_wp2
      go_ret
      refine ⟨ro, rc, i, rfl, ?_, ?_, HE2.out.trans HEX.out hz2 (by simp)⟩
      · rw [← HFIN.out, List.length_map, ordP_len, List.length_take, HNN.out]; omega
      · rw [← HFIN.out]
        exact (HO.out.lowerE hz2).i
set_option maxHeartbeats 8000000 in
set_option maxRecDepth 100000 in
theorem next20_any {P : Nat → Prop} (sz : Int) (eo : Option Addr) (en ec : Nat) (go : Option Addr) (gn gc : Nat) (es : List EdD) (salt : ByteArray) (fr key : Int) (w : World) (h : SlAt edRep P w eo es) (hn : es.length = en) (hG : GraphT salt es) :
    Calls Tryz.prog 89 #[.agg #[.int .i64 sz, .slice eo en ec, .slice go gn gc], .string salt, .int .i64 fr, .int .i64 key] w fun e w' => e = .returned (.int .i64 (nx20 (tabI salt es) fr key)) ∧ Ex w.heap.size none w w' := by
  have HX := Lib.hid h
  have HN := Lib.hid hn
  have HG := Lib.hid hG
  have hen : en ≤ 1000 := by rw [← hn]; exact hG.len
  clear h hn hG
  go_enter Tryz.func89, Tryz.ntmps89
  go_upto_region 1 with (fail)
  obtain ⟨w1, hw1⟩ : ∃ w1 : World, w1 = w.alloc (.cells #[.int .i64 sz, .slice eo en ec, .slice go gn gc] 64) := ⟨_, rfl⟩
  have HE1 : Hid (Ex w.heap.size none w w1) := Lib.hid (by rw [hw1]; exact Ex.new _ _)
  have hz1 : w.heap.size + 1 ≤ w1.heap.size := by rw [hw1]; simp
  have HC : Hid (∀ w', Ex w1.heap.size none w1 w' → w'.cell? ⟨w.heap.size, 0, none⟩ = some (.int .i64 sz) ∧ w'.cell? ⟨w.heap.size, 1, none⟩ = some (.slice eo en ec) ∧ w'.cell? ⟨w.heap.size, 2, none⟩ = some (.slice go gn gc)) := Lib.hid (fun w' h => by
    have k : w'.heap[w.heap.size]? = some (.cells #[.int .i64 sz, .slice eo en ec, .slice go gn gc] 64 (0, 0)) := (h.block w.heap.size (by omega) (by simp)).trans (by rw [hw1]; exact heap_alloc_new _ _)
    refine ⟨?_, ?_, ?_⟩ <;> (rw [cell_of_row _ _ _ _ _ _ k]; rfl))
  have HXW : Hid (∀ w', Ex w1.heap.size none w1 w' → SlAt edRep P w' eo es) := Lib.hid (fun w' h => HX.out.keep (by decide) fun b _ hb => (h.block b (by omega) (by simp)).trans (HE1.out.block b hb (by simp)))
  rw [← hw1]
  clear hw1
  obtain ⟨c0, c1, c2⟩ := HC.out _ (Ex.refl _ _ w1)
  obtain ⟨T, hT⟩ : ∃ T, T = tabI salt es key := ⟨_, rfl⟩
  have HT := Lib.hid hT
  go_wp2_with fail
  refine (table20_any sz eo en ec go gn gc es salt key w1 (HXW.out _ (Ex.refl _ _ _)) HN.out HG.out).mono ?_
  rw [← hT]
  rintro e w2 ⟨to, tc, n, rfl, hnn, hni, hex2⟩
  have HNN := Lib.hid hnn
  have HNI := Lib.hid hni.ints
  have HE2 : Hid (Ex w.heap.size none w w2) := Lib.hid (HE1.out.trans hex2 (by omega) (by simp))
  have hn12 : n ≤ 12 := by rw [← hnn, hT, tabI_len]; exact HG.out.few key
  clear hnn hni hex2 c0 c1 c2 hT
  go_upto_region 3 with (fail)
  go_loop [10] (fun i => ∃ k : Nat, i = .int .i64 (k : Int) ∧ k ≤ n ∧ Hid (∀ y ∈ T.take k, y ≠ fr)) (fun i => n - (intOf i).toNat)
  case atStart => exact ⟨0, rfl, by omega, Lib.hid (fun y hy => by simp at hy)⟩
  case round =>
    obtain ⟨k, rfl, hk, HNO⟩ := hrel
    by_cases hlt : k < n
    · have hltI : (k : Int) < (n : Int) := by omega
      have hltd : decide (k < n) = true := decide_eq_true hlt
      obtain ⟨b, off, hb, hcells⟩ := HNI.out k (by rw [HNN.out]; exact hlt)
      subst hb
      obtain ⟨y, hy⟩ : ∃ y, T.getD k 0 = y := ⟨_, rfl⟩
      have cy : w2.cell? ⟨b, off + k, none⟩ = some (.int .i64 y) := by rw [hcells k (by rw [HNN.out]; exact hlt), hy]
      by_cases he : y = fr
      · have hed : (y == fr) = true := by simpa using he
        obtain ⟨j, hj⟩ : ∃ j, j = (k + 1) % n := ⟨_, rfl⟩
        have hjn : j < n := by rw [hj]; exact Nat.mod_lt _ (by omega)
        have hjI : (j : Int) < (n : Int) := by omega
        have hnI : ¬ ((n : Int) = 0) := by omega
        have hw1 : IntKind.i64.wrap ((k : Int) + 1) = (k : Int) + 1 := IntWalk.i64_in _ (by omega)
        have hrem : ((k : Int) + 1).tmod (n : Int) = (j : Int) := by
          rw [hj, Int.natCast_emod, Int.tmod_eq_emod_of_nonneg (by omega)]; rfl
        obtain ⟨z, hz⟩ : ∃ z, T.getD j 0 = z := ⟨_, rfl⟩
        have cz : w2.cell? ⟨b, off + j, none⟩ = some (.int .i64 z) := by rw [hcells j (by rw [HNN.out]; exact hjn), hz]
        have HV : Hid (nx20 (tabI salt es) fr key = z) := Lib.hid (by
          have hm : fr ∈ tabI salt es key := by rw [← HT.out, ← he, ← hy]; exact getD_mem (by rw [HNN.out]; exact hlt)
          unfold nx20 nxI
          rw [if_pos hm, ← HT.out, idxI_at (by rw [HNN.out]; exact hlt) HNO.out (hy.trans he), HNN.out, ← hj]
          exact hz)
        clear hj hy hz hcells he
        go_wp2
        go_ret
        exact ⟨by rw [HV.out]; rfl, HE2.out⟩
      · have hed : (y == fr) = false := by simpa using he
        have HN2 : Hid (∀ z ∈ T.take (k + 1), z ≠ fr) := Lib.hid (fun z hz => by
          have e : T.take (k + 1) = T.take k ++ [y] := take_getD _ (by rw [HNN.out]; exact hlt) hy
          rw [e] at hz
          rcases List.mem_append.1 hz with hz | hz
          · exact HNO.out z hz
          · rw [List.mem_singleton.1 hz]; exact he)
        clear hcells hy he
        go_wp2
        go_round
        case rel => exact ⟨k + 1, by go_num, by omega, HN2⟩
        case measure => simp [intOf] <;> omega
    · have hltI : ¬ (k : Int) < (n : Int) := by omega
      have hltd : decide (k < n) = false := decide_eq_false hlt
      have HV : Hid (nx20 (tabI salt es) fr key = -1) := Lib.hid (by
        unfold nx20
        rw [if_neg]
        intro hm
        have h := HNO.out
        rw [List.take_of_length_le (by rw [HNN.out]; omega), HT.out] at h
        exact h fr hm rfl)
      go_wp2
      go_ret
      exact ⟨by rw [HV.out]; rfl, HE2.out⟩
end Go.Proofs.YtfllcohnfboccaaGreat
