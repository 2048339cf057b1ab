/- ref03.Decode: a contract. No statement of the seat. -/
import Derived.Test.YtoeklgbajggndaaGreatMg09
import Derived.Test.YtoeklgbajggndaaGreatMg15
import Derived.Test.YtoeklgbajggndaaGreatEncSG
import Derived.Test.YtoeklgbajggndaaGreatMg01
import Derived.Laws.ResultCell
namespace Go.Proofs.YtoeklgbajggndaaGreat
open Go.RowKit Go.Sort
attribute [local go_sem ↓] rowStore_st rowLoad_st

theorem Tryz.sizePin : (Tryz.prog.info? 92).map (·.size) = some 3 := by kernel_rfl
theorem rowLoad_pin (a : Addr) : loadVar 92 a = rowLoad 92 a := rfl
theorem rowStore_pin (a : Addr) (v : Value) : storeVar 92 a v = rowStore 92 a v := rfl
attribute [local go_sem ↓] rowStore_pin rowLoad_pin
theorem takeI_range {b r : List UInt8} {n : Int} (h : takeI b = some (n, r)) : -9223372036854775808 ≤ n ∧ n ≤ 9223372036854775807 := by
  unfold takeI at h
  split at h
  · cases h
  · simp only [Option.some.injEq, Prod.mk.injEq] at h
    rw [← h.1]
    exact i64N_range _
theorem pin_chain {r : List UInt8} {sa sb sc : Option (List UInt8)} {m1 m2 : Int} {m3 : ByteArray} (t1 : sa = ((some r).bind fun xs => takeI xs).map (·.2)) (t2 : sb = (sa.bind fun xs => takeI xs).map (·.2)) (t3 : sc = (sb.bind fun xs => takeT xs 32).map (·.2))
    (k1 : m1 = (((some r).bind fun xs => takeI xs).map (·.1)).getD 0) (k2 : m2 = ((sa.bind fun xs => takeI xs).map (·.1)).getD 0) (k3 : m3 = ((sb.bind fun xs => takeT xs 32).map (·.1)).getD ⟨#[]⟩) : (∃ r', sc = some r' ∧ takeP r = some ((m1, m2, m3), r')) ∨ (sc = none ∧ takeP r = none) := by
  cases h1 : takeI r with
  | none => right; simp [t3, t2, t1, takeP, h1]
  | some q1 =>
    cases h2 : takeI q1.2 with
    | none => right; simp [t3, t2, t1, takeP, h1, h2]
    | some q2 =>
      cases h3 : takeT q2.2 32 with
      | none => right; simp [t3, t2, t1, takeP, h1, h2, h3]
      | some q3 => left; exact ⟨q3.2, by simp [t3, t2, t1, h1, h2, h3], by simp [takeP, k1, k2, k3, t2, t1, h1, h2, h3]⟩
theorem tail_chain {s : St} {n : Nat} {b r : List UInt8} {acc : List PinD} {sa sb sc : Option (List UInt8)} {m1 : ByteArray} {m2 : Int} {m3 : ByteArray} (h0 : takePs n b = some (acc, r)) (t1 : sa = ((some r).bind fun xs => takeT xs 4096).map (·.2)) (t2 : sb = (sa.bind fun xs => takeI xs).map (·.2)) (t3 : sc = (sb.bind fun xs => takeT xs 32).map (·.2))
    (k1 : m1 = (((some r).bind fun xs => takeT xs 4096).map (·.1)).getD ⟨#[]⟩) (k2 : m2 = ((sa.bind fun xs => takeI xs).map (·.1)).getD 0) (k3 : m3 = ((sb.bind fun xs => takeT xs 32).map (·.1)).getD ⟨#[]⟩) : (∃ r', sc = some r' ∧ tailS s n b = some ({ s with pins := acc, body := m1, key := m2, dig := m3 }, r')) ∨ (sc = none ∧ tailS s n b = none) := by
  cases h1 : takeT r 4096 with
  | none => right; simp [t3, t2, t1, tailS, h0, h1]
  | some q1 =>
    cases h2 : takeI q1.2 with
    | none => right; simp [t3, t2, t1, tailS, h0, h1, h2]
    | some q2 =>
      cases h3 : takeT q2.2 32 with
      | none => right; simp [t3, t2, t1, tailS, h0, h1, h2, h3]
      | some q3 => left; exact ⟨q3.2, by simp [t3, t2, t1, h1, h2, h3], by simp [tailS, k1, k2, k3, t2, t1, h0, h1, h2, h3]⟩
theorem decR_tail {xs r10 : List UInt8} {s0 : St} {n : Int} (h : headS xs = some (s0, n, r10)) (ht : 64 < n ∨ tailS s0 n.toNat r10 = none) : decS xs = none := by
  rw [← decR_eq]
  unfold decR takeQ
  rw [h]
  simp only [Option.bind_some]
  rcases ht with h | h
  · rw [if_pos h]; rfl
  · split
    · rfl
    · rw [h]; rfl
theorem tame_of_q {xs r : List UInt8} {t : St} (h : takeQ xs = some (t, r)) (hb : xs.length ≤ 1000) : Tame t := by
  unfold takeQ at h
  simp only [Option.bind_eq_some_iff] at h
  obtain ⟨⟨s0, n, r0⟩, h1, h⟩ := h
  simp only at h
  split at h
  · cases h
  · obtain ⟨e1, _⟩ := headS_back h1
    obtain ⟨e2, _, hh⟩ := tailS_back h
    rw [e1, e2, ← hh] at hb
    simp only [headB, tailB, List.length_append, int8_len, strL_len, intsB_len] at hb
    have := pinsL_count t.pins
    exact ⟨by omega, by omega, by omega, by omega, by omega⟩
theorem decR_of {xs : List UInt8} {t : St} (h : takeQ xs = some (t, [])) (hc : checkI t = 0) (hs : sealedB t = true) (he : encS t = xs) : decS xs = some t := by
  rw [← decR_eq]; unfold decR; rw [h]; exact if_pos ⟨rfl, hc, hs, he⟩
theorem decR_no {xs : List UInt8} {t : St} (h : takeQ xs = some (t, [])) (hn : ¬ (checkI t = 0 ∧ sealedB t = true ∧ encS t = xs)) : decS xs = none := by
  rw [← decR_eq]; unfold decR; rw [h]; exact if_neg (fun h => hn h.2)
theorem strOf_inj {a b : List UInt8} (h : strOf a = strOf b) : a = b := by rw [← strL_of a, h, strL_of]
theorem tailS_none {s : St} {k n : Nat} {b : List UInt8} (h : takePs k b = none) (hk : k ≤ n) : tailS s n b = none := by
  unfold tailS
  rw [takePs_none h hk]
  rfl
theorem decR_head {xs : List UInt8} (h : headS xs = none) : decS xs = none := by rw [← decR_eq]; unfold decR takeQ; rw [h]; rfl
set_option maxHeartbeats 16000000 in
set_option maxRecDepth 100000 in
theorem dec3_any {P : Nat → Prop} (v : Value) (xs : List UInt8) (s : St) (c : Int) (w : World) (hv : SlC P w v xs) (hm : xs.length ≤ 1000) (hd : DecIs xs s c) :
    Calls Tryz.prog 53 #[v] w fun e w' => ∃ (lo : Option Addr) (ln lc : Nat) (po : Option Addr) (pn pc : Nat), e = .returned (.tuple #[.agg (rSt s lo ln lc po pn pc), .int .i64 c]) ∧ Lies (fun b => w.heap.size ≤ b) w' (s, ⟨lo, ln, lc⟩, ⟨po, pn, pc⟩) ∧ Ex w.heap.size none w w' := by
  have HDI := Lib.hid hd
  clear hd
  obtain ⟨ao, cap, rfl, hc, hx⟩ := hv
  obtain ⟨m, hml⟩ : ∃ m, m = xs.length := ⟨_, rfl⟩
  have HML := Lib.hid hml
  rw [← hml] at hc ⊢
  obtain ⟨wa, hwa⟩ : ∃ wa : World, wa = w.alloc (.cells zSt 27) := ⟨_, rfl⟩
  have hza : wa.heap.size = w.heap.size + 1 := by rw [hwa, World.size_alloc]
  have hxa : Ex w.heap.size none w wa := by rw [hwa]; exact Ex.new w _
  have hra : wa.heap[w.heap.size]? = some (.cells zSt 27 (0, 0)) := by rw [hwa]; exact heap_alloc_new w _
  obtain ⟨wb, hwb⟩ : ∃ wb : World, wb = wa.alloc (.cells #[.slice ao m cap, .bool true] 128) := ⟨_, rfl⟩
  have hzb : wb.heap.size = w.heap.size + 2 := by rw [hwb, World.size_alloc]; omega
  have hxb : Ex wa.heap.size none wa wb := by rw [hwb]; exact Ex.new wa _
  have hrb : wb.heap[w.heap.size + 1]? = some (.cells #[.slice ao m cap, .bool true] 128 (0, 0)) := by have := heap_alloc_new wa (.cells #[.slice ao m cap, .bool true] 128); rw [hza] at this; rw [hwb]; exact this
  obtain ⟨w0, hw0⟩ : ∃ w0 : World, w0 = wb.alloc (.cells zSt 27) := ⟨_, rfl⟩
  have hz0 : w0.heap.size = w.heap.size + 3 := by rw [hw0, World.size_alloc]; omega
  have hx0 : Ex wb.heap.size none wb w0 := by rw [hw0]; exact Ex.new wb _
  have HSR0 : Hid (w0.heap[w.heap.size + 1 + 1]? = some (.cells zSt 27 (0, 0))) := Lib.hid (by have := heap_alloc_new wb (.cells zSt 27); rw [hzb] at this; rw [hw0]; exact this)
  have HR0 : Hid (w0.heap[w.heap.size]? = some (.cells zSt 27 (0, 0))) := Lib.hid ((hx0.block _ (by omega) (by simp)).trans ((hxb.block _ (by omega) (by simp)).trans hra))
  have hxx : Ex w.heap.size none w w0 := (hxa.trans hxb (by omega) (by simp)).trans hx0 (by omega) (by simp)
  have HX0 := Lib.hid hxx
  have HPX : Hid (∀ w', Ex w.heap.size none w w' → SlC P w' (.slice ao m cap) xs) := Lib.hid (fun w' h => ⟨ao, cap, by rw [hml], by omega, hx.keep (by decide) fun b hb hlt => h.block b hlt (by simp)⟩)
  have H0 : Hid (Rd3 w0 (w.heap.size + 1) (some xs)) := Lib.hid ⟨.slice ao m cap, (hx0.block _ (by omega) (by simp)).trans hrb, ao, cap, by rw [hml]; rfl, by show xs.length ≤ cap; rw [← hml]; omega, (hx.mono (P' := fun b => b ≠ w.heap.size + 1 ∧ True) (by decide) fun b _ hb => ⟨by omega, trivial⟩).keep (by decide) fun b hb hlt => hxx.block b hlt (by simp)⟩
  have hmx : xs.length ≤ 1000 := hm
  clear hx hxa hxb hx0 hra hrb hml hxx
  go_enter Tryz.func53, Tryz.ntmps53
  go_upto_region 3 with (fail)
  rw [← hwa, ← hwb, ← hw0]
  clear hwa hwb hw0
  obtain ⟨S, hS⟩ : ∃ S, S = w.heap.size + 1 + 1 := ⟨_, rfl⟩
  rw [← hS] at HSR0 ⊢
  obtain ⟨G, hG⟩ : ∃ G, G = w.heap.size + 1 := ⟨_, rfl⟩
  rw [← hG] at H0 ⊢
  have hRG : w.heap.size < G := by omega
  have hGS : G < S := by omega
  have hS0 : S < w0.heap.size := by omega
  obtain ⟨st0, hst0⟩ : ∃ st0, st0 = some xs := ⟨_, rfl⟩
  have HT0 := Lib.hid hst0
  rw [← hst0] at H0
  have HL0 : Hid ((st0.getD []).length ≤ 1000) := Lib.hid (by rw [hst0]; exact hmx)
  clear hS hG hst0 hza hzb hz0
  go_upto_region 4 with (first
    | (go_at_call 97
       fail_if_success (first | have _x := HX1 | fail)
       have _y := HX0
       refine (read3Int_any G st0 w0 H0.out (by have := HL0.out; omega)).mono ?_
       rintro e w1 ⟨rfl, hrd, hex⟩
       obtain ⟨n1, hn⟩ : ∃ z, z = ((st0.bind fun xs => takeI xs).map (·.1)).getD 0 := ⟨_, rfl⟩
       rw [← hn]
       obtain ⟨st1, hst⟩ : ∃ z, z = (st0.bind fun xs => takeI xs).map (·.2) := ⟨_, rfl⟩
       rw [← hst] at hrd
       have HN1 := Lib.hid hn
       have HT1 := Lib.hid hst
       have HQ1 := Lib.hid hrd
       have H1 := Lib.hid hrd.any
       have HL1 : Hid ((st1.getD []).length ≤ 1000) := Lib.hid (by rw [hst]; exact Nat.le_trans (bind_len (st := st0) lenI) HL0.out)
       have HX1 : Hid (Ex w.heap.size none w w1) := Lib.hid (HX0.out.trans hex (by omega) (by intro q e hlt; have := Option.some.inj e; omega))
       have HR1 : Hid (w1.heap[w.heap.size]? = some (.cells zSt 27 (0, 0))) := Lib.hid ((hex.block _ (by omega) (by intro e; have := Option.some.inj e; omega)).trans HR0.out)
       have HSR1 : Hid (w1.heap[S]? = some (.cells zSt 27 (0, 0))) := Lib.hid ((hex.block S (by omega) (by intro e; have := Option.some.inj e; omega)).trans HSR0.out)
       have hS1 : S < w1.heap.size := by have := hex.size; omega
       clear hn hst hrd hex)
    | (go_at_call 97
       fail_if_success (first | have _x := HX2 | fail)
       have _y := HX1
       refine (read3Int_any G st1 w1 H1.out (by have := HL1.out; omega)).mono ?_
       rintro e w2 ⟨rfl, hrd, hex⟩
       obtain ⟨n2, hn⟩ : ∃ z, z = ((st1.bind fun xs => takeI xs).map (·.1)).getD 0 := ⟨_, rfl⟩
       rw [← hn]
       obtain ⟨st2, hst⟩ : ∃ z, z = (st1.bind fun xs => takeI xs).map (·.2) := ⟨_, rfl⟩
       rw [← hst] at hrd
       have HN2 := Lib.hid hn
       have HT2 := Lib.hid hst
       have HQ2 := Lib.hid hrd
       have H2 := Lib.hid hrd.any
       have HL2 : Hid ((st2.getD []).length ≤ 1000) := Lib.hid (by rw [hst]; exact Nat.le_trans (bind_len (st := st1) lenI) HL1.out)
       have HX2 : Hid (Ex w.heap.size none w w2) := Lib.hid (HX1.out.trans hex (by omega) (by intro q e hlt; have := Option.some.inj e; omega))
       have HR2 : Hid (w2.heap[w.heap.size]? = some (.cells zSt 27 (0, 0))) := Lib.hid ((hex.block _ (by omega) (by intro e; have := Option.some.inj e; omega)).trans HR1.out)
       have HSR2 : Hid (w2.heap[S]? = some (.cells zSt 27 (0, 0))) := Lib.hid ((hex.block S (by omega) (by intro e; have := Option.some.inj e; omega)).trans HSR1.out)
       have hS2 : S < w2.heap.size := by have := hex.size; omega
       clear hn hst hrd hex)
    | (go_at_call 98
       fail_if_success (first | have _x := HX3 | fail)
       have _y := HX2
       refine (read3Text_any G st2 32 w2 H2.out (by have := HL2.out; omega)).mono ?_
       rintro e w3 ⟨rfl, hrd, hex⟩
       obtain ⟨n3, hn⟩ : ∃ z, z = ((st2.bind fun xs => takeT xs 32).map (·.1)).getD ⟨#[]⟩ := ⟨_, rfl⟩
       rw [← hn]
       obtain ⟨st3, hst⟩ : ∃ z, z = (st2.bind fun xs => takeT xs 32).map (·.2) := ⟨_, rfl⟩
       rw [← hst] at hrd
       have HN3 := Lib.hid hn
       have HT3 := Lib.hid hst
       have HQ3 := Lib.hid hrd
       have H3 := Lib.hid hrd.any
       have HL3 : Hid ((st3.getD []).length ≤ 1000) := Lib.hid (by rw [hst]; exact Nat.le_trans (bind_len (st := st2) (lenT 32)) HL2.out)
       have HX3 : Hid (Ex w.heap.size none w w3) := Lib.hid (HX2.out.trans hex (by omega) (by intro q e hlt; have := Option.some.inj e; omega))
       have HR3 : Hid (w3.heap[w.heap.size]? = some (.cells zSt 27 (0, 0))) := Lib.hid ((hex.block _ (by omega) (by intro e; have := Option.some.inj e; omega)).trans HR2.out)
       have HSR3 : Hid (w3.heap[S]? = some (.cells zSt 27 (0, 0))) := Lib.hid ((hex.block S (by omega) (by intro e; have := Option.some.inj e; omega)).trans HSR2.out)
       have hS3 : S < w3.heap.size := by have := hex.size; omega
       have hsr := HSR3.out
       have e0 : w3.cell? ⟨S, 0, none⟩ = some (.int .i64 0) := by rw [cell_of_row _ _ _ _ _ _ hsr]; rfl
       have f0 := row_frz hsr 0
       have e1 : w3.cell? ⟨S, 1, none⟩ = some (.int .i64 0) := by rw [cell_of_row _ _ _ _ _ _ hsr]; rfl
       have f1 := row_frz hsr 1
       have e2 : w3.cell? ⟨S, 2, none⟩ = some (.string ⟨#[]⟩) := by rw [cell_of_row _ _ _ _ _ _ hsr]; rfl
       have f2 := row_frz hsr 2
       clear hsr
       clear hn hst hrd hex)
    | fail)
  obtain ⟨wa, hw⟩ : ∃ wa, wa = (((w3.setCell ⟨S, 0, none⟩ (.int .i64 n1)).setCell ⟨S, 1, none⟩ (.int .i64 n2)).setCell ⟨S, 2, none⟩ (.string n3)) := ⟨_, rfl⟩
  have hxs : Ex w3.heap.size (some S) w3 wa := by rw [hw]; exact ((((Ex.refl _ _ _).setCell 0 none _ (.inl rfl)).setCell 1 none _ (.inl rfl)).setCell 2 none _ (.inl rfl))
  have HSRa : Hid (wa.heap[S]? = some (.cells #[.int .i64 n1, .int .i64 n2, .string n3, .int .i64 0, .int .i64 0, .int .i64 0, .int .i64 0, .int .i64 0, .slice none 0 0, .slice none 0 0, .string ⟨#[]⟩, .int .i64 0, .string ⟨#[]⟩] 27 (0, 0))) := Lib.hid (by rw [hw, (row_set (row_set (row_set HSR3.out)))]; rfl)
  have HRa : Hid (wa.heap[w.heap.size]? = some (.cells zSt 27 (0, 0))) := Lib.hid ((hxs.block _ (by omega) (by intro e; have := Option.some.inj e; omega)).trans HR3.out)
  have HXa : Hid (Ex w.heap.size none w wa) := Lib.hid (by rw [hw]; exact (((HX3.out.setCell 0 none _ (.inr (by omega))).setCell 1 none _ (.inr (by omega))).setCell 2 none _ (.inr (by omega))))
  have Ha : Hid (Rd3 wa G st3) := Lib.hid (HQ3.out.keep fun b hb hlt => hxs.block b hlt (by intro e; have := Option.some.inj e; rcases hb with hb | hb <;> omega)).any
  have HLa := HL3
  have hSa : S < wa.heap.size := by have := hxs.size; omega
  have HKSa := Lib.hid hxs
  rw [← hw]
  clear hw e0 f0 e1 f1 e2 f2
  obtain ⟨sta, hsta⟩ : ∃ z, z = st3 := ⟨_, rfl⟩
  rw [← hsta] at Ha HLa
  go_upto_region 5 with (first
    | (go_at_call 97
       fail_if_success (first | have _x := HX4 | fail)
       have _y := HXa
       refine (read3Int_any G sta wa Ha.out (by have := HLa.out; omega)).mono ?_
       rintro e w4 ⟨rfl, hrd, hex⟩
       obtain ⟨n4, hn⟩ : ∃ z, z = ((sta.bind fun xs => takeI xs).map (·.1)).getD 0 := ⟨_, rfl⟩
       rw [← hn]
       obtain ⟨st4, hst⟩ : ∃ z, z = (sta.bind fun xs => takeI xs).map (·.2) := ⟨_, rfl⟩
       rw [← hst] at hrd
       have HN4 := Lib.hid hn
       have HT4 := Lib.hid hst
       have HQ4 := Lib.hid hrd
       have H4 := Lib.hid hrd.any
       have HL4 : Hid ((st4.getD []).length ≤ 1000) := Lib.hid (by rw [hst]; exact Nat.le_trans (bind_len (st := sta) lenI) HLa.out)
       have HX4 : Hid (Ex w.heap.size none w w4) := Lib.hid (HXa.out.trans hex (by omega) (by intro q e hlt; have := Option.some.inj e; omega))
       have HR4 : Hid (w4.heap[w.heap.size]? = some (.cells zSt 27 (0, 0))) := Lib.hid ((hex.block _ (by omega) (by intro e; have := Option.some.inj e; omega)).trans HRa.out)
       have HSR4 : Hid (w4.heap[S]? = some (.cells #[.int .i64 n1, .int .i64 n2, .string n3, .int .i64 0, .int .i64 0, .int .i64 0, .int .i64 0, .int .i64 0, .slice none 0 0, .slice none 0 0, .string ⟨#[]⟩, .int .i64 0, .string ⟨#[]⟩] 27 (0, 0))) := Lib.hid ((hex.block S (by omega) (by intro e; have := Option.some.inj e; omega)).trans HSRa.out)
       have hS4 : S < w4.heap.size := by have := hex.size; omega
       clear hn hst hrd hex)
    | (go_at_call 97
       fail_if_success (first | have _x := HX5 | fail)
       have _y := HX4
       refine (read3Int_any G st4 w4 H4.out (by have := HL4.out; omega)).mono ?_
       rintro e w5 ⟨rfl, hrd, hex⟩
       obtain ⟨n5, hn⟩ : ∃ z, z = ((st4.bind fun xs => takeI xs).map (·.1)).getD 0 := ⟨_, rfl⟩
       rw [← hn]
       obtain ⟨st5, hst⟩ : ∃ z, z = (st4.bind fun xs => takeI xs).map (·.2) := ⟨_, rfl⟩
       rw [← hst] at hrd
       have HN5 := Lib.hid hn
       have HT5 := Lib.hid hst
       have HQ5 := Lib.hid hrd
       have H5 := Lib.hid hrd.any
       have HL5 : Hid ((st5.getD []).length ≤ 1000) := Lib.hid (by rw [hst]; exact Nat.le_trans (bind_len (st := st4) lenI) HL4.out)
       have HX5 : Hid (Ex w.heap.size none w w5) := Lib.hid (HX4.out.trans hex (by omega) (by intro q e hlt; have := Option.some.inj e; omega))
       have HR5 : Hid (w5.heap[w.heap.size]? = some (.cells zSt 27 (0, 0))) := Lib.hid ((hex.block _ (by omega) (by intro e; have := Option.some.inj e; omega)).trans HR4.out)
       have HSR5 : Hid (w5.heap[S]? = some (.cells #[.int .i64 n1, .int .i64 n2, .string n3, .int .i64 0, .int .i64 0, .int .i64 0, .int .i64 0, .int .i64 0, .slice none 0 0, .slice none 0 0, .string ⟨#[]⟩, .int .i64 0, .string ⟨#[]⟩] 27 (0, 0))) := Lib.hid ((hex.block S (by omega) (by intro e; have := Option.some.inj e; omega)).trans HSR4.out)
       have hS5 : S < w5.heap.size := by have := hex.size; omega
       clear hn hst hrd hex)
    | (go_at_call 97
       fail_if_success (first | have _x := HX6 | fail)
       have _y := HX5
       refine (read3Int_any G st5 w5 H5.out (by have := HL5.out; omega)).mono ?_
       rintro e w6 ⟨rfl, hrd, hex⟩
       obtain ⟨n6, hn⟩ : ∃ z, z = ((st5.bind fun xs => takeI xs).map (·.1)).getD 0 := ⟨_, rfl⟩
       rw [← hn]
       obtain ⟨st6, hst⟩ : ∃ z, z = (st5.bind fun xs => takeI xs).map (·.2) := ⟨_, rfl⟩
       rw [← hst] at hrd
       have HN6 := Lib.hid hn
       have HT6 := Lib.hid hst
       have HQ6 := Lib.hid hrd
       have H6 := Lib.hid hrd.any
       have HL6 : Hid ((st6.getD []).length ≤ 1000) := Lib.hid (by rw [hst]; exact Nat.le_trans (bind_len (st := st5) lenI) HL5.out)
       have HX6 : Hid (Ex w.heap.size none w w6) := Lib.hid (HX5.out.trans hex (by omega) (by intro q e hlt; have := Option.some.inj e; omega))
       have HR6 : Hid (w6.heap[w.heap.size]? = some (.cells zSt 27 (0, 0))) := Lib.hid ((hex.block _ (by omega) (by intro e; have := Option.some.inj e; omega)).trans HR5.out)
       have HSR6 : Hid (w6.heap[S]? = some (.cells #[.int .i64 n1, .int .i64 n2, .string n3, .int .i64 0, .int .i64 0, .int .i64 0, .int .i64 0, .int .i64 0, .slice none 0 0, .slice none 0 0, .string ⟨#[]⟩, .int .i64 0, .string ⟨#[]⟩] 27 (0, 0))) := Lib.hid ((hex.block S (by omega) (by intro e; have := Option.some.inj e; omega)).trans HSR5.out)
       have hS6 : S < w6.heap.size := by have := hex.size; omega
       clear hn hst hrd hex)
    | (go_at_call 97
       fail_if_success (first | have _x := HX7 | fail)
       have _y := HX6
       refine (read3Int_any G st6 w6 H6.out (by have := HL6.out; omega)).mono ?_
       rintro e w7 ⟨rfl, hrd, hex⟩
       obtain ⟨n7, hn⟩ : ∃ z, z = ((st6.bind fun xs => takeI xs).map (·.1)).getD 0 := ⟨_, rfl⟩
       rw [← hn]
       obtain ⟨st7, hst⟩ : ∃ z, z = (st6.bind fun xs => takeI xs).map (·.2) := ⟨_, rfl⟩
       rw [← hst] at hrd
       have HN7 := Lib.hid hn
       have HT7 := Lib.hid hst
       have HQ7 := Lib.hid hrd
       have H7 := Lib.hid hrd.any
       have HL7 : Hid ((st7.getD []).length ≤ 1000) := Lib.hid (by rw [hst]; exact Nat.le_trans (bind_len (st := st6) lenI) HL6.out)
       have HX7 : Hid (Ex w.heap.size none w w7) := Lib.hid (HX6.out.trans hex (by omega) (by intro q e hlt; have := Option.some.inj e; omega))
       have HR7 : Hid (w7.heap[w.heap.size]? = some (.cells zSt 27 (0, 0))) := Lib.hid ((hex.block _ (by omega) (by intro e; have := Option.some.inj e; omega)).trans HR6.out)
       have HSR7 : Hid (w7.heap[S]? = some (.cells #[.int .i64 n1, .int .i64 n2, .string n3, .int .i64 0, .int .i64 0, .int .i64 0, .int .i64 0, .int .i64 0, .slice none 0 0, .slice none 0 0, .string ⟨#[]⟩, .int .i64 0, .string ⟨#[]⟩] 27 (0, 0))) := Lib.hid ((hex.block S (by omega) (by intro e; have := Option.some.inj e; omega)).trans HSR6.out)
       have hS7 : S < w7.heap.size := by have := hex.size; omega
       clear hn hst hrd hex)
    | (go_at_call 97
       fail_if_success (first | have _x := HX8 | fail)
       have _y := HX7
       refine (read3Int_any G st7 w7 H7.out (by have := HL7.out; omega)).mono ?_
       rintro e w8 ⟨rfl, hrd, hex⟩
       obtain ⟨n8, hn⟩ : ∃ z, z = ((st7.bind fun xs => takeI xs).map (·.1)).getD 0 := ⟨_, rfl⟩
       rw [← hn]
       obtain ⟨st8, hst⟩ : ∃ z, z = (st7.bind fun xs => takeI xs).map (·.2) := ⟨_, rfl⟩
       rw [← hst] at hrd
       have HN8 := Lib.hid hn
       have HT8 := Lib.hid hst
       have HQ8 := Lib.hid hrd
       have H8 := Lib.hid hrd.any
       have HL8 : Hid ((st8.getD []).length ≤ 1000) := Lib.hid (by rw [hst]; exact Nat.le_trans (bind_len (st := st7) lenI) HL7.out)
       have HX8 : Hid (Ex w.heap.size none w w8) := Lib.hid (HX7.out.trans hex (by omega) (by intro q e hlt; have := Option.some.inj e; omega))
       have HR8 : Hid (w8.heap[w.heap.size]? = some (.cells zSt 27 (0, 0))) := Lib.hid ((hex.block _ (by omega) (by intro e; have := Option.some.inj e; omega)).trans HR7.out)
       have HSR8 : Hid (w8.heap[S]? = some (.cells #[.int .i64 n1, .int .i64 n2, .string n3, .int .i64 0, .int .i64 0, .int .i64 0, .int .i64 0, .int .i64 0, .slice none 0 0, .slice none 0 0, .string ⟨#[]⟩, .int .i64 0, .string ⟨#[]⟩] 27 (0, 0))) := Lib.hid ((hex.block S (by omega) (by intro e; have := Option.some.inj e; omega)).trans HSR7.out)
       have hS8 : S < w8.heap.size := by have := hex.size; omega
       have hsr := HSR8.out
       have e3 : w8.cell? ⟨S, 3, none⟩ = some (.int .i64 0) := by rw [cell_of_row _ _ _ _ _ _ hsr]; rfl
       have f3 := row_frz hsr 3
       have e4 : w8.cell? ⟨S, 4, none⟩ = some (.int .i64 0) := by rw [cell_of_row _ _ _ _ _ _ hsr]; rfl
       have f4 := row_frz hsr 4
       have e5 : w8.cell? ⟨S, 5, none⟩ = some (.int .i64 0) := by rw [cell_of_row _ _ _ _ _ _ hsr]; rfl
       have f5 := row_frz hsr 5
       have e6 : w8.cell? ⟨S, 6, none⟩ = some (.int .i64 0) := by rw [cell_of_row _ _ _ _ _ _ hsr]; rfl
       have f6 := row_frz hsr 6
       have e7 : w8.cell? ⟨S, 7, none⟩ = some (.int .i64 0) := by rw [cell_of_row _ _ _ _ _ _ hsr]; rfl
       have f7 := row_frz hsr 7
       clear hsr
       clear hn hst hrd hex)
    | fail)
  obtain ⟨wb, hw⟩ : ∃ wb, wb = (((((w8.setCell ⟨S, 3, none⟩ (.int .i64 n4)).setCell ⟨S, 4, none⟩ (.int .i64 n5)).setCell ⟨S, 5, none⟩ (.int .i64 n6)).setCell ⟨S, 6, none⟩ (.int .i64 n7)).setCell ⟨S, 7, none⟩ (.int .i64 n8)) := ⟨_, rfl⟩
  have hxs : Ex w8.heap.size (some S) w8 wb := by rw [hw]; exact ((((((Ex.refl _ _ _).setCell 3 none _ (.inl rfl)).setCell 4 none _ (.inl rfl)).setCell 5 none _ (.inl rfl)).setCell 6 none _ (.inl rfl)).setCell 7 none _ (.inl rfl))
  have HSRb : Hid (wb.heap[S]? = some (.cells #[.int .i64 n1, .int .i64 n2, .string n3, .int .i64 n4, .int .i64 n5, .int .i64 n6, .int .i64 n7, .int .i64 n8, .slice none 0 0, .slice none 0 0, .string ⟨#[]⟩, .int .i64 0, .string ⟨#[]⟩] 27 (0, 0))) := Lib.hid (by rw [hw, (row_set (row_set (row_set (row_set (row_set HSR8.out)))))]; rfl)
  have HRb : Hid (wb.heap[w.heap.size]? = some (.cells zSt 27 (0, 0))) := Lib.hid ((hxs.block _ (by omega) (by intro e; have := Option.some.inj e; omega)).trans HR8.out)
  have HXb : Hid (Ex w.heap.size none w wb) := Lib.hid (by rw [hw]; exact (((((HX8.out.setCell 3 none _ (.inr (by omega))).setCell 4 none _ (.inr (by omega))).setCell 5 none _ (.inr (by omega))).setCell 6 none _ (.inr (by omega))).setCell 7 none _ (.inr (by omega))))
  have Hb : Hid (Rd3 wb G st8) := Lib.hid (HQ8.out.keep fun b hb hlt => hxs.block b hlt (by intro e; have := Option.some.inj e; rcases hb with hb | hb <;> omega)).any
  have HLb := HL8
  have hSb : S < wb.heap.size := by have := hxs.size; omega
  have HKSb := Lib.hid hxs
  rw [← hw]
  clear hw e3 f3 e4 f4 e5 f5 e6 f6 e7 f7
  have HTS0 : Hid (st0 = some xs) := HT0
  have HTS4 : Hid (st4 = (st3.bind fun xs => takeI xs).map (·.2)) := Lib.hid (by rw [HT4.out, hsta])
  have HNS4 : Hid (n4 = ((st3.bind fun xs => takeI xs).map (·.1)).getD 0) := Lib.hid (by rw [HN4.out, hsta])
  clear hsta
  obtain ⟨z8, hz8⟩ : ∃ z8, z8 = st8 := ⟨_, rfl⟩
  have HZ8 := Lib.hid hz8
  obtain ⟨vb, hrow, hsl⟩ := Hb.out
  rw [← hz8] at hrow hsl
  have HLB : Hid ((z8.getD []).length ≤ 1000) := Lib.hid (by rw [hz8]; exact HL8.out)
  have HC1 : Hid (st1 = ((some xs).bind fun xs => takeI xs).map (·.2)) := Lib.hid (by rw [HT1.out, HTS0.out])
  have HM1 : Hid (n1 = (((some xs).bind fun xs => takeI xs).map (·.1)).getD 0) := Lib.hid (by rw [HN1.out, HTS0.out])
  clear hz8 Hb H0 H1 H2 H3 H4 H5 H6 H7 H8 HQ1 HQ2 HQ3 HQ4 HQ5 HQ6 HQ7 HQ8 HSR0 HSR1 HSR2 HSR3 HSRa HSR4 HSR5 HSR6 HSR7 HSR8 HR0 HR1 HR2 HR3 HRa HR4 HR5 HR6 HR7 HR8 HX0 HX1 HX2 HX3 HXa HX4 HX5 HX6 HX7 HX8 HL0 HL1 HL2 HL3 HLa HL4 HL5 HL6 HL7 HL8 HLb hc
  cases z8 with
  | none =>
    have HNO : Hid (decS xs = none) := Lib.hid (decR_head (headS_none HC1.out HT2.out HT3.out HTS4.out HT5.out HT6.out HT7.out HT8.out HZ8.out.symm))
    have HROW := Lib.hid hrow
    have HSL := Lib.hid hsl
    obtain ⟨d0, d1, f0, f1⟩ := row2_cell hrow
    simp only [Option.isSome_none] at d1
    have hGb : G < wb.heap.size := by omega
    clear hrow hsl
    go_upto_region 7 with (first
      | (go_at_call 99
         refine (takeInts02_none vb [] 64 wb HSL.out (by simp) (takeL_short (takeI_short (by decide)))).mono ?_
         rintro e w9 ⟨u1, u2, rfl, ⟨lo, lc, rfl, hlo⟩, ⟨ao9, cap9, rfl, hc9, hs9⟩, hex⟩
         obtain ⟨ln, hln⟩ : ∃ ln, ln = (([] : List Int)).length := ⟨_, rfl⟩
         obtain ⟨m9, hm9⟩ : ∃ m9, m9 = (([] : List UInt8)).length := ⟨_, rfl⟩
         rw [← hln, ← hm9]
         rw [← hm9] at hc9
         have HLN := Lib.hid hln
         have HLO := Lib.hid hlo
         have HU9 : Hid (SlC (fun b => wb.heap.size ≤ b) w9 (.slice ao9 m9 cap9) (([] : List UInt8))) := Lib.hid ⟨ao9, cap9, by rw [hm9], by omega, hs9⟩
         have hz9 : wb.heap.size ≤ w9.heap.size := hex.size
         have HX9 : Hid (Ex w.heap.size none w w9) := Lib.hid (HXb.out.trans hex (by omega) (by simp))
         have HR9 : Hid (w9.heap[w.heap.size]? = some (.cells zSt 27 (0, 0))) := Lib.hid ((hex.block _ (by omega) (by simp)).trans HRb.out)
         have HSR9 : Hid (w9.heap[S]? = some (.cells #[.int .i64 n1, .int .i64 n2, .string n3, .int .i64 n4, .int .i64 n5, .int .i64 n6, .int .i64 n7, .int .i64 n8, .slice none 0 0, .slice none 0 0, .string ⟨#[]⟩, .int .i64 0, .string ⟨#[]⟩] 27 (0, 0))) := Lib.hid ((hex.block S (by omega) (by simp)).trans HSRb.out)
         have HG9 := Lib.hid ((hex.block G hGb (by simp)).trans HROW.out)
         clear d0 d1 f0 f1
         obtain ⟨d0, d1, f0, f1⟩ := row2_cell HG9.out
         simp only [Option.isSome_none] at d1
         have hsr := HSR9.out
         have e8 : w9.cell? ⟨S, 8, none⟩ = some (.slice none 0 0) := by rw [cell_of_row _ _ _ _ _ _ hsr]; rfl
         have f8 := row_frz hsr 8
         clear hsr hln hm9 hc9 hs9 hlo hex)
      | fail)
    obtain ⟨wc, hw⟩ : ∃ wc, wc = ((w9.setCell ⟨S, 8, none⟩ (.slice lo ln lc)).setCell ⟨G, 0, none⟩ (.slice ao9 m9 cap9)).setCell ⟨G, 1, none⟩ (.bool false) := ⟨_, rfl⟩
    have hx1 : Ex w9.heap.size (some S) w9 (w9.setCell ⟨S, 8, none⟩ (.slice lo ln lc)) := (Ex.refl _ _ _).setCell 8 none _ (.inl rfl)
    have hx2 : Ex (w9.setCell ⟨S, 8, none⟩ (.slice lo ln lc)).heap.size (some G) (w9.setCell ⟨S, 8, none⟩ (.slice lo ln lc)) wc := by rw [hw]; exact ((Ex.refl _ _ _).setCell 0 none _ (.inl rfl)).setCell 1 none _ (.inl rfl)
    have hy1 := hx1.size
    have hy2 := hx2.size
    have hkp : ∀ b, b < w9.heap.size → b ≠ S → b ≠ G → wc.heap[b]? = w9.heap[b]? := fun b hb h1 h2 => (hx2.block b (by omega) (by intro e; exact h2 (Option.some.inj e))).trans (hx1.block b hb (by intro e; exact h1 (Option.some.inj e)))
    have HSRc : Hid (wc.heap[S]? = some (.cells #[.int .i64 n1, .int .i64 n2, .string n3, .int .i64 n4, .int .i64 n5, .int .i64 n6, .int .i64 n7, .int .i64 n8, .slice lo ln lc, .slice none 0 0, .string ⟨#[]⟩, .int .i64 0, .string ⟨#[]⟩] 27 (0, 0))) := Lib.hid ((hx2.block S (by omega) (by intro e; have := Option.some.inj e; omega)).trans (by rw [row_set HSR9.out]; rfl))
    have HRc : Hid (wc.heap[w.heap.size]? = some (.cells zSt 27 (0, 0))) := Lib.hid ((hkp _ (by omega) (by omega) (by omega)).trans HR9.out)
    have HXc : Hid (Ex w.heap.size none w wc) := Lib.hid (by rw [hw]; exact ((HX9.out.setCell 8 none _ (.inr (by omega))).setCell 0 none _ (.inr (by omega))).setCell 1 none _ (.inr (by omega)))
    have HGc : Hid (wc.heap[G]? = some (.cells #[.slice ao9 m9 cap9, .bool false] 128 (0, 0))) := Lib.hid (by rw [hw]; exact row2_set ((hx1.block G (by omega) (by intro e; have := Option.some.inj e; omega)).trans HG9.out))
    have Hc : Hid (Rd3 wc G (none : Option (List UInt8))) := Lib.hid ⟨.slice ao9 m9 cap9, HGc.out, (HU9.out.mono (P' := fun b => (b ≠ G ∧ True) ∧ b ≠ S) fun b hb _ => ⟨⟨by omega, trivial⟩, by omega⟩).keep (w' := wc) (fun b hb hlt => hkp b hlt hb.2 hb.1.1) |>.mono fun b hb _ => hb.1⟩
    have HLIc : Hid (Sl intRep (fun b => wb.heap.size ≤ b) wc (.slice lo ln lc) ([] : List Int)) := Lib.hid ⟨lo, lc, by rw [HLN.out], HLO.out.keep (by decide) fun b hb hlt => hkp b hlt (by omega) (by omega)⟩
    have hSc : S < wc.heap.size := by omega
    have hzc : wb.heap.size ≤ wc.heap.size := by omega
    have HLc : Hid (((none : Option (List UInt8)).getD []).length ≤ 1000) := Lib.hid (Nat.zero_le _)
    rw [← hw]
    clear hw hx1 hx2 hy1 hy2 hkp d0 d1 f0 f1 e8 f8
    go_upto_region 8 with (first
      | (go_at_call 97
         fail_if_success (first | have _x := HX7 | fail)
         have _y := HXc
         refine (read3Int_z G none wc Hc.out (by simp) rfl).mono ?_
         rintro e w7 ⟨rfl, hrd, hex⟩
         have HQ7 := Lib.hid hrd
         have H7 := Lib.hid hrd.any
         have HX7 : Hid (Ex w.heap.size none w w7) := Lib.hid (HXc.out.trans hex (by omega) (by intro q e hlt; have := Option.some.inj e; omega))
         have HR7 : Hid (w7.heap[w.heap.size]? = some (.cells zSt 27 (0, 0))) := Lib.hid ((hex.block _ (by omega) (by intro e; have := Option.some.inj e; omega)).trans HRc.out)
         have HSR7 : Hid (w7.heap[S]? = some (.cells #[.int .i64 n1, .int .i64 n2, .string n3, .int .i64 n4, .int .i64 n5, .int .i64 n6, .int .i64 n7, .int .i64 n8, .slice lo ln lc, .slice none 0 0, .string ⟨#[]⟩, .int .i64 0, .string ⟨#[]⟩] 27 (0, 0))) := Lib.hid ((hex.block S (by omega) (by intro e; have := Option.some.inj e; omega)).trans HSRc.out)
         have hS7 : S < w7.heap.size := by have := hex.size; omega
         clear hrd hex)
      | fail)
    go_wp2_with (fail)
    go_loopw [9] (fun i wr => i = .int .i64 0 ∧ w7 = wr) (fun _ _ => 0)
    case atStart => exact ⟨rfl, rfl⟩
    case round =>
      obtain ⟨rfl, rfl⟩ := hrel
      go_upto_region 15 with (first
        | (go_at_call 98
           fail_if_success (first | have _x := HXt | fail)
           have _y := HX7
           refine (read3Text_z G none 4096 w7 H7.out (by simp) rfl).mono ?_
           rintro e wt ⟨rfl, hrd, hex⟩
           have HQt := Lib.hid hrd
           have Ht := Lib.hid hrd.any
           have HXt : Hid (Ex w.heap.size none w wt) := Lib.hid (HX7.out.trans hex (by omega) (by intro q e hlt; have := Option.some.inj e; omega))
           have HRt : Hid (wt.heap[w.heap.size]? = some (.cells zSt 27 (0, 0))) := Lib.hid ((hex.block _ (by omega) (by intro e; have := Option.some.inj e; omega)).trans HR7.out)
           have HSRt : Hid (wt.heap[S]? = some (.cells #[.int .i64 n1, .int .i64 n2, .string n3, .int .i64 n4, .int .i64 n5, .int .i64 n6, .int .i64 n7, .int .i64 n8, .slice lo ln lc, .slice none 0 0, .string ⟨#[]⟩, .int .i64 0, .string ⟨#[]⟩] 27 (0, 0))) := Lib.hid ((hex.block S (by omega) (by intro e; have := Option.some.inj e; omega)).trans HSR7.out)
           have hSt : S < wt.heap.size := by have := hex.size; omega
           have hsr := HSRt.out
           have e10 : wt.cell? ⟨S, 10, none⟩ = some (.string ⟨#[]⟩) := by rw [cell_of_row _ _ _ _ _ _ hsr]; rfl
           have f10 := row_frz hsr 10
           clear hsr
           clear hrd hex)
        | fail)
      obtain ⟨wu, hw⟩ : ∃ wu, wu = (wt.setCell ⟨S, 10, none⟩ (.string ⟨#[]⟩)) := ⟨_, rfl⟩
      have hxs : Ex wt.heap.size (some S) wt wu := by rw [hw]; exact ((Ex.refl _ _ _).setCell 10 none _ (.inl rfl))
      have HSRu : Hid (wu.heap[S]? = some (.cells #[.int .i64 n1, .int .i64 n2, .string n3, .int .i64 n4, .int .i64 n5, .int .i64 n6, .int .i64 n7, .int .i64 n8, .slice lo ln lc, .slice none 0 0, .string ⟨#[]⟩, .int .i64 0, .string ⟨#[]⟩] 27 (0, 0))) := Lib.hid (by rw [hw, (row_set HSRt.out)]; rfl)
      have HRu : Hid (wu.heap[w.heap.size]? = some (.cells zSt 27 (0, 0))) := Lib.hid ((hxs.block _ (by omega) (by intro e; have := Option.some.inj e; omega)).trans HRt.out)
      have HXu : Hid (Ex w.heap.size none w wu) := Lib.hid (by rw [hw]; exact (HXt.out.setCell 10 none _ (.inr (by omega))))
      have Hu : Hid (Rd3 wu G none) := Lib.hid (HQt.out.keep fun b hb hlt => hxs.block b hlt (by intro e; have := Option.some.inj e; rcases hb with hb | hb <;> omega)).any
      have hSu : S < wu.heap.size := by have := hxs.size; omega
      have HKSu := Lib.hid hxs
      rw [← hw]
      clear hw e10 f10
      go_upto_region 16 with (first
        | (go_at_call 97
           fail_if_success (first | have _x := HXx | fail)
           have _y := HXu
           refine (read3Int_z G none wu Hu.out (by simp) rfl).mono ?_
           rintro e wx ⟨rfl, hrd, hex⟩
           have HQx := Lib.hid hrd
           have Hx := Lib.hid hrd.any
           have HXx : Hid (Ex w.heap.size none w wx) := Lib.hid (HXu.out.trans hex (by omega) (by intro q e hlt; have := Option.some.inj e; omega))
           have HRx : Hid (wx.heap[w.heap.size]? = some (.cells zSt 27 (0, 0))) := Lib.hid ((hex.block _ (by omega) (by intro e; have := Option.some.inj e; omega)).trans HRu.out)
           have HSRx : Hid (wx.heap[S]? = some (.cells #[.int .i64 n1, .int .i64 n2, .string n3, .int .i64 n4, .int .i64 n5, .int .i64 n6, .int .i64 n7, .int .i64 n8, .slice lo ln lc, .slice none 0 0, .string ⟨#[]⟩, .int .i64 0, .string ⟨#[]⟩] 27 (0, 0))) := Lib.hid ((hex.block S (by omega) (by intro e; have := Option.some.inj e; omega)).trans HSRu.out)
           have hSx : S < wx.heap.size := by have := hex.size; omega
           clear hrd hex)
        | (go_at_call 98
           fail_if_success (first | have _x := HXy | fail)
           have _y := HXx
           refine (read3Text_z G none 32 wx Hx.out (by simp) rfl).mono ?_
           rintro e wy ⟨rfl, hrd, hex⟩
           have HQy := Lib.hid hrd
           have Hy := Lib.hid hrd.any
           have HXy : Hid (Ex w.heap.size none w wy) := Lib.hid (HXx.out.trans hex (by omega) (by intro q e hlt; have := Option.some.inj e; omega))
           have HRy : Hid (wy.heap[w.heap.size]? = some (.cells zSt 27 (0, 0))) := Lib.hid ((hex.block _ (by omega) (by intro e; have := Option.some.inj e; omega)).trans HRx.out)
           have HSRy : Hid (wy.heap[S]? = some (.cells #[.int .i64 n1, .int .i64 n2, .string n3, .int .i64 n4, .int .i64 n5, .int .i64 n6, .int .i64 n7, .int .i64 n8, .slice lo ln lc, .slice none 0 0, .string ⟨#[]⟩, .int .i64 0, .string ⟨#[]⟩] 27 (0, 0))) := Lib.hid ((hex.block S (by omega) (by intro e; have := Option.some.inj e; omega)).trans HSRx.out)
           have hSy : S < wy.heap.size := by have := hex.size; omega
           have hsr := HSRy.out
           have e11 : wy.cell? ⟨S, 11, none⟩ = some (.int .i64 0) := by rw [cell_of_row _ _ _ _ _ _ hsr]; rfl
           have f11 := row_frz hsr 11
           have e12 : wy.cell? ⟨S, 12, none⟩ = some (.string ⟨#[]⟩) := by rw [cell_of_row _ _ _ _ _ _ hsr]; rfl
           have f12 := row_frz hsr 12
           clear hsr
           clear hrd hex)
        | fail)
      obtain ⟨wv, hw⟩ : ∃ wv, wv = ((wy.setCell ⟨S, 11, none⟩ (.int .i64 0)).setCell ⟨S, 12, none⟩ (.string ⟨#[]⟩)) := ⟨_, rfl⟩
      have hxs : Ex wy.heap.size (some S) wy wv := by rw [hw]; exact (((Ex.refl _ _ _).setCell 11 none _ (.inl rfl)).setCell 12 none _ (.inl rfl))
      have HSRv : Hid (wv.heap[S]? = some (.cells #[.int .i64 n1, .int .i64 n2, .string n3, .int .i64 n4, .int .i64 n5, .int .i64 n6, .int .i64 n7, .int .i64 n8, .slice lo ln lc, .slice none 0 0, .string ⟨#[]⟩, .int .i64 0, .string ⟨#[]⟩] 27 (0, 0))) := Lib.hid (by rw [hw, (row_set (row_set HSRy.out))]; rfl)
      have HRv : Hid (wv.heap[w.heap.size]? = some (.cells zSt 27 (0, 0))) := Lib.hid ((hxs.block _ (by omega) (by intro e; have := Option.some.inj e; omega)).trans HRy.out)
      have HXv : Hid (Ex w.heap.size none w wv) := Lib.hid (by rw [hw]; exact ((HXy.out.setCell 11 none _ (.inr (by omega))).setCell 12 none _ (.inr (by omega))))
      have Hv : Hid (Rd3 wv G none) := Lib.hid (HQy.out.keep fun b hb hlt => hxs.block b hlt (by intro e; have := Option.some.inj e; rcases hb with hb | hb <;> omega)).any
      have hSv : S < wv.heap.size := by have := hxs.size; omega
      have HKSv := Lib.hid hxs
      rw [← hw]
      clear hw e11 f11 e12 f12
      obtain ⟨vq, hgv, _⟩ := Hv.out
      have e1 := (row2_cell hgv).2.1
      simp only [Option.isSome_none] at e1
      clear hgv
      go_upto_region 17 with (fail)
      clear e1
      have hst := run_rowStore (P := Tryz.prog) wv w.heap.size 27 27 zSt zSt HRv.out Tryz.sizeStm rfl (by simp [Value.oneCell'])
      obtain ⟨wz, hw⟩ : ∃ wz, wz = wv.setRow w.heap.size zSt := ⟨_, rfl⟩
      rw [← hw] at hst
      have HRz : Hid (wz.heap[w.heap.size]? = some (.cells zSt 27 (0, 0))) := Lib.hid (by rw [hw]; exact setRow_heap _ _ _ _ _ _ HRv.out)
      have HXz : Hid (Ex w.heap.size none w wz) := Lib.hid (by rw [hw]; exact HXv.out.setRow _ _ (.inr (Nat.le_refl _)))
      clear hw
      go_wp2_with (fail)
      clear hst
      have hr := run_loadVar_row (P := Tryz.prog) wz w.heap.size 27 27 zSt (0, 0) _ HRz.out Tryz.underlying27 rfl Tryz.sizeStm
      refine bodyPost_ret (v := .tuple #[.agg zSt, .int .i64 1]) ?_ rfl ?_
      · rw [results_cell_tmp Tryz.results53]
        show ((loadVar 27 ⟨w.heap.size, 0, none⟩).run Tryz.prog _).andThen _ = _
        rw [hr]
        rfl
      obtain ⟨rfl, rfl⟩ : s = zeroSt ∧ c = 1 := by
        rcases HDI.out with ⟨h, _⟩ | ⟨_, h1, h2⟩
        · rw [HNO.out] at h; cases h
        · exact ⟨h1, h2⟩
      exact ⟨none, 0, 0, none, 0, 0, rfl, Lies.zero _ _, HXz.out⟩
  | some r8 =>
    have HHS := Lib.hid (headS_some HC1.out HT2.out HT3.out HTS4.out HT5.out HT6.out HT7.out HT8.out HM1.out HN2.out HN3.out HNS4.out HN5.out HN6.out HN7.out HN8.out HZ8.out.symm)
    cases hL : takeL r8 64 with
    | none =>
      have HTL := Lib.hid hL
      have HNO : Hid (decS xs = none) := Lib.hid (decR_head (by rw [HHS.out, hL]; rfl))
      clear hL
      have HROW := Lib.hid hrow
      have HSL := Lib.hid hsl
      obtain ⟨d0, d1, f0, f1⟩ := row2_cell hrow
      simp only [Option.isSome_some] at d1
      have hGb : G < wb.heap.size := by omega
      clear hrow hsl
      go_upto_region 7 with (first
        | (go_at_call 99
           refine (takeInts02_none vb r8 64 wb HSL.out (by have := HLB.out; simp only [Option.getD_some] at this; omega) HTL.out).mono ?_
           rintro e w9 ⟨u1, u2, rfl, ⟨lo, lc, rfl, hlo⟩, ⟨ao9, cap9, rfl, hc9, hs9⟩, hex⟩
           obtain ⟨ln, hln⟩ : ∃ ln, ln = (([] : List Int)).length := ⟨_, rfl⟩
           obtain ⟨m9, hm9⟩ : ∃ m9, m9 = (([] : List UInt8)).length := ⟨_, rfl⟩
           rw [← hln, ← hm9]
           rw [← hm9] at hc9
           have HLN := Lib.hid hln
           have HLO := Lib.hid hlo
           have HU9 : Hid (SlC (fun b => wb.heap.size ≤ b) w9 (.slice ao9 m9 cap9) (([] : List UInt8))) := Lib.hid ⟨ao9, cap9, by rw [hm9], by omega, hs9⟩
           have hz9 : wb.heap.size ≤ w9.heap.size := hex.size
           have HX9 : Hid (Ex w.heap.size none w w9) := Lib.hid (HXb.out.trans hex (by omega) (by simp))
           have HR9 : Hid (w9.heap[w.heap.size]? = some (.cells zSt 27 (0, 0))) := Lib.hid ((hex.block _ (by omega) (by simp)).trans HRb.out)
           have HSR9 : Hid (w9.heap[S]? = some (.cells #[.int .i64 n1, .int .i64 n2, .string n3, .int .i64 n4, .int .i64 n5, .int .i64 n6, .int .i64 n7, .int .i64 n8, .slice none 0 0, .slice none 0 0, .string ⟨#[]⟩, .int .i64 0, .string ⟨#[]⟩] 27 (0, 0))) := Lib.hid ((hex.block S (by omega) (by simp)).trans HSRb.out)
           have HG9 := Lib.hid ((hex.block G hGb (by simp)).trans HROW.out)
           clear d0 d1 f0 f1
           obtain ⟨d0, d1, f0, f1⟩ := row2_cell HG9.out
           simp only [Option.isSome_some] at d1
           have hsr := HSR9.out
           have e8 : w9.cell? ⟨S, 8, none⟩ = some (.slice none 0 0) := by rw [cell_of_row _ _ _ _ _ _ hsr]; rfl
           have f8 := row_frz hsr 8
           clear hsr hln hm9 hc9 hs9 hlo hex)
        | fail)
      obtain ⟨wc, hw⟩ : ∃ wc, wc = ((w9.setCell ⟨S, 8, none⟩ (.slice lo ln lc)).setCell ⟨G, 0, none⟩ (.slice ao9 m9 cap9)).setCell ⟨G, 1, none⟩ (.bool false) := ⟨_, rfl⟩
      have hx1 : Ex w9.heap.size (some S) w9 (w9.setCell ⟨S, 8, none⟩ (.slice lo ln lc)) := (Ex.refl _ _ _).setCell 8 none _ (.inl rfl)
      have hx2 : Ex (w9.setCell ⟨S, 8, none⟩ (.slice lo ln lc)).heap.size (some G) (w9.setCell ⟨S, 8, none⟩ (.slice lo ln lc)) wc := by rw [hw]; exact ((Ex.refl _ _ _).setCell 0 none _ (.inl rfl)).setCell 1 none _ (.inl rfl)
      have hy1 := hx1.size
      have hy2 := hx2.size
      have hkp : ∀ b, b < w9.heap.size → b ≠ S → b ≠ G → wc.heap[b]? = w9.heap[b]? := fun b hb h1 h2 => (hx2.block b (by omega) (by intro e; exact h2 (Option.some.inj e))).trans (hx1.block b hb (by intro e; exact h1 (Option.some.inj e)))
      have HSRc : Hid (wc.heap[S]? = some (.cells #[.int .i64 n1, .int .i64 n2, .string n3, .int .i64 n4, .int .i64 n5, .int .i64 n6, .int .i64 n7, .int .i64 n8, .slice lo ln lc, .slice none 0 0, .string ⟨#[]⟩, .int .i64 0, .string ⟨#[]⟩] 27 (0, 0))) := Lib.hid ((hx2.block S (by omega) (by intro e; have := Option.some.inj e; omega)).trans (by rw [row_set HSR9.out]; rfl))
      have HRc : Hid (wc.heap[w.heap.size]? = some (.cells zSt 27 (0, 0))) := Lib.hid ((hkp _ (by omega) (by omega) (by omega)).trans HR9.out)
      have HXc : Hid (Ex w.heap.size none w wc) := Lib.hid (by rw [hw]; exact ((HX9.out.setCell 8 none _ (.inr (by omega))).setCell 0 none _ (.inr (by omega))).setCell 1 none _ (.inr (by omega)))
      have HGc : Hid (wc.heap[G]? = some (.cells #[.slice ao9 m9 cap9, .bool false] 128 (0, 0))) := Lib.hid (by rw [hw]; exact row2_set ((hx1.block G (by omega) (by intro e; have := Option.some.inj e; omega)).trans HG9.out))
      have Hc : Hid (Rd3 wc G (none : Option (List UInt8))) := Lib.hid ⟨.slice ao9 m9 cap9, HGc.out, (HU9.out.mono (P' := fun b => (b ≠ G ∧ True) ∧ b ≠ S) fun b hb _ => ⟨⟨by omega, trivial⟩, by omega⟩).keep (w' := wc) (fun b hb hlt => hkp b hlt hb.2 hb.1.1) |>.mono fun b hb _ => hb.1⟩
      have HLIc : Hid (Sl intRep (fun b => wb.heap.size ≤ b) wc (.slice lo ln lc) ([] : List Int)) := Lib.hid ⟨lo, lc, by rw [HLN.out], HLO.out.keep (by decide) fun b hb hlt => hkp b hlt (by omega) (by omega)⟩
      have hSc : S < wc.heap.size := by omega
      have hzc : wb.heap.size ≤ wc.heap.size := by omega
      have HLc : Hid (((none : Option (List UInt8)).getD []).length ≤ 1000) := Lib.hid (Nat.zero_le _)
      rw [← hw]
      clear hw hx1 hx2 hy1 hy2 hkp d0 d1 f0 f1 e8 f8
      go_upto_region 8 with (first
        | (go_at_call 97
           fail_if_success (first | have _x := HX7 | fail)
           have _y := HXc
           refine (read3Int_z G none wc Hc.out (by simp) rfl).mono ?_
           rintro e w7 ⟨rfl, hrd, hex⟩
           have HQ7 := Lib.hid hrd
           have H7 := Lib.hid hrd.any
           have HX7 : Hid (Ex w.heap.size none w w7) := Lib.hid (HXc.out.trans hex (by omega) (by intro q e hlt; have := Option.some.inj e; omega))
           have HR7 : Hid (w7.heap[w.heap.size]? = some (.cells zSt 27 (0, 0))) := Lib.hid ((hex.block _ (by omega) (by intro e; have := Option.some.inj e; omega)).trans HRc.out)
           have HSR7 : Hid (w7.heap[S]? = some (.cells #[.int .i64 n1, .int .i64 n2, .string n3, .int .i64 n4, .int .i64 n5, .int .i64 n6, .int .i64 n7, .int .i64 n8, .slice lo ln lc, .slice none 0 0, .string ⟨#[]⟩, .int .i64 0, .string ⟨#[]⟩] 27 (0, 0))) := Lib.hid ((hex.block S (by omega) (by intro e; have := Option.some.inj e; omega)).trans HSRc.out)
           have hS7 : S < w7.heap.size := by have := hex.size; omega
           clear hrd hex)
        | fail)
      go_wp2_with (fail)
      go_loopw [9] (fun i wr => i = .int .i64 0 ∧ w7 = wr) (fun _ _ => 0)
      case atStart => exact ⟨rfl, rfl⟩
      case round =>
        obtain ⟨rfl, rfl⟩ := hrel
        go_upto_region 15 with (first
          | (go_at_call 98
             fail_if_success (first | have _x := HXt | fail)
             have _y := HX7
             refine (read3Text_z G none 4096 w7 H7.out (by simp) rfl).mono ?_
             rintro e wt ⟨rfl, hrd, hex⟩
             have HQt := Lib.hid hrd
             have Ht := Lib.hid hrd.any
             have HXt : Hid (Ex w.heap.size none w wt) := Lib.hid (HX7.out.trans hex (by omega) (by intro q e hlt; have := Option.some.inj e; omega))
             have HRt : Hid (wt.heap[w.heap.size]? = some (.cells zSt 27 (0, 0))) := Lib.hid ((hex.block _ (by omega) (by intro e; have := Option.some.inj e; omega)).trans HR7.out)
             have HSRt : Hid (wt.heap[S]? = some (.cells #[.int .i64 n1, .int .i64 n2, .string n3, .int .i64 n4, .int .i64 n5, .int .i64 n6, .int .i64 n7, .int .i64 n8, .slice lo ln lc, .slice none 0 0, .string ⟨#[]⟩, .int .i64 0, .string ⟨#[]⟩] 27 (0, 0))) := Lib.hid ((hex.block S (by omega) (by intro e; have := Option.some.inj e; omega)).trans HSR7.out)
             have hSt : S < wt.heap.size := by have := hex.size; omega
             have hsr := HSRt.out
             have e10 : wt.cell? ⟨S, 10, none⟩ = some (.string ⟨#[]⟩) := by rw [cell_of_row _ _ _ _ _ _ hsr]; rfl
             have f10 := row_frz hsr 10
             clear hsr
             clear hrd hex)
          | fail)
        obtain ⟨wu, hw⟩ : ∃ wu, wu = (wt.setCell ⟨S, 10, none⟩ (.string ⟨#[]⟩)) := ⟨_, rfl⟩
        have hxs : Ex wt.heap.size (some S) wt wu := by rw [hw]; exact ((Ex.refl _ _ _).setCell 10 none _ (.inl rfl))
        have HSRu : Hid (wu.heap[S]? = some (.cells #[.int .i64 n1, .int .i64 n2, .string n3, .int .i64 n4, .int .i64 n5, .int .i64 n6, .int .i64 n7, .int .i64 n8, .slice lo ln lc, .slice none 0 0, .string ⟨#[]⟩, .int .i64 0, .string ⟨#[]⟩] 27 (0, 0))) := Lib.hid (by rw [hw, (row_set HSRt.out)]; rfl)
        have HRu : Hid (wu.heap[w.heap.size]? = some (.cells zSt 27 (0, 0))) := Lib.hid ((hxs.block _ (by omega) (by intro e; have := Option.some.inj e; omega)).trans HRt.out)
        have HXu : Hid (Ex w.heap.size none w wu) := Lib.hid (by rw [hw]; exact (HXt.out.setCell 10 none _ (.inr (by omega))))
        have Hu : Hid (Rd3 wu G none) := Lib.hid (HQt.out.keep fun b hb hlt => hxs.block b hlt (by intro e; have := Option.some.inj e; rcases hb with hb | hb <;> omega)).any
        have hSu : S < wu.heap.size := by have := hxs.size; omega
        have HKSu := Lib.hid hxs
        rw [← hw]
        clear hw e10 f10
        go_upto_region 16 with (first
          | (go_at_call 97
             fail_if_success (first | have _x := HXx | fail)
             have _y := HXu
             refine (read3Int_z G none wu Hu.out (by simp) rfl).mono ?_
             rintro e wx ⟨rfl, hrd, hex⟩
             have HQx := Lib.hid hrd
             have Hx := Lib.hid hrd.any
             have HXx : Hid (Ex w.heap.size none w wx) := Lib.hid (HXu.out.trans hex (by omega) (by intro q e hlt; have := Option.some.inj e; omega))
             have HRx : Hid (wx.heap[w.heap.size]? = some (.cells zSt 27 (0, 0))) := Lib.hid ((hex.block _ (by omega) (by intro e; have := Option.some.inj e; omega)).trans HRu.out)
             have HSRx : Hid (wx.heap[S]? = some (.cells #[.int .i64 n1, .int .i64 n2, .string n3, .int .i64 n4, .int .i64 n5, .int .i64 n6, .int .i64 n7, .int .i64 n8, .slice lo ln lc, .slice none 0 0, .string ⟨#[]⟩, .int .i64 0, .string ⟨#[]⟩] 27 (0, 0))) := Lib.hid ((hex.block S (by omega) (by intro e; have := Option.some.inj e; omega)).trans HSRu.out)
             have hSx : S < wx.heap.size := by have := hex.size; omega
             clear hrd hex)
          | (go_at_call 98
             fail_if_success (first | have _x := HXy | fail)
             have _y := HXx
             refine (read3Text_z G none 32 wx Hx.out (by simp) rfl).mono ?_
             rintro e wy ⟨rfl, hrd, hex⟩
             have HQy := Lib.hid hrd
             have Hy := Lib.hid hrd.any
             have HXy : Hid (Ex w.heap.size none w wy) := Lib.hid (HXx.out.trans hex (by omega) (by intro q e hlt; have := Option.some.inj e; omega))
             have HRy : Hid (wy.heap[w.heap.size]? = some (.cells zSt 27 (0, 0))) := Lib.hid ((hex.block _ (by omega) (by intro e; have := Option.some.inj e; omega)).trans HRx.out)
             have HSRy : Hid (wy.heap[S]? = some (.cells #[.int .i64 n1, .int .i64 n2, .string n3, .int .i64 n4, .int .i64 n5, .int .i64 n6, .int .i64 n7, .int .i64 n8, .slice lo ln lc, .slice none 0 0, .string ⟨#[]⟩, .int .i64 0, .string ⟨#[]⟩] 27 (0, 0))) := Lib.hid ((hex.block S (by omega) (by intro e; have := Option.some.inj e; omega)).trans HSRx.out)
             have hSy : S < wy.heap.size := by have := hex.size; omega
             have hsr := HSRy.out
             have e11 : wy.cell? ⟨S, 11, none⟩ = some (.int .i64 0) := by rw [cell_of_row _ _ _ _ _ _ hsr]; rfl
             have f11 := row_frz hsr 11
             have e12 : wy.cell? ⟨S, 12, none⟩ = some (.string ⟨#[]⟩) := by rw [cell_of_row _ _ _ _ _ _ hsr]; rfl
             have f12 := row_frz hsr 12
             clear hsr
             clear hrd hex)
          | fail)
        obtain ⟨wv, hw⟩ : ∃ wv, wv = ((wy.setCell ⟨S, 11, none⟩ (.int .i64 0)).setCell ⟨S, 12, none⟩ (.string ⟨#[]⟩)) := ⟨_, rfl⟩
        have hxs : Ex wy.heap.size (some S) wy wv := by rw [hw]; exact (((Ex.refl _ _ _).setCell 11 none _ (.inl rfl)).setCell 12 none _ (.inl rfl))
        have HSRv : Hid (wv.heap[S]? = some (.cells #[.int .i64 n1, .int .i64 n2, .string n3, .int .i64 n4, .int .i64 n5, .int .i64 n6, .int .i64 n7, .int .i64 n8, .slice lo ln lc, .slice none 0 0, .string ⟨#[]⟩, .int .i64 0, .string ⟨#[]⟩] 27 (0, 0))) := Lib.hid (by rw [hw, (row_set (row_set HSRy.out))]; rfl)
        have HRv : Hid (wv.heap[w.heap.size]? = some (.cells zSt 27 (0, 0))) := Lib.hid ((hxs.block _ (by omega) (by intro e; have := Option.some.inj e; omega)).trans HRy.out)
        have HXv : Hid (Ex w.heap.size none w wv) := Lib.hid (by rw [hw]; exact ((HXy.out.setCell 11 none _ (.inr (by omega))).setCell 12 none _ (.inr (by omega))))
        have Hv : Hid (Rd3 wv G none) := Lib.hid (HQy.out.keep fun b hb hlt => hxs.block b hlt (by intro e; have := Option.some.inj e; rcases hb with hb | hb <;> omega)).any
        have hSv : S < wv.heap.size := by have := hxs.size; omega
        have HKSv := Lib.hid hxs
        rw [← hw]
        clear hw e11 f11 e12 f12
        obtain ⟨vq, hgv, _⟩ := Hv.out
        have e1 := (row2_cell hgv).2.1
        simp only [Option.isSome_none] at e1
        clear hgv
        go_upto_region 17 with (fail)
        clear e1
        have hst := run_rowStore (P := Tryz.prog) wv w.heap.size 27 27 zSt zSt HRv.out Tryz.sizeStm rfl (by simp [Value.oneCell'])
        obtain ⟨wz, hw⟩ : ∃ wz, wz = wv.setRow w.heap.size zSt := ⟨_, rfl⟩
        rw [← hw] at hst
        have HRz : Hid (wz.heap[w.heap.size]? = some (.cells zSt 27 (0, 0))) := Lib.hid (by rw [hw]; exact setRow_heap _ _ _ _ _ _ HRv.out)
        have HXz : Hid (Ex w.heap.size none w wz) := Lib.hid (by rw [hw]; exact HXv.out.setRow _ _ (.inr (Nat.le_refl _)))
        clear hw
        go_wp2_with (fail)
        clear hst
        have hr := run_loadVar_row (P := Tryz.prog) wz w.heap.size 27 27 zSt (0, 0) _ HRz.out Tryz.underlying27 rfl Tryz.sizeStm
        refine bodyPost_ret (v := .tuple #[.agg zSt, .int .i64 1]) ?_ rfl ?_
        · rw [results_cell_tmp Tryz.results53]
          show ((loadVar 27 ⟨w.heap.size, 0, none⟩).run Tryz.prog _).andThen _ = _
          rw [hr]
          rfl
        obtain ⟨rfl, rfl⟩ : s = zeroSt ∧ c = 1 := by
          rcases HDI.out with ⟨h, _⟩ | ⟨_, h1, h2⟩
          · rw [HNO.out] at h; cases h
          · exact ⟨h1, h2⟩
        exact ⟨none, 0, 0, none, 0, 0, rfl, Lies.zero _ _, HXz.out⟩
    | some q9 =>
      obtain ⟨l9, r9⟩ := q9
      have HTL := Lib.hid hL
      clear hL
      have HROW := Lib.hid hrow
      have HSL := Lib.hid hsl
      obtain ⟨d0, d1, f0, f1⟩ := row2_cell hrow
      simp only [Option.isSome_some] at d1
      have hGb : G < wb.heap.size := by omega
      clear hrow hsl
      go_upto_region 7 with (first
        | (go_at_call 99
           refine (takeInts02_some vb r8 64 wb HSL.out (by have := HLB.out; simp only [Option.getD_some] at this; omega) HTL.out).mono ?_
           rintro e w9 ⟨u1, u2, rfl, ⟨lo, lc, rfl, hlo⟩, ⟨ao9, cap9, rfl, hc9, hs9⟩, hex⟩
           obtain ⟨ln, hln⟩ : ∃ ln, ln = (l9).length := ⟨_, rfl⟩
           obtain ⟨m9, hm9⟩ : ∃ m9, m9 = (r9).length := ⟨_, rfl⟩
           rw [← hln, ← hm9]
           rw [← hm9] at hc9
           have HLN := Lib.hid hln
           have HLO := Lib.hid hlo
           have HU9 : Hid (SlC (fun b => wb.heap.size ≤ b) w9 (.slice ao9 m9 cap9) (r9)) := Lib.hid ⟨ao9, cap9, by rw [hm9], by omega, hs9⟩
           have hz9 : wb.heap.size ≤ w9.heap.size := hex.size
           have HX9 : Hid (Ex w.heap.size none w w9) := Lib.hid (HXb.out.trans hex (by omega) (by simp))
           have HR9 : Hid (w9.heap[w.heap.size]? = some (.cells zSt 27 (0, 0))) := Lib.hid ((hex.block _ (by omega) (by simp)).trans HRb.out)
           have HSR9 : Hid (w9.heap[S]? = some (.cells #[.int .i64 n1, .int .i64 n2, .string n3, .int .i64 n4, .int .i64 n5, .int .i64 n6, .int .i64 n7, .int .i64 n8, .slice none 0 0, .slice none 0 0, .string ⟨#[]⟩, .int .i64 0, .string ⟨#[]⟩] 27 (0, 0))) := Lib.hid ((hex.block S (by omega) (by simp)).trans HSRb.out)
           have HG9 := Lib.hid ((hex.block G hGb (by simp)).trans HROW.out)
           clear d0 d1 f0 f1
           obtain ⟨d0, d1, f0, f1⟩ := row2_cell HG9.out
           simp only [Option.isSome_some] at d1
           have hsr := HSR9.out
           have e8 : w9.cell? ⟨S, 8, none⟩ = some (.slice none 0 0) := by rw [cell_of_row _ _ _ _ _ _ hsr]; rfl
           have f8 := row_frz hsr 8
           clear hsr hln hm9 hc9 hs9 hlo hex)
        | fail)
      obtain ⟨wc, hw⟩ : ∃ wc, wc = ((w9.setCell ⟨S, 8, none⟩ (.slice lo ln lc)).setCell ⟨G, 0, none⟩ (.slice ao9 m9 cap9)).setCell ⟨G, 1, none⟩ (.bool true) := ⟨_, rfl⟩
      have hx1 : Ex w9.heap.size (some S) w9 (w9.setCell ⟨S, 8, none⟩ (.slice lo ln lc)) := (Ex.refl _ _ _).setCell 8 none _ (.inl rfl)
      have hx2 : Ex (w9.setCell ⟨S, 8, none⟩ (.slice lo ln lc)).heap.size (some G) (w9.setCell ⟨S, 8, none⟩ (.slice lo ln lc)) wc := by rw [hw]; exact ((Ex.refl _ _ _).setCell 0 none _ (.inl rfl)).setCell 1 none _ (.inl rfl)
      have hy1 := hx1.size
      have hy2 := hx2.size
      have hkp : ∀ b, b < w9.heap.size → b ≠ S → b ≠ G → wc.heap[b]? = w9.heap[b]? := fun b hb h1 h2 => (hx2.block b (by omega) (by intro e; exact h2 (Option.some.inj e))).trans (hx1.block b hb (by intro e; exact h1 (Option.some.inj e)))
      have HSRc : Hid (wc.heap[S]? = some (.cells #[.int .i64 n1, .int .i64 n2, .string n3, .int .i64 n4, .int .i64 n5, .int .i64 n6, .int .i64 n7, .int .i64 n8, .slice lo ln lc, .slice none 0 0, .string ⟨#[]⟩, .int .i64 0, .string ⟨#[]⟩] 27 (0, 0))) := Lib.hid ((hx2.block S (by omega) (by intro e; have := Option.some.inj e; omega)).trans (by rw [row_set HSR9.out]; rfl))
      have HRc : Hid (wc.heap[w.heap.size]? = some (.cells zSt 27 (0, 0))) := Lib.hid ((hkp _ (by omega) (by omega) (by omega)).trans HR9.out)
      have HXc : Hid (Ex w.heap.size none w wc) := Lib.hid (by rw [hw]; exact ((HX9.out.setCell 8 none _ (.inr (by omega))).setCell 0 none _ (.inr (by omega))).setCell 1 none _ (.inr (by omega)))
      have HGc : Hid (wc.heap[G]? = some (.cells #[.slice ao9 m9 cap9, .bool true] 128 (0, 0))) := Lib.hid (by rw [hw]; exact row2_set ((hx1.block G (by omega) (by intro e; have := Option.some.inj e; omega)).trans HG9.out))
      have Hc : Hid (Rd3 wc G (some r9)) := Lib.hid ⟨.slice ao9 m9 cap9, HGc.out, (HU9.out.mono (P' := fun b => (b ≠ G ∧ True) ∧ b ≠ S) fun b hb _ => ⟨⟨by omega, trivial⟩, by omega⟩).keep (w' := wc) (fun b hb hlt => hkp b hlt hb.2 hb.1.1) |>.mono fun b hb _ => hb.1⟩
      have HLIc : Hid (Sl intRep (fun b => wb.heap.size ≤ b) wc (.slice lo ln lc) l9) := Lib.hid ⟨lo, lc, by rw [HLN.out], HLO.out.keep (by decide) fun b hb hlt => hkp b hlt (by omega) (by omega)⟩
      have hSc : S < wc.heap.size := by omega
      have hzc : wb.heap.size ≤ wc.heap.size := by omega
      have HLc : Hid (((some r9).getD []).length ≤ 1000) := Lib.hid (takeL_lenL HTL.out (by have := HLB.out; simpa using this))
      rw [← hw]
      clear hw hx1 hx2 hy1 hy2 hkp d0 d1 f0 f1 e8 f8
      cases hI : takeI r9 with
      | none =>
        have HTI := Lib.hid hI
        have HNO : Hid (decS xs = none) := Lib.hid (decR_head (by rw [HHS.out, HTL.out]; simp only [Option.bind_some, hI, Option.map_none]))
        clear hI
        go_upto_region 8 with (first
          | (go_at_call 97
             fail_if_success (first | have _x := HX7 | fail)
             have _y := HXc
             refine (read3Int_z G (some r9) wc Hc.out (by have := HLc.out; omega) (by simp only [Option.bind_some]; exact HTI.out)).mono ?_
             rintro e w7 ⟨rfl, hrd, hex⟩
             have HQ7 := Lib.hid hrd
             have H7 := Lib.hid hrd.any
             have HX7 : Hid (Ex w.heap.size none w w7) := Lib.hid (HXc.out.trans hex (by omega) (by intro q e hlt; have := Option.some.inj e; omega))
             have HR7 : Hid (w7.heap[w.heap.size]? = some (.cells zSt 27 (0, 0))) := Lib.hid ((hex.block _ (by omega) (by intro e; have := Option.some.inj e; omega)).trans HRc.out)
             have HSR7 : Hid (w7.heap[S]? = some (.cells #[.int .i64 n1, .int .i64 n2, .string n3, .int .i64 n4, .int .i64 n5, .int .i64 n6, .int .i64 n7, .int .i64 n8, .slice lo ln lc, .slice none 0 0, .string ⟨#[]⟩, .int .i64 0, .string ⟨#[]⟩] 27 (0, 0))) := Lib.hid ((hex.block S (by omega) (by intro e; have := Option.some.inj e; omega)).trans HSRc.out)
             have hS7 : S < w7.heap.size := by have := hex.size; omega
             clear hrd hex)
          | fail)
        go_wp2_with (fail)
        go_loopw [9] (fun i wr => i = .int .i64 0 ∧ w7 = wr) (fun _ _ => 0)
        case atStart => exact ⟨rfl, rfl⟩
        case round =>
          obtain ⟨rfl, rfl⟩ := hrel
          go_upto_region 15 with (first
            | (go_at_call 98
               fail_if_success (first | have _x := HXt | fail)
               have _y := HX7
               refine (read3Text_z G none 4096 w7 H7.out (by simp) rfl).mono ?_
               rintro e wt ⟨rfl, hrd, hex⟩
               have HQt := Lib.hid hrd
               have Ht := Lib.hid hrd.any
               have HXt : Hid (Ex w.heap.size none w wt) := Lib.hid (HX7.out.trans hex (by omega) (by intro q e hlt; have := Option.some.inj e; omega))
               have HRt : Hid (wt.heap[w.heap.size]? = some (.cells zSt 27 (0, 0))) := Lib.hid ((hex.block _ (by omega) (by intro e; have := Option.some.inj e; omega)).trans HR7.out)
               have HSRt : Hid (wt.heap[S]? = some (.cells #[.int .i64 n1, .int .i64 n2, .string n3, .int .i64 n4, .int .i64 n5, .int .i64 n6, .int .i64 n7, .int .i64 n8, .slice lo ln lc, .slice none 0 0, .string ⟨#[]⟩, .int .i64 0, .string ⟨#[]⟩] 27 (0, 0))) := Lib.hid ((hex.block S (by omega) (by intro e; have := Option.some.inj e; omega)).trans HSR7.out)
               have hSt : S < wt.heap.size := by have := hex.size; omega
               have hsr := HSRt.out
               have e10 : wt.cell? ⟨S, 10, none⟩ = some (.string ⟨#[]⟩) := by rw [cell_of_row _ _ _ _ _ _ hsr]; rfl
               have f10 := row_frz hsr 10
               clear hsr
               clear hrd hex)
            | fail)
          obtain ⟨wu, hw⟩ : ∃ wu, wu = (wt.setCell ⟨S, 10, none⟩ (.string ⟨#[]⟩)) := ⟨_, rfl⟩
          have hxs : Ex wt.heap.size (some S) wt wu := by rw [hw]; exact ((Ex.refl _ _ _).setCell 10 none _ (.inl rfl))
          have HSRu : Hid (wu.heap[S]? = some (.cells #[.int .i64 n1, .int .i64 n2, .string n3, .int .i64 n4, .int .i64 n5, .int .i64 n6, .int .i64 n7, .int .i64 n8, .slice lo ln lc, .slice none 0 0, .string ⟨#[]⟩, .int .i64 0, .string ⟨#[]⟩] 27 (0, 0))) := Lib.hid (by rw [hw, (row_set HSRt.out)]; rfl)
          have HRu : Hid (wu.heap[w.heap.size]? = some (.cells zSt 27 (0, 0))) := Lib.hid ((hxs.block _ (by omega) (by intro e; have := Option.some.inj e; omega)).trans HRt.out)
          have HXu : Hid (Ex w.heap.size none w wu) := Lib.hid (by rw [hw]; exact (HXt.out.setCell 10 none _ (.inr (by omega))))
          have Hu : Hid (Rd3 wu G none) := Lib.hid (HQt.out.keep fun b hb hlt => hxs.block b hlt (by intro e; have := Option.some.inj e; rcases hb with hb | hb <;> omega)).any
          have hSu : S < wu.heap.size := by have := hxs.size; omega
          have HKSu := Lib.hid hxs
          rw [← hw]
          clear hw e10 f10
          go_upto_region 16 with (first
            | (go_at_call 97
               fail_if_success (first | have _x := HXx | fail)
               have _y := HXu
               refine (read3Int_z G none wu Hu.out (by simp) rfl).mono ?_
               rintro e wx ⟨rfl, hrd, hex⟩
               have HQx := Lib.hid hrd
               have Hx := Lib.hid hrd.any
               have HXx : Hid (Ex w.heap.size none w wx) := Lib.hid (HXu.out.trans hex (by omega) (by intro q e hlt; have := Option.some.inj e; omega))
               have HRx : Hid (wx.heap[w.heap.size]? = some (.cells zSt 27 (0, 0))) := Lib.hid ((hex.block _ (by omega) (by intro e; have := Option.some.inj e; omega)).trans HRu.out)
               have HSRx : Hid (wx.heap[S]? = some (.cells #[.int .i64 n1, .int .i64 n2, .string n3, .int .i64 n4, .int .i64 n5, .int .i64 n6, .int .i64 n7, .int .i64 n8, .slice lo ln lc, .slice none 0 0, .string ⟨#[]⟩, .int .i64 0, .string ⟨#[]⟩] 27 (0, 0))) := Lib.hid ((hex.block S (by omega) (by intro e; have := Option.some.inj e; omega)).trans HSRu.out)
               have hSx : S < wx.heap.size := by have := hex.size; omega
               clear hrd hex)
            | (go_at_call 98
               fail_if_success (first | have _x := HXy | fail)
               have _y := HXx
               refine (read3Text_z G none 32 wx Hx.out (by simp) rfl).mono ?_
               rintro e wy ⟨rfl, hrd, hex⟩
               have HQy := Lib.hid hrd
               have Hy := Lib.hid hrd.any
               have HXy : Hid (Ex w.heap.size none w wy) := Lib.hid (HXx.out.trans hex (by omega) (by intro q e hlt; have := Option.some.inj e; omega))
               have HRy : Hid (wy.heap[w.heap.size]? = some (.cells zSt 27 (0, 0))) := Lib.hid ((hex.block _ (by omega) (by intro e; have := Option.some.inj e; omega)).trans HRx.out)
               have HSRy : Hid (wy.heap[S]? = some (.cells #[.int .i64 n1, .int .i64 n2, .string n3, .int .i64 n4, .int .i64 n5, .int .i64 n6, .int .i64 n7, .int .i64 n8, .slice lo ln lc, .slice none 0 0, .string ⟨#[]⟩, .int .i64 0, .string ⟨#[]⟩] 27 (0, 0))) := Lib.hid ((hex.block S (by omega) (by intro e; have := Option.some.inj e; omega)).trans HSRx.out)
               have hSy : S < wy.heap.size := by have := hex.size; omega
               have hsr := HSRy.out
               have e11 : wy.cell? ⟨S, 11, none⟩ = some (.int .i64 0) := by rw [cell_of_row _ _ _ _ _ _ hsr]; rfl
               have f11 := row_frz hsr 11
               have e12 : wy.cell? ⟨S, 12, none⟩ = some (.string ⟨#[]⟩) := by rw [cell_of_row _ _ _ _ _ _ hsr]; rfl
               have f12 := row_frz hsr 12
               clear hsr
               clear hrd hex)
            | fail)
          obtain ⟨wv, hw⟩ : ∃ wv, wv = ((wy.setCell ⟨S, 11, none⟩ (.int .i64 0)).setCell ⟨S, 12, none⟩ (.string ⟨#[]⟩)) := ⟨_, rfl⟩
          have hxs : Ex wy.heap.size (some S) wy wv := by rw [hw]; exact (((Ex.refl _ _ _).setCell 11 none _ (.inl rfl)).setCell 12 none _ (.inl rfl))
          have HSRv : Hid (wv.heap[S]? = some (.cells #[.int .i64 n1, .int .i64 n2, .string n3, .int .i64 n4, .int .i64 n5, .int .i64 n6, .int .i64 n7, .int .i64 n8, .slice lo ln lc, .slice none 0 0, .string ⟨#[]⟩, .int .i64 0, .string ⟨#[]⟩] 27 (0, 0))) := Lib.hid (by rw [hw, (row_set (row_set HSRy.out))]; rfl)
          have HRv : Hid (wv.heap[w.heap.size]? = some (.cells zSt 27 (0, 0))) := Lib.hid ((hxs.block _ (by omega) (by intro e; have := Option.some.inj e; omega)).trans HRy.out)
          have HXv : Hid (Ex w.heap.size none w wv) := Lib.hid (by rw [hw]; exact ((HXy.out.setCell 11 none _ (.inr (by omega))).setCell 12 none _ (.inr (by omega))))
          have Hv : Hid (Rd3 wv G none) := Lib.hid (HQy.out.keep fun b hb hlt => hxs.block b hlt (by intro e; have := Option.some.inj e; rcases hb with hb | hb <;> omega)).any
          have hSv : S < wv.heap.size := by have := hxs.size; omega
          have HKSv := Lib.hid hxs
          rw [← hw]
          clear hw e11 f11 e12 f12
          obtain ⟨vq, hgv, _⟩ := Hv.out
          have e1 := (row2_cell hgv).2.1
          simp only [Option.isSome_none] at e1
          clear hgv
          go_upto_region 17 with (fail)
          clear e1
          have hst := run_rowStore (P := Tryz.prog) wv w.heap.size 27 27 zSt zSt HRv.out Tryz.sizeStm rfl (by simp [Value.oneCell'])
          obtain ⟨wz, hw⟩ : ∃ wz, wz = wv.setRow w.heap.size zSt := ⟨_, rfl⟩
          rw [← hw] at hst
          have HRz : Hid (wz.heap[w.heap.size]? = some (.cells zSt 27 (0, 0))) := Lib.hid (by rw [hw]; exact setRow_heap _ _ _ _ _ _ HRv.out)
          have HXz : Hid (Ex w.heap.size none w wz) := Lib.hid (by rw [hw]; exact HXv.out.setRow _ _ (.inr (Nat.le_refl _)))
          clear hw
          go_wp2_with (fail)
          clear hst
          have hr := run_loadVar_row (P := Tryz.prog) wz w.heap.size 27 27 zSt (0, 0) _ HRz.out Tryz.underlying27 rfl Tryz.sizeStm
          refine bodyPost_ret (v := .tuple #[.agg zSt, .int .i64 1]) ?_ rfl ?_
          · rw [results_cell_tmp Tryz.results53]
            show ((loadVar 27 ⟨w.heap.size, 0, none⟩).run Tryz.prog _).andThen _ = _
            rw [hr]
            rfl
          obtain ⟨rfl, rfl⟩ : s = zeroSt ∧ c = 1 := by
            rcases HDI.out with ⟨h, _⟩ | ⟨_, h1, h2⟩
            · rw [HNO.out] at h; cases h
            · exact ⟨h1, h2⟩
          exact ⟨none, 0, 0, none, 0, 0, rfl, Lies.zero _ _, HXz.out⟩
      | some q10 =>
        obtain ⟨n10, r10⟩ := q10
        have HTI := Lib.hid hI
        have HL7 : Hid (r10.length ≤ 1000) := Lib.hid (takeI_lenL hI (by have := HLc.out; simpa using this))
        have HHD : Hid (headS xs = some ((⟨n1, n2, n3, n4, n5, n6, n7, n8, l9, [], ⟨#[]⟩, 0, ⟨#[]⟩⟩ : St), n10, r10)) := Lib.hid (by rw [HHS.out, HTL.out]; simp only [Option.bind_some, hI, Option.map_some])
        clear hI
        go_upto_region 8 with (first
          | (go_at_call 97
             fail_if_success (first | have _x := HX7 | fail)
             have _y := HXc
             refine (read3Int_s G r9 wc Hc.out (by have := HLc.out; simp only [Option.getD_some] at this; omega) HTI.out).mono ?_
             rintro e w7 ⟨rfl, hrd, hex⟩
             have HQ7 := Lib.hid hrd
             have H7 := Lib.hid hrd.any
             have HX7 : Hid (Ex w.heap.size none w w7) := Lib.hid (HXc.out.trans hex (by omega) (by intro q e hlt; have := Option.some.inj e; omega))
             have HR7 : Hid (w7.heap[w.heap.size]? = some (.cells zSt 27 (0, 0))) := Lib.hid ((hex.block _ (by omega) (by intro e; have := Option.some.inj e; omega)).trans HRc.out)
             have HSR7 : Hid (w7.heap[S]? = some (.cells #[.int .i64 n1, .int .i64 n2, .string n3, .int .i64 n4, .int .i64 n5, .int .i64 n6, .int .i64 n7, .int .i64 n8, .slice lo ln lc, .slice none 0 0, .string ⟨#[]⟩, .int .i64 0, .string ⟨#[]⟩] 27 (0, 0))) := Lib.hid ((hex.block S (by omega) (by intro e; have := Option.some.inj e; omega)).trans HSRc.out)
             have hS7 : S < w7.heap.size := by have := hex.size; omega
             have HLI7 : Hid (Sl intRep (fun b => wb.heap.size ≤ b ∧ b < wc.heap.size) w7 (.slice lo ln lc) l9) := Lib.hid ((HLIc.out.mono (P' := fun b => wb.heap.size ≤ b ∧ b < wc.heap.size) (by decide) fun b hb hlt => ⟨hb, hlt⟩).keep (by decide) fun b hb hlt => hex.block b hlt (by intro e; have := Option.some.inj e; omega))
             have hz7 : wc.heap.size ≤ w7.heap.size := hex.size
             clear hrd hex)
          | fail)
        have hrange := takeI_range HTI.out
        go_wp2_with (fail)
        go_loopw [9] (fun i wr => ∃ (k : Nat) (acc : List PinD) (ro : Option Addr) (rc : Nat) (st : Option (List UInt8)), i = .int .i64 (n10 - (k : Int)) ∧ k ≤ 64 ∧ ((k : Int) ≤ n10 ∨ k = 0) ∧ Hid (acc.length = k) ∧ Hid ((∃ r, st = some r ∧ takePs k r10 = some (acc, r)) ∨ (st = none ∧ takePs k r10 = none)) ∧ Hid ((st.getD []).length ≤ 1000) ∧ Hid (Rd3 wr G st) ∧ Hid (OwnE pinE 3 92 wr wc.heap.size ro rc acc) ∧ Hid (wr.heap[S]? = some (.cells #[.int .i64 n1, .int .i64 n2, .string n3, .int .i64 n4, .int .i64 n5, .int .i64 n6, .int .i64 n7, .int .i64 n8, .slice lo ln lc, .slice ro k rc, .string ⟨#[]⟩, .int .i64 0, .string ⟨#[]⟩] 27 (0, 0))) ∧ Hid (wr.heap[w.heap.size]? = some (.cells zSt 27 (0, 0))) ∧ Hid (Sl intRep (fun b => wb.heap.size ≤ b ∧ b < wc.heap.size) wr (.slice lo ln lc) l9) ∧ Hid (Ex w.heap.size none w wr) ∧ wc.heap.size ≤ wr.heap.size) (fun i _ => (intOf i).toNat)
        case atStart => exact ⟨0, [], none, 0, some r10, by simp, by omega, .inr rfl, Lib.hid rfl, Lib.hid (.inl ⟨r10, rfl, rfl⟩), HL7, H7, Lib.hid (OwnE.nil _ _ _ _ _), HSR7, HR7, HLI7, HX7, hz7⟩
        case round =>
          obtain ⟨k, acc, ro, rc, st, rfl, hk64, hkn, HAK, HREL, HLr0, Hr0, HOW, HSRr, HRr, HLIr, HXr, hzr⟩ := hrel
          have hSr : S < wr.heap.size := by omega
          cases st with
          | none =>
            have HNO : Hid (decS xs = none) := Lib.hid (by
              rcases HREL.out with ⟨r, h, _⟩ | ⟨_, h⟩
              · cases h
              · refine decR_tail HHD.out (.inr ?_)
                rcases hkn with h1 | h1
                · exact tailS_none h (by omega)
                · subst h1; cases h)
            have Hr := Hr0
            obtain ⟨vq, hgv, _⟩ := Hr.out
            have e1 := (row2_cell hgv).2.1
            simp only [Option.isSome_none] at e1
            clear hgv
            by_cases hg : 0 < n10 - (k : Int)
            · have hgd : decide (0 < n10 - (k : Int)) = true := decide_eq_true hg
              go_upto_region 15 with (first
                | (go_at_call 98
                   fail_if_success (first | have _x := HXt | fail)
                   have _y := HXr
                   refine (read3Text_z G none 4096 wr Hr.out (by simp) rfl).mono ?_
                   rintro e wt ⟨rfl, hrd, hex⟩
                   have HQt := Lib.hid hrd
                   have Ht := Lib.hid hrd.any
                   have HXt : Hid (Ex w.heap.size none w wt) := Lib.hid (HXr.out.trans hex (by omega) (by intro q e hlt; have := Option.some.inj e; omega))
                   have HRt : Hid (wt.heap[w.heap.size]? = some (.cells zSt 27 (0, 0))) := Lib.hid ((hex.block _ (by omega) (by intro e; have := Option.some.inj e; omega)).trans HRr.out)
                   have HSRt : Hid (wt.heap[S]? = some (.cells #[.int .i64 n1, .int .i64 n2, .string n3, .int .i64 n4, .int .i64 n5, .int .i64 n6, .int .i64 n7, .int .i64 n8, .slice lo ln lc, .slice ro k rc, .string ⟨#[]⟩, .int .i64 0, .string ⟨#[]⟩] 27 (0, 0))) := Lib.hid ((hex.block S (by omega) (by intro e; have := Option.some.inj e; omega)).trans HSRr.out)
                   have hSt : S < wt.heap.size := by have := hex.size; omega
                   have hsr := HSRt.out
                   have e10 : wt.cell? ⟨S, 10, none⟩ = some (.string ⟨#[]⟩) := by rw [cell_of_row _ _ _ _ _ _ hsr]; rfl
                   have f10 := row_frz hsr 10
                   clear hsr
                   clear hrd hex)
                | fail)
              obtain ⟨wu, hw⟩ : ∃ wu, wu = (wt.setCell ⟨S, 10, none⟩ (.string ⟨#[]⟩)) := ⟨_, rfl⟩
              have hxs : Ex wt.heap.size (some S) wt wu := by rw [hw]; exact ((Ex.refl _ _ _).setCell 10 none _ (.inl rfl))
              have HSRu : Hid (wu.heap[S]? = some (.cells #[.int .i64 n1, .int .i64 n2, .string n3, .int .i64 n4, .int .i64 n5, .int .i64 n6, .int .i64 n7, .int .i64 n8, .slice lo ln lc, .slice ro k rc, .string ⟨#[]⟩, .int .i64 0, .string ⟨#[]⟩] 27 (0, 0))) := Lib.hid (by rw [hw, (row_set HSRt.out)]; rfl)
              have HRu : Hid (wu.heap[w.heap.size]? = some (.cells zSt 27 (0, 0))) := Lib.hid ((hxs.block _ (by omega) (by intro e; have := Option.some.inj e; omega)).trans HRt.out)
              have HXu : Hid (Ex w.heap.size none w wu) := Lib.hid (by rw [hw]; exact (HXt.out.setCell 10 none _ (.inr (by omega))))
              have Hu : Hid (Rd3 wu G none) := Lib.hid (HQt.out.keep fun b hb hlt => hxs.block b hlt (by intro e; have := Option.some.inj e; rcases hb with hb | hb <;> omega)).any
              have hSu : S < wu.heap.size := by have := hxs.size; omega
              have HKSu := Lib.hid hxs
              rw [← hw]
              clear hw e10 f10
              go_upto_region 16 with (first
                | (go_at_call 97
                   fail_if_success (first | have _x := HXx | fail)
                   have _y := HXu
                   refine (read3Int_z G none wu Hu.out (by simp) rfl).mono ?_
                   rintro e wx ⟨rfl, hrd, hex⟩
                   have HQx := Lib.hid hrd
                   have Hx := Lib.hid hrd.any
                   have HXx : Hid (Ex w.heap.size none w wx) := Lib.hid (HXu.out.trans hex (by omega) (by intro q e hlt; have := Option.some.inj e; omega))
                   have HRx : Hid (wx.heap[w.heap.size]? = some (.cells zSt 27 (0, 0))) := Lib.hid ((hex.block _ (by omega) (by intro e; have := Option.some.inj e; omega)).trans HRu.out)
                   have HSRx : Hid (wx.heap[S]? = some (.cells #[.int .i64 n1, .int .i64 n2, .string n3, .int .i64 n4, .int .i64 n5, .int .i64 n6, .int .i64 n7, .int .i64 n8, .slice lo ln lc, .slice ro k rc, .string ⟨#[]⟩, .int .i64 0, .string ⟨#[]⟩] 27 (0, 0))) := Lib.hid ((hex.block S (by omega) (by intro e; have := Option.some.inj e; omega)).trans HSRu.out)
                   have hSx : S < wx.heap.size := by have := hex.size; omega
                   clear hrd hex)
                | (go_at_call 98
                   fail_if_success (first | have _x := HXy | fail)
                   have _y := HXx
                   refine (read3Text_z G none 32 wx Hx.out (by simp) rfl).mono ?_
                   rintro e wy ⟨rfl, hrd, hex⟩
                   have HQy := Lib.hid hrd
                   have Hy := Lib.hid hrd.any
                   have HXy : Hid (Ex w.heap.size none w wy) := Lib.hid (HXx.out.trans hex (by omega) (by intro q e hlt; have := Option.some.inj e; omega))
                   have HRy : Hid (wy.heap[w.heap.size]? = some (.cells zSt 27 (0, 0))) := Lib.hid ((hex.block _ (by omega) (by intro e; have := Option.some.inj e; omega)).trans HRx.out)
                   have HSRy : Hid (wy.heap[S]? = some (.cells #[.int .i64 n1, .int .i64 n2, .string n3, .int .i64 n4, .int .i64 n5, .int .i64 n6, .int .i64 n7, .int .i64 n8, .slice lo ln lc, .slice ro k rc, .string ⟨#[]⟩, .int .i64 0, .string ⟨#[]⟩] 27 (0, 0))) := Lib.hid ((hex.block S (by omega) (by intro e; have := Option.some.inj e; omega)).trans HSRx.out)
                   have hSy : S < wy.heap.size := by have := hex.size; omega
                   have hsr := HSRy.out
                   have e11 : wy.cell? ⟨S, 11, none⟩ = some (.int .i64 0) := by rw [cell_of_row _ _ _ _ _ _ hsr]; rfl
                   have f11 := row_frz hsr 11
                   have e12 : wy.cell? ⟨S, 12, none⟩ = some (.string ⟨#[]⟩) := by rw [cell_of_row _ _ _ _ _ _ hsr]; rfl
                   have f12 := row_frz hsr 12
                   clear hsr
                   clear hrd hex)
                | fail)
              obtain ⟨wv, hw⟩ : ∃ wv, wv = ((wy.setCell ⟨S, 11, none⟩ (.int .i64 0)).setCell ⟨S, 12, none⟩ (.string ⟨#[]⟩)) := ⟨_, rfl⟩
              have hxs : Ex wy.heap.size (some S) wy wv := by rw [hw]; exact (((Ex.refl _ _ _).setCell 11 none _ (.inl rfl)).setCell 12 none _ (.inl rfl))
              have HSRv : Hid (wv.heap[S]? = some (.cells #[.int .i64 n1, .int .i64 n2, .string n3, .int .i64 n4, .int .i64 n5, .int .i64 n6, .int .i64 n7, .int .i64 n8, .slice lo ln lc, .slice ro k rc, .string ⟨#[]⟩, .int .i64 0, .string ⟨#[]⟩] 27 (0, 0))) := Lib.hid (by rw [hw, (row_set (row_set HSRy.out))]; rfl)
              have HRv : Hid (wv.heap[w.heap.size]? = some (.cells zSt 27 (0, 0))) := Lib.hid ((hxs.block _ (by omega) (by intro e; have := Option.some.inj e; omega)).trans HRy.out)
              have HXv : Hid (Ex w.heap.size none w wv) := Lib.hid (by rw [hw]; exact ((HXy.out.setCell 11 none _ (.inr (by omega))).setCell 12 none _ (.inr (by omega))))
              have Hv : Hid (Rd3 wv G none) := Lib.hid (HQy.out.keep fun b hb hlt => hxs.block b hlt (by intro e; have := Option.some.inj e; rcases hb with hb | hb <;> omega)).any
              have hSv : S < wv.heap.size := by have := hxs.size; omega
              have HKSv := Lib.hid hxs
              rw [← hw]
              clear hw e11 f11 e12 f12
              obtain ⟨vq, hgv, _⟩ := Hv.out
              have e1 := (row2_cell hgv).2.1
              simp only [Option.isSome_none] at e1
              clear hgv
              go_upto_region 17 with (fail)
              clear e1
              have hst := run_rowStore (P := Tryz.prog) wv w.heap.size 27 27 zSt zSt HRv.out Tryz.sizeStm rfl (by simp [Value.oneCell'])
              obtain ⟨wz, hw⟩ : ∃ wz, wz = wv.setRow w.heap.size zSt := ⟨_, rfl⟩
              rw [← hw] at hst
              have HRz : Hid (wz.heap[w.heap.size]? = some (.cells zSt 27 (0, 0))) := Lib.hid (by rw [hw]; exact setRow_heap _ _ _ _ _ _ HRv.out)
              have HXz : Hid (Ex w.heap.size none w wz) := Lib.hid (by rw [hw]; exact HXv.out.setRow _ _ (.inr (Nat.le_refl _)))
              clear hw
              go_wp2_with (fail)
              clear hst
              have hr := run_loadVar_row (P := Tryz.prog) wz w.heap.size 27 27 zSt (0, 0) _ HRz.out Tryz.underlying27 rfl Tryz.sizeStm
              refine bodyPost_ret (v := .tuple #[.agg zSt, .int .i64 1]) ?_ rfl ?_
              · rw [results_cell_tmp Tryz.results53]
                show ((loadVar 27 ⟨w.heap.size, 0, none⟩).run Tryz.prog _).andThen _ = _
                rw [hr]
                rfl
              obtain ⟨rfl, rfl⟩ : s = zeroSt ∧ c = 1 := by
                rcases HDI.out with ⟨h, _⟩ | ⟨_, h1, h2⟩
                · rw [HNO.out] at h; cases h
                · exact ⟨h1, h2⟩
              exact ⟨none, 0, 0, none, 0, 0, rfl, Lies.zero _ _, HXz.out⟩
            · have hgd : decide (0 < n10 - (k : Int)) = false := decide_eq_false hg
              go_upto_region 15 with (first
                | (go_at_call 98
                   fail_if_success (first | have _x := HXt | fail)
                   have _y := HXr
                   refine (read3Text_z G none 4096 wr Hr.out (by simp) rfl).mono ?_
                   rintro e wt ⟨rfl, hrd, hex⟩
                   have HQt := Lib.hid hrd
                   have Ht := Lib.hid hrd.any
                   have HXt : Hid (Ex w.heap.size none w wt) := Lib.hid (HXr.out.trans hex (by omega) (by intro q e hlt; have := Option.some.inj e; omega))
                   have HRt : Hid (wt.heap[w.heap.size]? = some (.cells zSt 27 (0, 0))) := Lib.hid ((hex.block _ (by omega) (by intro e; have := Option.some.inj e; omega)).trans HRr.out)
                   have HSRt : Hid (wt.heap[S]? = some (.cells #[.int .i64 n1, .int .i64 n2, .string n3, .int .i64 n4, .int .i64 n5, .int .i64 n6, .int .i64 n7, .int .i64 n8, .slice lo ln lc, .slice ro k rc, .string ⟨#[]⟩, .int .i64 0, .string ⟨#[]⟩] 27 (0, 0))) := Lib.hid ((hex.block S (by omega) (by intro e; have := Option.some.inj e; omega)).trans HSRr.out)
                   have hSt : S < wt.heap.size := by have := hex.size; omega
                   have hsr := HSRt.out
                   have e10 : wt.cell? ⟨S, 10, none⟩ = some (.string ⟨#[]⟩) := by rw [cell_of_row _ _ _ _ _ _ hsr]; rfl
                   have f10 := row_frz hsr 10
                   clear hsr
                   clear hrd hex)
                | fail)
              obtain ⟨wu, hw⟩ : ∃ wu, wu = (wt.setCell ⟨S, 10, none⟩ (.string ⟨#[]⟩)) := ⟨_, rfl⟩
              have hxs : Ex wt.heap.size (some S) wt wu := by rw [hw]; exact ((Ex.refl _ _ _).setCell 10 none _ (.inl rfl))
              have HSRu : Hid (wu.heap[S]? = some (.cells #[.int .i64 n1, .int .i64 n2, .string n3, .int .i64 n4, .int .i64 n5, .int .i64 n6, .int .i64 n7, .int .i64 n8, .slice lo ln lc, .slice ro k rc, .string ⟨#[]⟩, .int .i64 0, .string ⟨#[]⟩] 27 (0, 0))) := Lib.hid (by rw [hw, (row_set HSRt.out)]; rfl)
              have HRu : Hid (wu.heap[w.heap.size]? = some (.cells zSt 27 (0, 0))) := Lib.hid ((hxs.block _ (by omega) (by intro e; have := Option.some.inj e; omega)).trans HRt.out)
              have HXu : Hid (Ex w.heap.size none w wu) := Lib.hid (by rw [hw]; exact (HXt.out.setCell 10 none _ (.inr (by omega))))
              have Hu : Hid (Rd3 wu G none) := Lib.hid (HQt.out.keep fun b hb hlt => hxs.block b hlt (by intro e; have := Option.some.inj e; rcases hb with hb | hb <;> omega)).any
              have hSu : S < wu.heap.size := by have := hxs.size; omega
              have HKSu := Lib.hid hxs
              rw [← hw]
              clear hw e10 f10
              go_upto_region 16 with (first
                | (go_at_call 97
                   fail_if_success (first | have _x := HXx | fail)
                   have _y := HXu
                   refine (read3Int_z G none wu Hu.out (by simp) rfl).mono ?_
                   rintro e wx ⟨rfl, hrd, hex⟩
                   have HQx := Lib.hid hrd
                   have Hx := Lib.hid hrd.any
                   have HXx : Hid (Ex w.heap.size none w wx) := Lib.hid (HXu.out.trans hex (by omega) (by intro q e hlt; have := Option.some.inj e; omega))
                   have HRx : Hid (wx.heap[w.heap.size]? = some (.cells zSt 27 (0, 0))) := Lib.hid ((hex.block _ (by omega) (by intro e; have := Option.some.inj e; omega)).trans HRu.out)
                   have HSRx : Hid (wx.heap[S]? = some (.cells #[.int .i64 n1, .int .i64 n2, .string n3, .int .i64 n4, .int .i64 n5, .int .i64 n6, .int .i64 n7, .int .i64 n8, .slice lo ln lc, .slice ro k rc, .string ⟨#[]⟩, .int .i64 0, .string ⟨#[]⟩] 27 (0, 0))) := Lib.hid ((hex.block S (by omega) (by intro e; have := Option.some.inj e; omega)).trans HSRu.out)
                   have hSx : S < wx.heap.size := by have := hex.size; omega
                   clear hrd hex)
                | (go_at_call 98
                   fail_if_success (first | have _x := HXy | fail)
                   have _y := HXx
                   refine (read3Text_z G none 32 wx Hx.out (by simp) rfl).mono ?_
                   rintro e wy ⟨rfl, hrd, hex⟩
                   have HQy := Lib.hid hrd
                   have Hy := Lib.hid hrd.any
                   have HXy : Hid (Ex w.heap.size none w wy) := Lib.hid (HXx.out.trans hex (by omega) (by intro q e hlt; have := Option.some.inj e; omega))
                   have HRy : Hid (wy.heap[w.heap.size]? = some (.cells zSt 27 (0, 0))) := Lib.hid ((hex.block _ (by omega) (by intro e; have := Option.some.inj e; omega)).trans HRx.out)
                   have HSRy : Hid (wy.heap[S]? = some (.cells #[.int .i64 n1, .int .i64 n2, .string n3, .int .i64 n4, .int .i64 n5, .int .i64 n6, .int .i64 n7, .int .i64 n8, .slice lo ln lc, .slice ro k rc, .string ⟨#[]⟩, .int .i64 0, .string ⟨#[]⟩] 27 (0, 0))) := Lib.hid ((hex.block S (by omega) (by intro e; have := Option.some.inj e; omega)).trans HSRx.out)
                   have hSy : S < wy.heap.size := by have := hex.size; omega
                   have hsr := HSRy.out
                   have e11 : wy.cell? ⟨S, 11, none⟩ = some (.int .i64 0) := by rw [cell_of_row _ _ _ _ _ _ hsr]; rfl
                   have f11 := row_frz hsr 11
                   have e12 : wy.cell? ⟨S, 12, none⟩ = some (.string ⟨#[]⟩) := by rw [cell_of_row _ _ _ _ _ _ hsr]; rfl
                   have f12 := row_frz hsr 12
                   clear hsr
                   clear hrd hex)
                | fail)
              obtain ⟨wv, hw⟩ : ∃ wv, wv = ((wy.setCell ⟨S, 11, none⟩ (.int .i64 0)).setCell ⟨S, 12, none⟩ (.string ⟨#[]⟩)) := ⟨_, rfl⟩
              have hxs : Ex wy.heap.size (some S) wy wv := by rw [hw]; exact (((Ex.refl _ _ _).setCell 11 none _ (.inl rfl)).setCell 12 none _ (.inl rfl))
              have HSRv : Hid (wv.heap[S]? = some (.cells #[.int .i64 n1, .int .i64 n2, .string n3, .int .i64 n4, .int .i64 n5, .int .i64 n6, .int .i64 n7, .int .i64 n8, .slice lo ln lc, .slice ro k rc, .string ⟨#[]⟩, .int .i64 0, .string ⟨#[]⟩] 27 (0, 0))) := Lib.hid (by rw [hw, (row_set (row_set HSRy.out))]; rfl)
              have HRv : Hid (wv.heap[w.heap.size]? = some (.cells zSt 27 (0, 0))) := Lib.hid ((hxs.block _ (by omega) (by intro e; have := Option.some.inj e; omega)).trans HRy.out)
              have HXv : Hid (Ex w.heap.size none w wv) := Lib.hid (by rw [hw]; exact ((HXy.out.setCell 11 none _ (.inr (by omega))).setCell 12 none _ (.inr (by omega))))
              have Hv : Hid (Rd3 wv G none) := Lib.hid (HQy.out.keep fun b hb hlt => hxs.block b hlt (by intro e; have := Option.some.inj e; rcases hb with hb | hb <;> omega)).any
              have hSv : S < wv.heap.size := by have := hxs.size; omega
              have HKSv := Lib.hid hxs
              rw [← hw]
              clear hw e11 f11 e12 f12
              obtain ⟨vq, hgv, _⟩ := Hv.out
              have e1 := (row2_cell hgv).2.1
              simp only [Option.isSome_none] at e1
              clear hgv
              go_upto_region 17 with (fail)
              clear e1
              have hst := run_rowStore (P := Tryz.prog) wv w.heap.size 27 27 zSt zSt HRv.out Tryz.sizeStm rfl (by simp [Value.oneCell'])
              obtain ⟨wz, hw⟩ : ∃ wz, wz = wv.setRow w.heap.size zSt := ⟨_, rfl⟩
              rw [← hw] at hst
              have HRz : Hid (wz.heap[w.heap.size]? = some (.cells zSt 27 (0, 0))) := Lib.hid (by rw [hw]; exact setRow_heap _ _ _ _ _ _ HRv.out)
              have HXz : Hid (Ex w.heap.size none w wz) := Lib.hid (by rw [hw]; exact HXv.out.setRow _ _ (.inr (Nat.le_refl _)))
              clear hw
              go_wp2_with (fail)
              clear hst
              have hr := run_loadVar_row (P := Tryz.prog) wz w.heap.size 27 27 zSt (0, 0) _ HRz.out Tryz.underlying27 rfl Tryz.sizeStm
              refine bodyPost_ret (v := .tuple #[.agg zSt, .int .i64 1]) ?_ rfl ?_
              · rw [results_cell_tmp Tryz.results53]
                show ((loadVar 27 ⟨w.heap.size, 0, none⟩).run Tryz.prog _).andThen _ = _
                rw [hr]
                rfl
              obtain ⟨rfl, rfl⟩ : s = zeroSt ∧ c = 1 := by
                rcases HDI.out with ⟨h, _⟩ | ⟨_, h1, h2⟩
                · rw [HNO.out] at h; cases h
                · exact ⟨h1, h2⟩
              exact ⟨none, 0, 0, none, 0, 0, rfl, Lies.zero _ _, HXz.out⟩
          | some r =>
            have HPS : Hid (takePs k r10 = some (acc, r)) := Lib.hid (by
              rcases HREL.out with ⟨r', h, h2⟩ | ⟨h, _⟩
              · rw [Option.some.inj h]; exact h2
              · cases h)
            obtain ⟨vq, hgv, _⟩ := Hr0.out
            have e1 := (row2_cell hgv).2.1
            simp only [Option.isSome_some] at e1
            clear hgv
            by_cases hg : 0 < n10 - (k : Int)
            · have hgd : decide (0 < n10 - (k : Int)) = true := decide_eq_true hg
              have e9 : wr.cell? ⟨S, 9, none⟩ = some (.slice ro k rc) := by rw [cell_of_row _ _ _ _ _ _ HSRr.out]; rfl
              by_cases h64 : 64 ≤ k
              · have h64I : (64 : Int) ≤ (k : Int) := by omega
                have HNO : Hid (decS xs = none) := Lib.hid (decR_tail HHD.out (.inl (by omega)))
                go_upto_region 11 with (fail)
                clear e1 e9
                have hst := run_rowStore (P := Tryz.prog) wr w.heap.size 27 27 zSt zSt HRr.out Tryz.sizeStm rfl (by simp [Value.oneCell'])
                obtain ⟨wz, hw⟩ : ∃ wz, wz = wr.setRow w.heap.size zSt := ⟨_, rfl⟩
                rw [← hw] at hst
                have HRz : Hid (wz.heap[w.heap.size]? = some (.cells zSt 27 (0, 0))) := Lib.hid (by rw [hw]; exact setRow_heap _ _ _ _ _ _ HRr.out)
                have HXz : Hid (Ex w.heap.size none w wz) := Lib.hid (by rw [hw]; exact HXr.out.setRow _ _ (.inr (Nat.le_refl _)))
                clear hw
                go_wp2_with (fail)
                clear hst
                have hr := run_loadVar_row (P := Tryz.prog) wz w.heap.size 27 27 zSt (0, 0) _ HRz.out Tryz.underlying27 rfl Tryz.sizeStm
                refine bodyPost_ret (v := .tuple #[.agg zSt, .int .i64 1]) ?_ rfl ?_
                · rw [results_cell_tmp Tryz.results53]
                  show ((loadVar 27 ⟨w.heap.size, 0, none⟩).run Tryz.prog _).andThen _ = _
                  rw [hr]
                  rfl
                obtain ⟨rfl, rfl⟩ : s = zeroSt ∧ c = 1 := by
                  rcases HDI.out with ⟨h, _⟩ | ⟨_, h1, h2⟩
                  · rw [HNO.out] at h; cases h
                  · exact ⟨h1, h2⟩
                exact ⟨none, 0, 0, none, 0, 0, rfl, Lies.zero _ _, HXz.out⟩
              · have h64I : ¬ (64 : Int) ≤ (k : Int) := by omega
                obtain ⟨str, hstr⟩ : ∃ z, z = some r := ⟨_, rfl⟩
                have HSTR := Lib.hid hstr
                rw [← hstr] at Hr0 HLr0
                have Hr := Hr0
                have HLr := HLr0
                clear hstr
                have hwp : IntKind.i64.wrap (n10 - (k : Int) - 1) = n10 - (k : Int) - 1 := by rw [IntKind.wrap_i64]; omega
                go_wp2_with (first
                  | (go_at_call 97
                     fail_if_success (first | have _x := HXp1 | fail)
                     have _y := HXr
                     refine (read3Int_any G str wr Hr.out (by have := HLr.out; omega)).mono ?_
                     rintro e wp1 ⟨rfl, hrd, hex⟩
                     obtain ⟨np1, hn⟩ : ∃ z, z = ((str.bind fun xs => takeI xs).map (·.1)).getD 0 := ⟨_, rfl⟩
                     rw [← hn]
                     obtain ⟨stp1, hst⟩ : ∃ z, z = (str.bind fun xs => takeI xs).map (·.2) := ⟨_, rfl⟩
                     rw [← hst] at hrd
                     have HNp1 := Lib.hid hn
                     have HTp1 := Lib.hid hst
                     have HQp1 := Lib.hid hrd
                     have Hp1 := Lib.hid hrd.any
                     have HLp1 : Hid ((stp1.getD []).length ≤ 1000) := Lib.hid (by rw [hst]; exact Nat.le_trans (bind_len (st := str) lenI) HLr.out)
                     have HXp1 : Hid (Ex w.heap.size none w wp1) := Lib.hid (HXr.out.trans hex (by omega) (by intro q e hlt; have := Option.some.inj e; omega))
                     have HRp1 : Hid (wp1.heap[w.heap.size]? = some (.cells zSt 27 (0, 0))) := Lib.hid ((hex.block _ (by omega) (by intro e; have := Option.some.inj e; omega)).trans HRr.out)
                     have HSRp1 : Hid (wp1.heap[S]? = some (.cells #[.int .i64 n1, .int .i64 n2, .string n3, .int .i64 n4, .int .i64 n5, .int .i64 n6, .int .i64 n7, .int .i64 n8, .slice lo ln lc, .slice ro k rc, .string ⟨#[]⟩, .int .i64 0, .string ⟨#[]⟩] 27 (0, 0))) := Lib.hid ((hex.block S (by omega) (by intro e; have := Option.some.inj e; omega)).trans HSRr.out)
                     have hSp1 : S < wp1.heap.size := by have := hex.size; omega
                     have HVp1 : Hid (Ex wr.heap.size (some G) wr wp1) := Lib.hid hex
                     have hzzp1 : wr.heap.size ≤ wp1.heap.size := HVp1.out.size
                     clear e9 hn hst hrd hex)
                  | (go_at_call 97
                     fail_if_success (first | have _x := HXp2 | fail)
                     have _y := HXp1
                     refine (read3Int_any G stp1 wp1 Hp1.out (by have := HLp1.out; omega)).mono ?_
                     rintro e wp2 ⟨rfl, hrd, hex⟩
                     obtain ⟨np2, hn⟩ : ∃ z, z = ((stp1.bind fun xs => takeI xs).map (·.1)).getD 0 := ⟨_, rfl⟩
                     rw [← hn]
                     obtain ⟨stp2, hst⟩ : ∃ z, z = (stp1.bind fun xs => takeI xs).map (·.2) := ⟨_, rfl⟩
                     rw [← hst] at hrd
                     have HNp2 := Lib.hid hn
                     have HTp2 := Lib.hid hst
                     have HQp2 := Lib.hid hrd
                     have Hp2 := Lib.hid hrd.any
                     have HLp2 : Hid ((stp2.getD []).length ≤ 1000) := Lib.hid (by rw [hst]; exact Nat.le_trans (bind_len (st := stp1) lenI) HLp1.out)
                     have HXp2 : Hid (Ex w.heap.size none w wp2) := Lib.hid (HXp1.out.trans hex (by omega) (by intro q e hlt; have := Option.some.inj e; omega))
                     have HRp2 : Hid (wp2.heap[w.heap.size]? = some (.cells zSt 27 (0, 0))) := Lib.hid ((hex.block _ (by omega) (by intro e; have := Option.some.inj e; omega)).trans HRp1.out)
                     have HSRp2 : Hid (wp2.heap[S]? = some (.cells #[.int .i64 n1, .int .i64 n2, .string n3, .int .i64 n4, .int .i64 n5, .int .i64 n6, .int .i64 n7, .int .i64 n8, .slice lo ln lc, .slice ro k rc, .string ⟨#[]⟩, .int .i64 0, .string ⟨#[]⟩] 27 (0, 0))) := Lib.hid ((hex.block S (by omega) (by intro e; have := Option.some.inj e; omega)).trans HSRp1.out)
                     have hSp2 : S < wp2.heap.size := by have := hex.size; omega
                     have HVp2 : Hid (Ex wr.heap.size (some G) wr wp2) := Lib.hid (HVp1.out.trans hex (by omega) fun q e _ => e)
                     have hzzp2 : wr.heap.size ≤ wp2.heap.size := HVp2.out.size
                     clear hn hst hrd hex)
                  | (go_at_call 98
                     fail_if_success (first | have _x := HXp3 | fail)
                     have _y := HXp2
                     refine (read3Text_any G stp2 32 wp2 Hp2.out (by have := HLp2.out; omega)).mono ?_
                     rintro e wp3 ⟨rfl, hrd, hex⟩
                     obtain ⟨np3, hn⟩ : ∃ z, z = ((stp2.bind fun xs => takeT xs 32).map (·.1)).getD ⟨#[]⟩ := ⟨_, rfl⟩
                     rw [← hn]
                     obtain ⟨stp3, hst⟩ : ∃ z, z = (stp2.bind fun xs => takeT xs 32).map (·.2) := ⟨_, rfl⟩
                     rw [← hst] at hrd
                     have HNp3 := Lib.hid hn
                     have HTp3 := Lib.hid hst
                     have HQp3 := Lib.hid hrd
                     have Hp3 := Lib.hid hrd.any
                     have HLp3 : Hid ((stp3.getD []).length ≤ 1000) := Lib.hid (by rw [hst]; exact Nat.le_trans (bind_len (st := stp2) (lenT 32)) HLp2.out)
                     have HXp3 : Hid (Ex w.heap.size none w wp3) := Lib.hid (HXp2.out.trans hex (by omega) (by intro q e hlt; have := Option.some.inj e; omega))
                     have HRp3 : Hid (wp3.heap[w.heap.size]? = some (.cells zSt 27 (0, 0))) := Lib.hid ((hex.block _ (by omega) (by intro e; have := Option.some.inj e; omega)).trans HRp2.out)
                     have HSRp3 : Hid (wp3.heap[S]? = some (.cells #[.int .i64 n1, .int .i64 n2, .string n3, .int .i64 n4, .int .i64 n5, .int .i64 n6, .int .i64 n7, .int .i64 n8, .slice lo ln lc, .slice ro k rc, .string ⟨#[]⟩, .int .i64 0, .string ⟨#[]⟩] 27 (0, 0))) := Lib.hid ((hex.block S (by omega) (by intro e; have := Option.some.inj e; omega)).trans HSRp2.out)
                     have hSp3 : S < wp3.heap.size := by have := hex.size; omega
                     have hst2 := run_rowStore (P := Tryz.prog) (wp3.alloc (.cells #[.int .i64 0, .int .i64 0, .string ⟨#[]⟩] 92)) wp3.heap.size 92 92 #[.int .i64 0, .int .i64 0, .string ⟨#[]⟩] #[.int .i64 np1, .int .i64 np2, .string np3] (heap_alloc_new wp3 _) Tryz.sizePin rfl (by simp [Value.oneCell'])
                     obtain ⟨wq, hwq⟩ : ∃ wq, wq = (wp3.alloc (.cells #[.int .i64 0, .int .i64 0, .string ⟨#[]⟩] 92)).setRow wp3.heap.size #[.int .i64 np1, .int .i64 np2, .string np3] := ⟨_, rfl⟩
                     rw [← hwq] at hst2
                     have HEq : Hid (Ex wp3.heap.size none wp3 wq) := Lib.hid (by rw [hwq]; exact (Ex.new wp3 _).setRow _ _ (.inr (Nat.le_refl _)))
                     have hld2 := run_rowLoad (P := Tryz.prog) wq wp3.heap.size 92 92 #[.int .i64 np1, .int .i64 np2, .string np3] (0, 0) _ (by rw [hwq]; exact setRow_heap _ _ _ _ _ _ (heap_alloc_new wp3 _)) Tryz.underlying92 rfl Tryz.sizePin
                     have HSRq : Hid (wq.heap[S]? = some (.cells #[.int .i64 n1, .int .i64 n2, .string n3, .int .i64 n4, .int .i64 n5, .int .i64 n6, .int .i64 n7, .int .i64 n8, .slice lo ln lc, .slice ro k rc, .string ⟨#[]⟩, .int .i64 0, .string ⟨#[]⟩] 27 (0, 0))) := Lib.hid ((HEq.out.block S (by omega) (by simp)).trans HSRp3.out)
                     have e9 : wq.cell? ⟨S, 9, none⟩ = some (.slice ro k rc) := by rw [cell_of_row _ _ _ _ _ _ HSRq.out]; rfl
                     have HVp3 : Hid (Ex wr.heap.size (some G) wr wp3) := Lib.hid (HVp2.out.trans hex (by omega) fun q e _ => e)
                     have hzq : wp3.heap.size ≤ wq.heap.size := HEq.out.size
                     have hzp3 : wp2.heap.size ≤ wp3.heap.size := hex.size
                     clear hwq
                     clear hn hst hrd hex)
                  | (at_builtin; refine wpList_appE2 rfl (.tmp 90) (.tmp 92) _ 92 (by rfl) Tryz.underlying23 (.agg #[.int .i64 0, .int .i64 0, .string ⟨#[]⟩]) 3 32 Tryz.infoPin rfl (by decide) (by decide) pinE pinE_len one_pinE wc.heap.size ro rc k acc HAK.out (by rfl) (some ⟨wq.heap.size, 0, none⟩) 1 1 (by rfl) [(np1, np2, np3)] rfl (((HOW.out.keep HVp3.out (Nat.le_refl _) (by intro q e; have := Option.some.inj e; omega)).keep HEq.out (Nat.le_refl _) (by simp)).keep (Ex.new wq _) (Nat.le_refl _) (by simp)) (lit_cells (by rfl)) (by omega) (by simp; omega) (k + 1) rfl ?_
                     intro ro2 rc2 w6 hown6 hex6 hk6 hro6
                     have HO6 := Lib.hid hown6
                     have HA6 : Hid (∀ b, b < wq.heap.size → b < wc.heap.size ∨ wr.heap.size ≤ b → w6.heap[b]? = wq.heap[b]?) := Lib.hid (fun b hb hc => by
                       have hn : rowOf ro ≠ some b := fun e => by
                         cases ro with
                         | none => cases e
                         | some ad =>
                           have h1 := HOW.out.lt ad rfl
                           have h2 : ad.block = b := Option.some.inj e
                           omega
                       exact (hk6 b (by rw [World.size_alloc]; omega) hn).trans ((Ex.new wq _).block b hb (by simp)))
                     have HS6 : Hid (w6.heap[S]? = some (.cells #[.int .i64 n1, .int .i64 n2, .string n3, .int .i64 n4, .int .i64 n5, .int .i64 n6, .int .i64 n7, .int .i64 n8, .slice lo ln lc, .slice ro k rc, .string ⟨#[]⟩, .int .i64 0, .string ⟨#[]⟩] 27 (0, 0))) := Lib.hid ((HA6.out S (by omega) (.inl (by omega))).trans HSRq.out)
                     have HR6 : Hid (w6.heap[w.heap.size]? = some (.cells zSt 27 (0, 0))) := Lib.hid ((HA6.out _ (by omega) (.inl (by omega))).trans ((HEq.out.block _ (by omega) (by simp)).trans HRp3.out))
                     have HX6 : Hid (Ex w.heap.size none w w6) := Lib.hid ((HXp3.out.trans HEq.out (by omega) (by simp)).trans (((Ex.new wq _).mono (by omega)).trans (hex6.mono (by omega)) (Nat.le_refl _) (by simp)) (Nat.le_refl _) (by simp))
                     have HD6 := Lib.hid ((HQp3.out.keep (w' := wq) fun b hb hlt => HEq.out.block b hlt (by simp)).keep (w' := w6) fun b hb hlt => by
                       rcases hb with rfl | hb
                       · exact HA6.out _ hlt (.inl (by omega))
                       · exact HA6.out _ hlt (.inr (by omega)))
                     have HLI6 : Hid (Sl intRep (fun b => wb.heap.size ≤ b ∧ b < wc.heap.size) w6 (.slice lo ln lc) l9) := Lib.hid (((HLIr.out.keep (by decide) fun b hb hlt => HVp3.out.block b hlt (by intro e; have := Option.some.inj e; omega)).keep (by decide) fun b hb hlt => HEq.out.block b hlt (by simp)).keep (by decide) fun b hb hlt => HA6.out b hlt (.inl hb.2))
                     have hz6 : wq.heap.size ≤ w6.heap.size := by have := hex6.size; rw [World.size_alloc] at this; omega
                     clear e9
                     have e9 : w6.cell? ⟨S, 9, none⟩ = some (.slice ro k rc) := by rw [cell_of_row _ _ _ _ _ _ HS6.out]; rfl
                     have f9 := row_frz HS6.out 9
                     clear hown6 hex6 hk6 hro6 hst2 hld2)
                  | fail)
                go_roundw
                case rel => exact ⟨k + 1, acc ++ [(np1, np2, np3)], ro2, rc2, stp3, by congr 1; omega, by omega, .inl (by omega), Lib.hid (by rw [List.length_append, HAK.out]; rfl), Lib.hid (by
                  rcases pin_chain (r := r) (m1 := np1) (m2 := np2) (m3 := np3) (by rw [HTp1.out, HSTR.out]) HTp2.out HTp3.out (by rw [HNp1.out, HSTR.out]) HNp2.out HNp3.out with ⟨r', h1, h2⟩ | ⟨h1, h2⟩
                  · exact .inl ⟨r', h1, by simp only [takePs, HPS.out, h2]⟩
                  · exact .inr ⟨h1, by simp only [takePs, HPS.out, h2]⟩), HLp3, Lib.hid (HD6.out.keep fun b hb hlt => ((Ex.refl w6.heap.size (some S) w6).setCell 9 none _ (.inl rfl)).block b hlt (by intro e; have := Option.some.inj e; rcases hb with hb | hb <;> omega)).any, Lib.hid (HO6.out.keep ((Ex.refl w6.heap.size (some S) w6).setCell 9 none _ (.inl rfl)) (Nat.le_refl _) (by intro q e; have := Option.some.inj e; omega)), Lib.hid (by rw [row_set HS6.out]; rfl), Lib.hid ((((Ex.refl w6.heap.size (some S) w6).setCell 9 none _ (.inl rfl)).block _ (by omega) (by intro e; have := Option.some.inj e; omega)).trans HR6.out), Lib.hid (HLI6.out.keep (by decide) fun b hb hlt => ((Ex.refl w6.heap.size (some S) w6).setCell 9 none _ (.inl rfl)).block b hlt (by intro e; have := Option.some.inj e; omega)), Lib.hid (HX6.out.setCell 9 none _ (.inr (by omega))), by have := ((Ex.refl w6.heap.size (some S) w6).setCell 9 none (.slice ro2 (k + 1) rc2) (.inl rfl)).size; omega⟩
                case measure => simp [intOf] <;> omega
            · have hgd : decide (0 < n10 - (k : Int)) = false := decide_eq_false hg
              have HKN : Hid (n10.toNat = k ∧ ¬ 64 < n10) := Lib.hid ⟨by omega, by omega⟩
              obtain ⟨str, hstr⟩ : ∃ z, z = some r := ⟨_, rfl⟩
              have HSTR := Lib.hid hstr
              rw [← hstr] at Hr0 HLr0
              have Hr := Hr0
              have HLr := HLr0
              clear hstr
              go_upto_region 15 with (first
                | (go_at_call 98
                   fail_if_success (first | have _x := HXt1 | fail)
                   have _y := HXr
                   refine (read3Text_any G str 4096 wr Hr.out (by have := HLr.out; omega)).mono ?_
                   rintro e wt1 ⟨rfl, hrd, hex⟩
                   obtain ⟨nt1, hn⟩ : ∃ z, z = ((str.bind fun xs => takeT xs 4096).map (·.1)).getD ⟨#[]⟩ := ⟨_, rfl⟩
                   rw [← hn]
                   obtain ⟨stt1, hst⟩ : ∃ z, z = (str.bind fun xs => takeT xs 4096).map (·.2) := ⟨_, rfl⟩
                   rw [← hst] at hrd
                   have HNt1 := Lib.hid hn
                   have HTt1 := Lib.hid hst
                   have HQt1 := Lib.hid hrd
                   have Ht1 := Lib.hid hrd.any
                   have HLt1 : Hid ((stt1.getD []).length ≤ 1000) := Lib.hid (by rw [hst]; exact Nat.le_trans (bind_len (st := str) (lenT 4096)) HLr.out)
                   have HXt1 : Hid (Ex w.heap.size none w wt1) := Lib.hid (HXr.out.trans hex (by omega) (by intro q e hlt; have := Option.some.inj e; omega))
                   have HRt1 : Hid (wt1.heap[w.heap.size]? = some (.cells zSt 27 (0, 0))) := Lib.hid ((hex.block _ (by omega) (by intro e; have := Option.some.inj e; omega)).trans HRr.out)
                   have HSRt1 : Hid (wt1.heap[S]? = some (.cells #[.int .i64 n1, .int .i64 n2, .string n3, .int .i64 n4, .int .i64 n5, .int .i64 n6, .int .i64 n7, .int .i64 n8, .slice lo ln lc, .slice ro k rc, .string ⟨#[]⟩, .int .i64 0, .string ⟨#[]⟩] 27 (0, 0))) := Lib.hid ((hex.block S (by omega) (by intro e; have := Option.some.inj e; omega)).trans HSRr.out)
                   have hSt1 : S < wt1.heap.size := by have := hex.size; omega
                   have hsr := HSRt1.out
                   have e10 : wt1.cell? ⟨S, 10, none⟩ = some (.string ⟨#[]⟩) := by rw [cell_of_row _ _ _ _ _ _ hsr]; rfl
                   have f10 := row_frz hsr 10
                   clear hsr
                   have HVt1 : Hid (Ex wr.heap.size (some G) wr wt1) := Lib.hid hex
                   have hzzt1 : wr.heap.size ≤ wt1.heap.size := HVt1.out.size
                   clear hn hst hrd hex)
                | fail)
              obtain ⟨wt2, hw⟩ : ∃ wt2, wt2 = (wt1.setCell ⟨S, 10, none⟩ (.string nt1)) := ⟨_, rfl⟩
              have hxs : Ex wt1.heap.size (some S) wt1 wt2 := by rw [hw]; exact ((Ex.refl _ _ _).setCell 10 none _ (.inl rfl))
              have HSRt2 : Hid (wt2.heap[S]? = some (.cells #[.int .i64 n1, .int .i64 n2, .string n3, .int .i64 n4, .int .i64 n5, .int .i64 n6, .int .i64 n7, .int .i64 n8, .slice lo ln lc, .slice ro k rc, .string nt1, .int .i64 0, .string ⟨#[]⟩] 27 (0, 0))) := Lib.hid (by rw [hw, (row_set HSRt1.out)]; rfl)
              have HRt2 : Hid (wt2.heap[w.heap.size]? = some (.cells zSt 27 (0, 0))) := Lib.hid ((hxs.block _ (by omega) (by intro e; have := Option.some.inj e; omega)).trans HRt1.out)
              have HXt2 : Hid (Ex w.heap.size none w wt2) := Lib.hid (by rw [hw]; exact (HXt1.out.setCell 10 none _ (.inr (by omega))))
              have Ht2 : Hid (Rd3 wt2 G stt1) := Lib.hid (HQt1.out.keep fun b hb hlt => hxs.block b hlt (by intro e; have := Option.some.inj e; rcases hb with hb | hb <;> omega)).any
              have HLt2 := HLt1
              have hSt2 : S < wt2.heap.size := by have := hxs.size; omega
              have HKSt2 := Lib.hid hxs
              rw [← hw]
              clear hw e10 f10
              obtain ⟨stt2, hstt⟩ : ∃ z, z = stt1 := ⟨_, rfl⟩
              have HSTT := Lib.hid hstt
              rw [← hstt] at Ht2 HLt2
              clear hstt
              have hzt2 : wt1.heap.size ≤ wt2.heap.size := HKSt2.out.size
              go_upto_region 16 with (first
                | (go_at_call 97
                   fail_if_success (first | have _x := HXt3 | fail)
                   have _y := HXt2
                   refine (read3Int_any G stt2 wt2 Ht2.out (by have := HLt2.out; omega)).mono ?_
                   rintro e wt3 ⟨rfl, hrd, hex⟩
                   obtain ⟨nt3, hn⟩ : ∃ z, z = ((stt2.bind fun xs => takeI xs).map (·.1)).getD 0 := ⟨_, rfl⟩
                   rw [← hn]
                   obtain ⟨stt3, hst⟩ : ∃ z, z = (stt2.bind fun xs => takeI xs).map (·.2) := ⟨_, rfl⟩
                   rw [← hst] at hrd
                   have HNt3 := Lib.hid hn
                   have HTt3 := Lib.hid hst
                   have HQt3 := Lib.hid hrd
                   have Ht3 := Lib.hid hrd.any
                   have HLt3 : Hid ((stt3.getD []).length ≤ 1000) := Lib.hid (by rw [hst]; exact Nat.le_trans (bind_len (st := stt2) lenI) HLt2.out)
                   have HXt3 : Hid (Ex w.heap.size none w wt3) := Lib.hid (HXt2.out.trans hex (by omega) (by intro q e hlt; have := Option.some.inj e; omega))
                   have HRt3 : Hid (wt3.heap[w.heap.size]? = some (.cells zSt 27 (0, 0))) := Lib.hid ((hex.block _ (by omega) (by intro e; have := Option.some.inj e; omega)).trans HRt2.out)
                   have HSRt3 : Hid (wt3.heap[S]? = some (.cells #[.int .i64 n1, .int .i64 n2, .string n3, .int .i64 n4, .int .i64 n5, .int .i64 n6, .int .i64 n7, .int .i64 n8, .slice lo ln lc, .slice ro k rc, .string nt1, .int .i64 0, .string ⟨#[]⟩] 27 (0, 0))) := Lib.hid ((hex.block S (by omega) (by intro e; have := Option.some.inj e; omega)).trans HSRt2.out)
                   have hSt3 : S < wt3.heap.size := by have := hex.size; omega
                   have HVt3 : Hid (Ex wt2.heap.size (some G) wt2 wt3) := Lib.hid hex
                   have hzzt3 : wt2.heap.size ≤ wt3.heap.size := HVt3.out.size
                   clear hn hst hrd hex)
                | (go_at_call 98
                   fail_if_success (first | have _x := HXt4 | fail)
                   have _y := HXt3
                   refine (read3Text_any G stt3 32 wt3 Ht3.out (by have := HLt3.out; omega)).mono ?_
                   rintro e wt4 ⟨rfl, hrd, hex⟩
                   obtain ⟨nt4, hn⟩ : ∃ z, z = ((stt3.bind fun xs => takeT xs 32).map (·.1)).getD ⟨#[]⟩ := ⟨_, rfl⟩
                   rw [← hn]
                   obtain ⟨stt4, hst⟩ : ∃ z, z = (stt3.bind fun xs => takeT xs 32).map (·.2) := ⟨_, rfl⟩
                   rw [← hst] at hrd
                   have HNt4 := Lib.hid hn
                   have HTt4 := Lib.hid hst
                   have HQt4 := Lib.hid hrd
                   have Ht4 := Lib.hid hrd.any
                   have HLt4 : Hid ((stt4.getD []).length ≤ 1000) := Lib.hid (by rw [hst]; exact Nat.le_trans (bind_len (st := stt3) (lenT 32)) HLt3.out)
                   have HXt4 : Hid (Ex w.heap.size none w wt4) := Lib.hid (HXt3.out.trans hex (by omega) (by intro q e hlt; have := Option.some.inj e; omega))
                   have HRt4 : Hid (wt4.heap[w.heap.size]? = some (.cells zSt 27 (0, 0))) := Lib.hid ((hex.block _ (by omega) (by intro e; have := Option.some.inj e; omega)).trans HRt3.out)
                   have HSRt4 : Hid (wt4.heap[S]? = some (.cells #[.int .i64 n1, .int .i64 n2, .string n3, .int .i64 n4, .int .i64 n5, .int .i64 n6, .int .i64 n7, .int .i64 n8, .slice lo ln lc, .slice ro k rc, .string nt1, .int .i64 0, .string ⟨#[]⟩] 27 (0, 0))) := Lib.hid ((hex.block S (by omega) (by intro e; have := Option.some.inj e; omega)).trans HSRt3.out)
                   have hSt4 : S < wt4.heap.size := by have := hex.size; omega
                   have hsr := HSRt4.out
                   have e11 : wt4.cell? ⟨S, 11, none⟩ = some (.int .i64 0) := by rw [cell_of_row _ _ _ _ _ _ hsr]; rfl
                   have f11 := row_frz hsr 11
                   have e12 : wt4.cell? ⟨S, 12, none⟩ = some (.string ⟨#[]⟩) := by rw [cell_of_row _ _ _ _ _ _ hsr]; rfl
                   have f12 := row_frz hsr 12
                   clear hsr
                   have HVt4 : Hid (Ex wt2.heap.size (some G) wt2 wt4) := Lib.hid (HVt3.out.trans hex (by omega) fun q e _ => e)
                   have hzzt4 : wt2.heap.size ≤ wt4.heap.size := HVt4.out.size
                   clear hn hst hrd hex)
                | fail)
              obtain ⟨wt5, hw⟩ : ∃ wt5, wt5 = ((wt4.setCell ⟨S, 11, none⟩ (.int .i64 nt3)).setCell ⟨S, 12, none⟩ (.string nt4)) := ⟨_, rfl⟩
              have hxs : Ex wt4.heap.size (some S) wt4 wt5 := by rw [hw]; exact (((Ex.refl _ _ _).setCell 11 none _ (.inl rfl)).setCell 12 none _ (.inl rfl))
              have HSRt5 : Hid (wt5.heap[S]? = some (.cells #[.int .i64 n1, .int .i64 n2, .string n3, .int .i64 n4, .int .i64 n5, .int .i64 n6, .int .i64 n7, .int .i64 n8, .slice lo ln lc, .slice ro k rc, .string nt1, .int .i64 nt3, .string nt4] 27 (0, 0))) := Lib.hid (by rw [hw, (row_set (row_set HSRt4.out))]; rfl)
              have HRt5 : Hid (wt5.heap[w.heap.size]? = some (.cells zSt 27 (0, 0))) := Lib.hid ((hxs.block _ (by omega) (by intro e; have := Option.some.inj e; omega)).trans HRt4.out)
              have HXt5 : Hid (Ex w.heap.size none w wt5) := Lib.hid (by rw [hw]; exact ((HXt4.out.setCell 11 none _ (.inr (by omega))).setCell 12 none _ (.inr (by omega))))
              have Ht5 : Hid (Rd3 wt5 G stt4) := Lib.hid (HQt4.out.keep fun b hb hlt => hxs.block b hlt (by intro e; have := Option.some.inj e; rcases hb with hb | hb <;> omega)).any
              have HLt5 := HLt4
              have hSt5 : S < wt5.heap.size := by have := hxs.size; omega
              have HKSt5 := Lib.hid hxs
              rw [← hw]
              clear hw e11 f11 e12 f12
              have hzt5 : wt4.heap.size ≤ wt5.heap.size := HKSt5.out.size
              have HCH := Lib.hid (tail_chain (s := (⟨n1, n2, n3, n4, n5, n6, n7, n8, l9, [], ⟨#[]⟩, 0, ⟨#[]⟩⟩ : St)) (m1 := nt1) (m2 := nt3) (m3 := nt4) HPS.out (sa := stt2) (sb := stt3) (sc := stt4) (by rw [HSTT.out, HTt1.out, HSTR.out]) HTt3.out HTt4.out (by rw [HNt1.out, HSTR.out]) HNt3.out HNt4.out)
              have HOF := Lib.hid ((((HOW.out.keep HVt1.out (Nat.le_refl _) (by intro q e; have := Option.some.inj e; omega)).keep HKSt2.out (Nat.le_refl _) (by intro q e; have := Option.some.inj e; omega)).keep HVt4.out (Nat.le_refl _) (by intro q e; have := Option.some.inj e; omega)).keep HKSt5.out (Nat.le_refl _) (by intro q e; have := Option.some.inj e; omega))
              have HLF : Hid (Sl intRep (fun b => wb.heap.size ≤ b ∧ b < wc.heap.size) wt5 (.slice lo ln lc) l9) := Lib.hid ((((HLIr.out.keep (by decide) fun b hb hlt => HVt1.out.block b hlt (by intro e; have := Option.some.inj e; omega)).keep (by decide) fun b hb hlt => HKSt2.out.block b hlt (by intro e; have := Option.some.inj e; omega)).keep (by decide) fun b hb hlt => HVt4.out.block b hlt (by intro e; have := Option.some.inj e; omega)).keep (by decide) fun b hb hlt => HKSt5.out.block b hlt (by intro e; have := Option.some.inj e; omega))
              clear e1
              rcases HCH.out with ⟨rf, hc1, hc2⟩ | ⟨hc1, hc2⟩
              · have HTQ : Hid (takeQ xs = some ((⟨n1, n2, n3, n4, n5, n6, n7, n8, l9, acc, nt1, nt3, nt4⟩ : St), rf)) := Lib.hid (by unfold takeQ; rw [HHD.out]; simp only [Option.bind_some]; rw [if_neg (by have := HKN.out.2; omega), HKN.out.1, hc2])
                have ht5 := Ht5.out
                rw [hc1] at ht5
                obtain ⟨vq5, hgv, aq, capq, rfl, hcq, _⟩ := ht5
                obtain ⟨mf, hmf⟩ : ∃ mf, mf = rf.length := ⟨_, rfl⟩
                have HMF := Lib.hid hmf
                have e0 := (row2_cell hgv).1
                have e1 := (row2_cell hgv).2.1
                simp only [Option.isSome_some, Option.getD_some] at e0 e1
                rw [← hmf] at e0
                clear hgv hcq hc1 hc2 hmf
                by_cases hf0 : mf = 0
                · have HRF : Hid (rf = []) := Lib.hid (List.eq_nil_of_length_eq_zero (by rw [← HMF.out]; exact hf0))
                  subst hf0
                  have HTQ0 : Hid (takeQ xs = some ((⟨n1, n2, n3, n4, n5, n6, n7, n8, l9, acc, nt1, nt3, nt4⟩ : St), [])) := Lib.hid (by rw [HTQ.out, HRF.out])
                  have HTM : Hid (Tame (⟨n1, n2, n3, n4, n5, n6, n7, n8, l9, acc, nt1, nt3, nt4⟩ : St)) := Lib.hid (tame_of_q HTQ0.out hm)
                  have HLX : Hid (∀ w', Ex wt5.heap.size none wt5 w' → Lies (fun b => wb.heap.size ≤ b) w' ((⟨n1, n2, n3, n4, n5, n6, n7, n8, l9, acc, nt1, nt3, nt4⟩ : St), ⟨lo, ln, lc⟩, ⟨ro, k, rc⟩)) := Lib.hid (fun w' h => by
                    refine ⟨(HLF.out.keep (by decide) fun b _ hb => h.block b hb (by simp)).mono (by decide) fun b hb _ => hb.1, ?_⟩
                    have hp := own_val_sl (hk := pinE_len) (h1 := one_pinE) (HOF.out.keep h (Nat.le_refl _) (by simp))
                    rw [HAK.out] at hp
                    exact hp.mono (by decide) fun b hb _ => by omega)
                  obtain ⟨q, hq⟩ : ∃ q, q = checkI (⟨n1, n2, n3, n4, n5, n6, n7, n8, l9, acc, nt1, nt3, nt4⟩ : St) := ⟨_, rfl⟩
                  have HQC := Lib.hid hq
                  have HCK : Hid (∀ w', Ex wt5.heap.size none wt5 w' → Calls Tryz.prog 54 #[.agg #[.int .i64 n1, .int .i64 n2, .string n3, .int .i64 n4, .int .i64 n5, .int .i64 n6, .int .i64 n7, .int .i64 n8, .slice lo ln lc, .slice ro k rc, .string nt1, .int .i64 nt3, .string nt4]] w' fun e w'' => e = .returned (.int .i64 q) ∧ Ex w'.heap.size none w' w'') := Lib.hid (fun w' h => by rw [hq]; exact check03_any (⟨n1, n2, n3, n4, n5, n6, n7, n8, l9, acc, nt1, nt3, nt4⟩ : St) lo ro ln lc k rc w' (HLX.out w' h) ⟨by have := HTM.out.list; simp only at this ⊢; omega, by have := HTM.out.pins; simp only at this ⊢; omega⟩)
                  have HSD : Hid (∀ b w', sealedB (⟨n1, n2, n3, n4, n5, n6, n7, n8, l9, acc, nt1, nt3, nt4⟩ : St) = b → Ex wt5.heap.size none wt5 w' → Calls Tryz.prog 55 #[.agg #[.int .i64 n1, .int .i64 n2, .string n3, .int .i64 n4, .int .i64 n5, .int .i64 n6, .int .i64 n7, .int .i64 n8, .slice lo ln lc, .slice ro k rc, .string nt1, .int .i64 nt3, .string nt4]] w' fun e w'' => e = .returned (.bool b) ∧ Ex w'.heap.size none w' w'') := Lib.hid (fun b w' hb h => asB (sealed03_any (⟨n1, n2, n3, n4, n5, n6, n7, n8, l9, acc, nt1, nt3, nt4⟩ : St) lo ro ln lc k rc w' (HLX.out w' h) HTM.out) hb)
                  have HRO : Hid (∀ w', Ex wt5.heap.size none wt5 w' → (rowLoad 27 ⟨S, 0, none⟩).run Tryz.prog w' = .ok (.agg #[.int .i64 n1, .int .i64 n2, .string n3, .int .i64 n4, .int .i64 n5, .int .i64 n6, .int .i64 n7, .int .i64 n8, .slice lo ln lc, .slice ro k rc, .string nt1, .int .i64 nt3, .string nt4]) w' ∧ w'.heap[w.heap.size]? = some (.cells zSt 27 (0, 0)) ∧ Ex w.heap.size none w w') := Lib.hid (fun w' h => ⟨run_rowLoad w' S 27 27 #[.int .i64 n1, .int .i64 n2, .string n3, .int .i64 n4, .int .i64 n5, .int .i64 n6, .int .i64 n7, .int .i64 n8, .slice lo ln lc, .slice ro k rc, .string nt1, .int .i64 nt3, .string nt4] (0, 0) _ ((h.block S (by omega) (by simp)).trans HSRt5.out) Tryz.underlying27 rfl Tryz.sizeStm, (h.block _ (by omega) (by simp)).trans HRt5.out, HXt5.out.trans h (by omega) (by simp)⟩)
                  have hld := (HRO.out _ (Ex.refl _ _ _)).1
                  clear hq
                  by_cases hq0 : q = 0
                  · subst hq0
                    cases hsb : sealedB (⟨n1, n2, n3, n4, n5, n6, n7, n8, l9, acc, nt1, nt3, nt4⟩ : St) with
                    | true =>
                      have HSB := Lib.hid hsb
                      clear hsb
                      go_upto_region 18 with (first
                        | (go_at_call 54
                           refine (HCK.out _ (Ex.refl _ _ _)).mono ?_
                           rintro e wk1 ⟨rfl, hex⟩
                           have HZ1 := Lib.hid hex
                           clear hex hld e0 e1
                           have hld := (HRO.out _ HZ1.out).1)
                        | (go_at_call 55
                           refine (HSD.out true _ HSB.out HZ1.out).mono ?_
                           rintro e wk2 ⟨rfl, hex⟩
                           have HZ2 : Hid (Ex wt5.heap.size none wt5 wk2) := Lib.hid (HZ1.out.trans hex HZ1.out.size (by simp))
                           clear hex hld
                           have hld := (HRO.out _ HZ2.out).1)
                        | fail)
                      have HEN : Hid (∀ w', Ex wt5.heap.size none wt5 w' → Calls Tryz.prog 48 #[.agg #[.int .i64 n1, .int .i64 n2, .string n3, .int .i64 n4, .int .i64 n5, .int .i64 n6, .int .i64 n7, .int .i64 n8, .slice lo ln lc, .slice ro k rc, .string nt1, .int .i64 nt3, .string nt4]] w' fun e w'' => ∃ u, e = .returned (.tuple #[u, .int .i64 0]) ∧ SlC (fun b => w'.heap.size ≤ b) w'' u (encS (⟨n1, n2, n3, n4, n5, n6, n7, n8, l9, acc, nt1, nt3, nt4⟩ : St)) ∧ Ex w'.heap.size none w' w'') := Lib.hid (fun w' h => by
                        have h0 := enc03_any (⟨n1, n2, n3, n4, n5, n6, n7, n8, l9, acc, nt1, nt3, nt4⟩ : St) lo ro ln lc k rc w' (HLX.out w' h) HTM.out
                        have e1 : encI (⟨n1, n2, n3, n4, n5, n6, n7, n8, l9, acc, nt1, nt3, nt4⟩ : St) = 0 := by unfold encI; rw [if_pos HQC.out.symm, if_pos HSB.out]
                        have e2 : encL (⟨n1, n2, n3, n4, n5, n6, n7, n8, l9, acc, nt1, nt3, nt4⟩ : St) = encS (⟨n1, n2, n3, n4, n5, n6, n7, n8, l9, acc, nt1, nt3, nt4⟩ : St) := by unfold encL; rw [if_pos ⟨HQC.out.symm, HSB.out⟩]
                        rwa [e1, e2] at h0)
                      obtain ⟨sa, hsa⟩ : ∃ z, z = strOf (encS (⟨n1, n2, n3, n4, n5, n6, n7, n8, l9, acc, nt1, nt3, nt4⟩ : St)) := ⟨_, rfl⟩
                      obtain ⟨sb, hsb⟩ : ∃ z, z = strOf xs := ⟨_, rfl⟩
                      have HSA2 := Lib.hid hsa
                      have HSB2 := Lib.hid hsb
                      go_upto_region 19 with (first
                        | (go_at_call 48
                           refine (HEN.out _ HZ2.out).mono ?_
                           rintro e wk3 ⟨u3, rfl, hu, hex⟩
                           have HZ3 : Hid (Ex wt5.heap.size none wt5 wk3) := Lib.hid (HZ2.out.trans hex HZ2.out.size (by simp))
                           have hcv1 := run_strOf (P := Tryz.prog) (src := 30) (dst := 9) hu.sl Tryz.underlying30 Tryz.underlying5 Tryz.underlying9
                           have hcv2 := run_strOf (P := Tryz.prog) (src := 30) (dst := 9) (HPX.out _ (HRO.out _ HZ3.out).2.2).sl Tryz.underlying30 Tryz.underlying5 Tryz.underlying9
                           rw [← hsa] at hcv1
                           rw [← hsb] at hcv2
                           clear hu hex hld
                           have hld := (HRO.out _ HZ3.out).1)
                        | fail)
                      by_cases he : encS (⟨n1, n2, n3, n4, n5, n6, n7, n8, l9, acc, nt1, nt3, nt4⟩ : St) = xs
                      · have HDE : Hid (decS xs = some (⟨n1, n2, n3, n4, n5, n6, n7, n8, l9, acc, nt1, nt3, nt4⟩ : St)) := Lib.hid (decR_of HTQ0.out HQC.out.symm HSB.out he)
                        have hbq : (sa.toList == sb.toList) = true := by rw [toListB, hsa, hsb, he]; exact decide_eq_true rfl
                        have HR3 := Lib.hid (HRO.out _ HZ3.out).2.1
                        have HX3 := Lib.hid (HRO.out _ HZ3.out).2.2
                        have hst := run_rowStore (P := Tryz.prog) wk3 w.heap.size 27 27 zSt #[.int .i64 n1, .int .i64 n2, .string n3, .int .i64 n4, .int .i64 n5, .int .i64 n6, .int .i64 n7, .int .i64 n8, .slice lo ln lc, .slice ro k rc, .string nt1, .int .i64 nt3, .string nt4] HR3.out Tryz.sizeStm rfl (by simp [Value.oneCell'])
                        obtain ⟨wz, hw⟩ : ∃ wz, wz = wk3.setRow w.heap.size #[.int .i64 n1, .int .i64 n2, .string n3, .int .i64 n4, .int .i64 n5, .int .i64 n6, .int .i64 n7, .int .i64 n8, .slice lo ln lc, .slice ro k rc, .string nt1, .int .i64 nt3, .string nt4] := ⟨_, rfl⟩
                        rw [← hw] at hst
                        have HRz : Hid (wz.heap[w.heap.size]? = some (.cells #[.int .i64 n1, .int .i64 n2, .string n3, .int .i64 n4, .int .i64 n5, .int .i64 n6, .int .i64 n7, .int .i64 n8, .slice lo ln lc, .slice ro k rc, .string nt1, .int .i64 nt3, .string nt4] 27 (0, 0))) := Lib.hid (by rw [hw]; exact setRow_heap _ _ _ _ _ _ HR3.out)
                        have HXz : Hid (Ex w.heap.size none w wz) := Lib.hid (by rw [hw]; exact HX3.out.setRow _ _ (.inr (Nat.le_refl _)))
                        have HKz : Hid (Ex wk3.heap.size (some w.heap.size) wk3 wz) := Lib.hid (by rw [hw]; exact (Ex.refl _ _ _).setRow _ _ (.inl rfl))
                        clear hw he hsa hsb
                        go_wp2_with (fail)
                        clear hst hld hcv1 hcv2 hbq
                        have hr := run_loadVar_row (P := Tryz.prog) wz w.heap.size 27 27 #[.int .i64 n1, .int .i64 n2, .string n3, .int .i64 n4, .int .i64 n5, .int .i64 n6, .int .i64 n7, .int .i64 n8, .slice lo ln lc, .slice ro k rc, .string nt1, .int .i64 nt3, .string nt4] (0, 0) _ HRz.out Tryz.underlying27 rfl Tryz.sizeStm
                        refine bodyPost_ret (v := .tuple #[.agg #[.int .i64 n1, .int .i64 n2, .string n3, .int .i64 n4, .int .i64 n5, .int .i64 n6, .int .i64 n7, .int .i64 n8, .slice lo ln lc, .slice ro k rc, .string nt1, .int .i64 nt3, .string nt4], .int .i64 0]) ?_ rfl ?_
                        · rw [results_cell_tmp Tryz.results53]
                          show ((loadVar 27 ⟨w.heap.size, 0, none⟩).run Tryz.prog _).andThen _ = _
                          rw [hr]
                          rfl
                        obtain ⟨hs, rfl⟩ : s = (⟨n1, n2, n3, n4, n5, n6, n7, n8, l9, acc, nt1, nt3, nt4⟩ : St) ∧ c = 0 := by
                          rcases HDI.out with ⟨h, h2⟩ | ⟨h, _⟩
                          · rw [HDE.out] at h; exact ⟨(Option.some.inj h).symm, h2⟩
                          · rw [HDE.out] at h; cases h
                        subst hs
                        exact ⟨lo, ln, lc, ro, k, rc, rfl, ((HLX.out _ HZ3.out).keep fun b hb hlt => HKz.out.block b hlt (by intro e; have := Option.some.inj e; omega)).mono fun b hb _ => by omega, HXz.out⟩
                      · have HNO : Hid (decS xs = none) := Lib.hid (decR_no HTQ0.out (fun h => he h.2.2))
                        have hbq : (sa.toList == sb.toList) = false := by rw [toListB, hsa, hsb]; exact decide_eq_false (fun h => he (strOf_inj h))
                        have HRk3 := Lib.hid (HRO.out _ HZ3.out).2.1
                        have HXk3 := Lib.hid (HRO.out _ HZ3.out).2.2
                        clear hsa hsb
                        go_upto_region 20 with (fail)
                        clear hcv1 hcv2 hbq hld
                        have hst := run_rowStore (P := Tryz.prog) wk3 w.heap.size 27 27 zSt zSt HRk3.out Tryz.sizeStm rfl (by simp [Value.oneCell'])
                        obtain ⟨wz, hw⟩ : ∃ wz, wz = wk3.setRow w.heap.size zSt := ⟨_, rfl⟩
                        rw [← hw] at hst
                        have HRz : Hid (wz.heap[w.heap.size]? = some (.cells zSt 27 (0, 0))) := Lib.hid (by rw [hw]; exact setRow_heap _ _ _ _ _ _ HRk3.out)
                        have HXz : Hid (Ex w.heap.size none w wz) := Lib.hid (by rw [hw]; exact HXk3.out.setRow _ _ (.inr (Nat.le_refl _)))
                        clear hw
                        go_wp2_with (fail)
                        clear hst
                        have hr := run_loadVar_row (P := Tryz.prog) wz w.heap.size 27 27 zSt (0, 0) _ HRz.out Tryz.underlying27 rfl Tryz.sizeStm
                        refine bodyPost_ret (v := .tuple #[.agg zSt, .int .i64 1]) ?_ rfl ?_
                        · rw [results_cell_tmp Tryz.results53]
                          show ((loadVar 27 ⟨w.heap.size, 0, none⟩).run Tryz.prog _).andThen _ = _
                          rw [hr]
                          rfl
                        obtain ⟨rfl, rfl⟩ : s = zeroSt ∧ c = 1 := by
                          rcases HDI.out with ⟨h, _⟩ | ⟨_, h1, h2⟩
                          · rw [HNO.out] at h; cases h
                          · exact ⟨h1, h2⟩
                        exact ⟨none, 0, 0, none, 0, 0, rfl, Lies.zero _ _, HXz.out⟩
                    | false =>
                      have HSB := Lib.hid hsb
                      have HNO : Hid (decS xs = none) := Lib.hid (decR_no HTQ0.out (fun h => by rw [hsb] at h; exact absurd h.2.1 (by decide)))
                      clear hsb
                      go_upto_region 17 with (first
                        | (go_at_call 54
                           refine (HCK.out _ (Ex.refl _ _ _)).mono ?_
                           rintro e wk1 ⟨rfl, hex⟩
                           have HZ1 := Lib.hid hex
                           clear hex hld e0 e1
                           have hld := (HRO.out _ HZ1.out).1)
                        | (go_at_call 55
                           refine (HSD.out false _ HSB.out HZ1.out).mono ?_
                           rintro e wk2 ⟨rfl, hex⟩
                           have HZ2 : Hid (Ex wt5.heap.size none wt5 wk2) := Lib.hid (HZ1.out.trans hex HZ1.out.size (by simp))
                           clear hex hld)
                        | fail)
                      have HRk2 := Lib.hid (HRO.out _ HZ2.out).2.1
                      have HXk2 := Lib.hid (HRO.out _ HZ2.out).2.2
                      have hst := run_rowStore (P := Tryz.prog) wk2 w.heap.size 27 27 zSt zSt HRk2.out Tryz.sizeStm rfl (by simp [Value.oneCell'])
                      obtain ⟨wz, hw⟩ : ∃ wz, wz = wk2.setRow w.heap.size zSt := ⟨_, rfl⟩
                      rw [← hw] at hst
                      have HRz : Hid (wz.heap[w.heap.size]? = some (.cells zSt 27 (0, 0))) := Lib.hid (by rw [hw]; exact setRow_heap _ _ _ _ _ _ HRk2.out)
                      have HXz : Hid (Ex w.heap.size none w wz) := Lib.hid (by rw [hw]; exact HXk2.out.setRow _ _ (.inr (Nat.le_refl _)))
                      clear hw
                      go_wp2_with (fail)
                      clear hst
                      have hr := run_loadVar_row (P := Tryz.prog) wz w.heap.size 27 27 zSt (0, 0) _ HRz.out Tryz.underlying27 rfl Tryz.sizeStm
                      refine bodyPost_ret (v := .tuple #[.agg zSt, .int .i64 1]) ?_ rfl ?_
                      · rw [results_cell_tmp Tryz.results53]
                        show ((loadVar 27 ⟨w.heap.size, 0, none⟩).run Tryz.prog _).andThen _ = _
                        rw [hr]
                        rfl
                      obtain ⟨rfl, rfl⟩ : s = zeroSt ∧ c = 1 := by
                        rcases HDI.out with ⟨h, _⟩ | ⟨_, h1, h2⟩
                        · rw [HNO.out] at h; cases h
                        · exact ⟨h1, h2⟩
                      exact ⟨none, 0, 0, none, 0, 0, rfl, Lies.zero _ _, HXz.out⟩
                  · have hqb : (q == 0) = false := by simpa using hq0
                    have HNO : Hid (decS xs = none) := Lib.hid (decR_no HTQ0.out (fun h => hq0 (HQC.out.trans h.1)))
                    go_upto_region 17 with (first
                      | (go_at_call 54
                         refine (HCK.out _ (Ex.refl _ _ _)).mono ?_
                         rintro e wk1 ⟨rfl, hex⟩
                         have HZ1 := Lib.hid hex
                         clear hex hld e0 e1)
                      | fail)
                    have HRk1 := Lib.hid (HRO.out _ HZ1.out).2.1
                    have HXk1 := Lib.hid (HRO.out _ HZ1.out).2.2
                    have hst := run_rowStore (P := Tryz.prog) wk1 w.heap.size 27 27 zSt zSt HRk1.out Tryz.sizeStm rfl (by simp [Value.oneCell'])
                    obtain ⟨wz, hw⟩ : ∃ wz, wz = wk1.setRow w.heap.size zSt := ⟨_, rfl⟩
                    rw [← hw] at hst
                    have HRz : Hid (wz.heap[w.heap.size]? = some (.cells zSt 27 (0, 0))) := Lib.hid (by rw [hw]; exact setRow_heap _ _ _ _ _ _ HRk1.out)
                    have HXz : Hid (Ex w.heap.size none w wz) := Lib.hid (by rw [hw]; exact HXk1.out.setRow _ _ (.inr (Nat.le_refl _)))
                    clear hw
                    go_wp2_with (fail)
                    clear hst
                    have hr := run_loadVar_row (P := Tryz.prog) wz w.heap.size 27 27 zSt (0, 0) _ HRz.out Tryz.underlying27 rfl Tryz.sizeStm
                    refine bodyPost_ret (v := .tuple #[.agg zSt, .int .i64 1]) ?_ rfl ?_
                    · rw [results_cell_tmp Tryz.results53]
                      show ((loadVar 27 ⟨w.heap.size, 0, none⟩).run Tryz.prog _).andThen _ = _
                      rw [hr]
                      rfl
                    obtain ⟨rfl, rfl⟩ : s = zeroSt ∧ c = 1 := by
                      rcases HDI.out with ⟨h, _⟩ | ⟨_, h1, h2⟩
                      · rw [HNO.out] at h; cases h
                      · exact ⟨h1, h2⟩
                    exact ⟨none, 0, 0, none, 0, 0, rfl, Lies.zero _ _, HXz.out⟩
                · have hf0I : 0 < (mf : Int) := by omega
                  have hf0d : decide (0 < (mf : Int)) = true := decide_eq_true hf0I
                  have hf0N : decide (0 < mf) = true := decide_eq_true (by omega)
                  have HNO : Hid (decS xs = none) := Lib.hid (by rw [← decR_eq]; unfold decR; rw [HTQ.out]; simp only [Option.bind_some]; rw [if_neg (fun h => hf0 (by rw [HMF.out, h.1]; rfl))])
                  go_upto_region 17 with (fail)
                  clear e0 e1
                  have hst := run_rowStore (P := Tryz.prog) wt5 w.heap.size 27 27 zSt zSt HRt5.out Tryz.sizeStm rfl (by simp [Value.oneCell'])
                  obtain ⟨wz, hw⟩ : ∃ wz, wz = wt5.setRow w.heap.size zSt := ⟨_, rfl⟩
                  rw [← hw] at hst
                  have HRz : Hid (wz.heap[w.heap.size]? = some (.cells zSt 27 (0, 0))) := Lib.hid (by rw [hw]; exact setRow_heap _ _ _ _ _ _ HRt5.out)
                  have HXz : Hid (Ex w.heap.size none w wz) := Lib.hid (by rw [hw]; exact HXt5.out.setRow _ _ (.inr (Nat.le_refl _)))
                  clear hw
                  go_wp2_with (fail)
                  clear hst
                  have hr := run_loadVar_row (P := Tryz.prog) wz w.heap.size 27 27 zSt (0, 0) _ HRz.out Tryz.underlying27 rfl Tryz.sizeStm
                  refine bodyPost_ret (v := .tuple #[.agg zSt, .int .i64 1]) ?_ rfl ?_
                  · rw [results_cell_tmp Tryz.results53]
                    show ((loadVar 27 ⟨w.heap.size, 0, none⟩).run Tryz.prog _).andThen _ = _
                    rw [hr]
                    rfl
                  obtain ⟨rfl, rfl⟩ : s = zeroSt ∧ c = 1 := by
                    rcases HDI.out with ⟨h, _⟩ | ⟨_, h1, h2⟩
                    · rw [HNO.out] at h; cases h
                    · exact ⟨h1, h2⟩
                  exact ⟨none, 0, 0, none, 0, 0, rfl, Lies.zero _ _, HXz.out⟩
              · have HNO : Hid (decS xs = none) := Lib.hid (decR_tail HHD.out (.inr (by rw [HKN.out.1]; exact hc2)))
                have ht5 := Ht5.out
                rw [hc1] at ht5
                obtain ⟨vq5, hgv, _⟩ := ht5
                have e1 := (row2_cell hgv).2.1
                simp only [Option.isSome_none] at e1
                clear hgv hc1 hc2
                go_upto_region 17 with (fail)
                clear e1
                have hst := run_rowStore (P := Tryz.prog) wt5 w.heap.size 27 27 zSt zSt HRt5.out Tryz.sizeStm rfl (by simp [Value.oneCell'])
                obtain ⟨wz, hw⟩ : ∃ wz, wz = wt5.setRow w.heap.size zSt := ⟨_, rfl⟩
                rw [← hw] at hst
                have HRz : Hid (wz.heap[w.heap.size]? = some (.cells zSt 27 (0, 0))) := Lib.hid (by rw [hw]; exact setRow_heap _ _ _ _ _ _ HRt5.out)
                have HXz : Hid (Ex w.heap.size none w wz) := Lib.hid (by rw [hw]; exact HXt5.out.setRow _ _ (.inr (Nat.le_refl _)))
                clear hw
                go_wp2_with (fail)
                clear hst
                have hr := run_loadVar_row (P := Tryz.prog) wz w.heap.size 27 27 zSt (0, 0) _ HRz.out Tryz.underlying27 rfl Tryz.sizeStm
                refine bodyPost_ret (v := .tuple #[.agg zSt, .int .i64 1]) ?_ rfl ?_
                · rw [results_cell_tmp Tryz.results53]
                  show ((loadVar 27 ⟨w.heap.size, 0, none⟩).run Tryz.prog _).andThen _ = _
                  rw [hr]
                  rfl
                obtain ⟨rfl, rfl⟩ : s = zeroSt ∧ c = 1 := by
                  rcases HDI.out with ⟨h, _⟩ | ⟨_, h1, h2⟩
                  · rw [HNO.out] at h; cases h
                  · exact ⟨h1, h2⟩
                exact ⟨none, 0, 0, none, 0, 0, rfl, Lies.zero _ _, HXz.out⟩
end Go.Proofs.YtoeklgbajggndaaGreat
