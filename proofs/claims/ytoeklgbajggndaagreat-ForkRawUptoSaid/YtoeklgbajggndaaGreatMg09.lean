/- statement.reader.read: a contract with two ends. No statement of the seat. | The deferred closure of statement.Decode: contracts in a frame that panics and in one that returns. No statement of the seat. | The chain of the document's readings of a head. Plain; and contracts of its reader where what is read is known. No statement of the seat. -/
import Derived.Test.YtoeklgbajggndaaGreatMg07
import Derived.Test.YtoeklgbajggndaaGreatMg08
import Derived.Test.YtoeklgbajggndaaGreatMg01
import Derived.Laws.ResultCell
import Derived.Deep.RegionHeld3
import Derived.Deep.RegionLaw
import Derived.Recover
namespace Go.Proofs.YtoeklgbajggndaaGreat
open Go.RowKit Go.Sort

theorem rowStore_st (a : Addr) (v : Value) : storeVar 27 a v = rowStore 27 a v := rfl
theorem rowLoad_st (a : Addr) : loadVar 27 a = rowLoad 27 a := rfl
theorem Tryz.sizeStm : (Tryz.prog.info? 27).map (·.size) = some 13 := by kernel_rfl
theorem row_set {w : World} {g i : Nat} {cs : Array Value} {u : Value} {t : TypeId} (h : w.heap[g]? = some (.cells cs t (0, 0))) : (w.setCell ⟨g, i, none⟩ u).heap[g]? = some (.cells (cs.setIfInBounds i u) t (0, 0)) := by
  simp [World.setCell, Array.getElem?_modify, h]
theorem row_frz {w : World} {g : Nat} {cs : Array Value} {t : TypeId} (h : w.heap[g]? = some (.cells cs t (0, 0))) (o : Nat) : w.frozen? ⟨g, o, none⟩ = false := by
  simp [World.frozen?, h]
theorem takeI_lenL {b r : List UInt8} {n : Int} {m : Nat} (h : takeI b = some (n, r)) (hb : b.length ≤ m) : r.length ≤ m := by have := takeI_len h; omega
theorem takeT_lenL {b r : List UInt8} {most : Int} {s : ByteArray} {m : Nat} (h : takeT b most = some (s, r)) (hb : b.length ≤ m) : r.length ≤ m := by
  have := congrArg List.length (takeT_back h)
  simp only [List.length_append] at this
  omega
theorem takeL_lenL {b r : List UInt8} {most : Int} {l : List Int} {m : Nat} (h : takeL b most = some (l, r)) (hb : b.length ≤ m) : r.length ≤ m := by
  have := congrArg List.length (takeL_back h)
  simp only [List.length_append] at this
  omega
theorem takePs_none {k j : Nat} {b : List UInt8} (h : takePs k b = none) (hk : k ≤ j) : takePs j b = none := by
  induction j with
  | zero => obtain rfl : k = 0 := by omega
            exact h
  | succ j ih =>
    rcases Nat.lt_or_ge k (j + 1) with hlt | hge
    · unfold takePs; rw [ih (by omega)]
    · obtain rfl : k = j + 1 := by omega
      exact h
/-- A call of a function, as one step of a region that draws. -/
theorem step_callR {P : Program} {w : World} {ops : Array Oper} {o : Oper} {a : Act} {K : Act → World → Prop} {Q : Exit → Act → World → Prop} {E : Prop} (hg : o.guard = none) (f : FuncId) (args : Array Value)
    (hrun : (execOp a.eval o).run P w = .ok (.enter f args) w) {R : Ending → World → Prop} (hc : Calls P f args w R) (hR : ∀ e w', R e w' → (∃ v, e = .returned v ∧ K (a.put o.dst v) w') ∨ (∃ c, e = .panicked c ∧ Q (.panic c) a w')) :
    if Region.wanted o (yielded ops a.tmps) = true then o.wp P a w K Q else E := by
  rw [if_pos (show Region.wanted o (yielded ops a.tmps) = true by simp [Region.wanted, hg])]
  unfold Oper.wp
  rw [hrun, Oper.upon_enter]
  refine hc.mono fun e w' h => ?_
  rcases hR e w' h with ⟨v, rfl, hk⟩ | ⟨c, rfl, hk⟩
  · exact hk
  · exact hk
attribute [local go_sem ↓] rowStore_st rowLoad_st
set_option maxHeartbeats 16000000 in
set_option maxRecDepth 100000 in
theorem readS_any (g : Nat) (xs : List UInt8) (w : World) (h : RdP w g xs) (hm : xs.length ≤ 100000) :
    Calls Tryz.prog 93 #[.pointer (some ⟨g, 0, none⟩)] w fun e w' => (∃ (s : St) (lo : Option Addr) (ln lc : Nat) (po : Option Addr) (pn pc : Nat) (r : List UInt8), takeSt xs = some (s, r) ∧ e = .returned (.agg #[.int .i64 s.author, .int .i64 s.number, .string s.prev, .int .i64 s.time, .int .i64 s.kind, .int .i64 s.a, .int .i64 s.b, .int .i64 s.c, .slice lo ln lc, .slice po pn pc, .string s.body, .int .i64 s.key, .string s.dig]) ∧ Lies (fun b => w.heap.size ≤ b) w' (s, ⟨lo, ln, lc⟩, ⟨po, pn, pc⟩) ∧ RdP w' g r ∧ Ex w.heap.size (some g) w w') ∨ (takeSt xs = none ∧ e = .panicked brk ∧ Ex w.heap.size (some g) w w') := by
  have hgl := h.lt
  obtain ⟨w0, hw0⟩ : ∃ w0 : World, w0 = w.alloc (.cells #[.int .i64 0, .int .i64 0, .string ⟨#[]⟩, .int .i64 0, .int .i64 0, .int .i64 0, .int .i64 0, .int .i64 0, .slice none 0 0, .slice none 0 0, .string ⟨#[]⟩, .int .i64 0, .string ⟨#[]⟩] 27) := ⟨_, rfl⟩
  have hz0 : w.heap.size < w0.heap.size := by rw [hw0]; simp
  have HE0 : Hid (Ex w.heap.size (some g) w w0) := Lib.hid (by rw [hw0]; exact (Ex.new w _).weaken _)
  have HB0 : Hid (w0.heap[w.heap.size]? = some (.cells #[.int .i64 0, .int .i64 0, .string ⟨#[]⟩, .int .i64 0, .int .i64 0, .int .i64 0, .int .i64 0, .int .i64 0, .slice none 0 0, .slice none 0 0, .string ⟨#[]⟩, .int .i64 0, .string ⟨#[]⟩] 27 (0, 0))) := Lib.hid (by rw [hw0]; exact heap_alloc_new w _)
  have H0 : Hid (RdP w0 g xs) := Lib.hid (h.keep fun b hb => by rw [hw0]; exact (Ex.new w _).block b hb (by simp))
  have HL0 : Hid (xs.length ≤ 100000) := Lib.hid hm
  have HP : Hid (∀ wi wj, Ex w.heap.size (some g) w wi → w.heap.size ≤ wi.heap.size → Ex wi.heap.size (some g) wi wj → Ex w.heap.size (some g) w wj) := Lib.hid (fun wi wj h1 h2 h3 => h1.trans h3 h2 fun q e _ => e)
  have HBK : Hid (∀ wi wj, wi.heap[w.heap.size]? = some (.cells #[.int .i64 0, .int .i64 0, .string ⟨#[]⟩, .int .i64 0, .int .i64 0, .int .i64 0, .int .i64 0, .int .i64 0, .slice none 0 0, .slice none 0 0, .string ⟨#[]⟩, .int .i64 0, .string ⟨#[]⟩] 27 (0, 0)) → w.heap.size < wi.heap.size → Ex wi.heap.size (some g) wi wj → wj.heap[w.heap.size]? = some (.cells #[.int .i64 0, .int .i64 0, .string ⟨#[]⟩, .int .i64 0, .int .i64 0, .int .i64 0, .int .i64 0, .int .i64 0, .slice none 0 0, .slice none 0 0, .string ⟨#[]⟩, .int .i64 0, .string ⟨#[]⟩] 27 (0, 0))) := Lib.hid (fun wi wj h1 h2 h3 => (h3.block _ h2 (by intro e; have := Option.some.inj e; omega)).trans h1)
  clear h hm
  go_enter Tryz.func93, Tryz.ntmps93
  go_upto_region 1 with (fail)
  rw [← hw0]
  clear hw0
  go_upto_region 2 with (first
    | (go_at_call 138
       refine (readInt_any g xs w0 H0.out (by have := HL0.out; omega)).mono ?_
       rintro e w1 (⟨n1, r1, hT, rfl, hrd, hex⟩ | ⟨hT, rfl, hex⟩)
       rotate_left
       · exact ⟨rfl, .inr ⟨by simp only [takeSt, headS, tailS, Option.bind_none, hT], rfl, HP.out _ _ HE0.out (by omega) hex⟩⟩
       have HT1 := Lib.hid hT
       have HQ1 := Lib.hid hrd
       have H1 := Lib.hid hrd.any
       have HL1 : Hid (r1.length ≤ 100000) := Lib.hid (takeI_lenL hT HL0.out)
       have HE1 : Hid (Ex w.heap.size (some g) w w1) := Lib.hid (HP.out _ _ HE0.out (by omega) hex)
       have HX1 : Hid (Ex w0.heap.size (some g) w0 w1) := Lib.hid hex
       have HB1 := Lib.hid (HBK.out _ _ HB0.out (by omega) hex)
       have hz1 : w.heap.size < w1.heap.size := by have := hex.size; omega
       clear hT hrd hex H0)
    | (go_at_call 138
       refine (readInt_any g r1 w1 H1.out (by have := HL1.out; omega)).mono ?_
       rintro e w2 (⟨n2, r2, hT, rfl, hrd, hex⟩ | ⟨hT, rfl, hex⟩)
       rotate_left
       · exact ⟨rfl, .inr ⟨by simp only [takeSt, headS, tailS, HT1.out, Option.bind_some, Option.bind_none, hT], rfl, HP.out _ _ HE1.out (by omega) hex⟩⟩
       have HT2 := Lib.hid hT
       have HQ2 := Lib.hid hrd
       have H2 := Lib.hid hrd.any
       have HL2 : Hid (r2.length ≤ 100000) := Lib.hid (takeI_lenL hT HL1.out)
       have HE2 : Hid (Ex w.heap.size (some g) w w2) := Lib.hid (HP.out _ _ HE1.out (by omega) hex)
       have HX2 : Hid (Ex w1.heap.size (some g) w1 w2) := Lib.hid hex
       have HB2 := Lib.hid (HBK.out _ _ HB1.out (by omega) hex)
       have hz2 : w.heap.size < w2.heap.size := by have := hex.size; omega
       clear hT hrd hex H1)
    | (go_at_call 139
       refine (readText_any g r2 32 w2 H2.out (by have := HL2.out; omega)).mono ?_
       rintro e w3 (⟨n3, r3, hT, rfl, hrd, hex⟩ | ⟨hT, rfl, hex⟩)
       rotate_left
       · exact ⟨rfl, .inr ⟨by simp only [takeSt, headS, tailS, HT1.out, HT2.out, Option.bind_some, Option.bind_none, hT], rfl, HP.out _ _ HE2.out (by omega) hex⟩⟩
       have HT3 := Lib.hid hT
       have HQ3 := Lib.hid hrd
       have H3 := Lib.hid hrd.any
       have HL3 : Hid (r3.length ≤ 100000) := Lib.hid (takeT_lenL hT HL2.out)
       have HE3 : Hid (Ex w.heap.size (some g) w w3) := Lib.hid (HP.out _ _ HE2.out (by omega) hex)
       have HX3 : Hid (Ex w2.heap.size (some g) w2 w3) := Lib.hid hex
       have HB3 := Lib.hid (HBK.out _ _ HB2.out (by omega) hex)
       have hz3 : w.heap.size < w3.heap.size := by have := hex.size; omega
       clear hT hrd hex H2)
    | (go_at_call 138
       refine (readInt_any g r3 w3 H3.out (by have := HL3.out; omega)).mono ?_
       rintro e w4 (⟨n4, r4, hT, rfl, hrd, hex⟩ | ⟨hT, rfl, hex⟩)
       rotate_left
       · exact ⟨rfl, .inr ⟨by simp only [takeSt, headS, tailS, HT1.out, HT2.out, HT3.out, Option.bind_some, Option.bind_none, hT], rfl, HP.out _ _ HE3.out (by omega) hex⟩⟩
       have HT4 := Lib.hid hT
       have HQ4 := Lib.hid hrd
       have H4 := Lib.hid hrd.any
       have HL4 : Hid (r4.length ≤ 100000) := Lib.hid (takeI_lenL hT HL3.out)
       have HE4 : Hid (Ex w.heap.size (some g) w w4) := Lib.hid (HP.out _ _ HE3.out (by omega) hex)
       have HX4 : Hid (Ex w3.heap.size (some g) w3 w4) := Lib.hid hex
       have HB4 := Lib.hid (HBK.out _ _ HB3.out (by omega) hex)
       have hz4 : w.heap.size < w4.heap.size := by have := hex.size; omega
       clear hT hrd hex H3)
    | (go_at_call 138
       refine (readInt_any g r4 w4 H4.out (by have := HL4.out; omega)).mono ?_
       rintro e w5 (⟨n5, r5, hT, rfl, hrd, hex⟩ | ⟨hT, rfl, hex⟩)
       rotate_left
       · exact ⟨rfl, .inr ⟨by simp only [takeSt, headS, tailS, HT1.out, HT2.out, HT3.out, HT4.out, Option.bind_some, Option.bind_none, hT], rfl, HP.out _ _ HE4.out (by omega) hex⟩⟩
       have HT5 := Lib.hid hT
       have HQ5 := Lib.hid hrd
       have H5 := Lib.hid hrd.any
       have HL5 : Hid (r5.length ≤ 100000) := Lib.hid (takeI_lenL hT HL4.out)
       have HE5 : Hid (Ex w.heap.size (some g) w w5) := Lib.hid (HP.out _ _ HE4.out (by omega) hex)
       have HX5 : Hid (Ex w4.heap.size (some g) w4 w5) := Lib.hid hex
       have HB5 := Lib.hid (HBK.out _ _ HB4.out (by omega) hex)
       have hz5 : w.heap.size < w5.heap.size := by have := hex.size; omega
       clear hT hrd hex H4)
    | (go_at_call 138
       refine (readInt_any g r5 w5 H5.out (by have := HL5.out; omega)).mono ?_
       rintro e w6 (⟨n6, r6, hT, rfl, hrd, hex⟩ | ⟨hT, rfl, hex⟩)
       rotate_left
       · exact ⟨rfl, .inr ⟨by simp only [takeSt, headS, tailS, HT1.out, HT2.out, HT3.out, HT4.out, HT5.out, Option.bind_some, Option.bind_none, hT], rfl, HP.out _ _ HE5.out (by omega) hex⟩⟩
       have HT6 := Lib.hid hT
       have HQ6 := Lib.hid hrd
       have H6 := Lib.hid hrd.any
       have HL6 : Hid (r6.length ≤ 100000) := Lib.hid (takeI_lenL hT HL5.out)
       have HE6 : Hid (Ex w.heap.size (some g) w w6) := Lib.hid (HP.out _ _ HE5.out (by omega) hex)
       have HX6 : Hid (Ex w5.heap.size (some g) w5 w6) := Lib.hid hex
       have HB6 := Lib.hid (HBK.out _ _ HB5.out (by omega) hex)
       have hz6 : w.heap.size < w6.heap.size := by have := hex.size; omega
       clear hT hrd hex H5)
    | (go_at_call 138
       refine (readInt_any g r6 w6 H6.out (by have := HL6.out; omega)).mono ?_
       rintro e w7 (⟨n7, r7, hT, rfl, hrd, hex⟩ | ⟨hT, rfl, hex⟩)
       rotate_left
       · exact ⟨rfl, .inr ⟨by simp only [takeSt, headS, tailS, HT1.out, HT2.out, HT3.out, HT4.out, HT5.out, HT6.out, Option.bind_some, Option.bind_none, hT], rfl, HP.out _ _ HE6.out (by omega) hex⟩⟩
       have HT7 := Lib.hid hT
       have HQ7 := Lib.hid hrd
       have H7 := Lib.hid hrd.any
       have HL7 : Hid (r7.length ≤ 100000) := Lib.hid (takeI_lenL hT HL6.out)
       have HE7 : Hid (Ex w.heap.size (some g) w w7) := Lib.hid (HP.out _ _ HE6.out (by omega) hex)
       have HX7 : Hid (Ex w6.heap.size (some g) w6 w7) := Lib.hid hex
       have HB7 := Lib.hid (HBK.out _ _ HB6.out (by omega) hex)
       have hz7 : w.heap.size < w7.heap.size := by have := hex.size; omega
       clear hT hrd hex H6)
    | (go_at_call 138
       refine (readInt_any g r7 w7 H7.out (by have := HL7.out; omega)).mono ?_
       rintro e w8 (⟨n8, r8, hT, rfl, hrd, hex⟩ | ⟨hT, rfl, hex⟩)
       rotate_left
       · exact ⟨rfl, .inr ⟨by simp only [takeSt, headS, tailS, HT1.out, HT2.out, HT3.out, HT4.out, HT5.out, HT6.out, HT7.out, Option.bind_some, Option.bind_none, hT], rfl, HP.out _ _ HE7.out (by omega) hex⟩⟩
       have HT8 := Lib.hid hT
       have HQ8 := Lib.hid hrd
       have H8 := Lib.hid hrd.any
       have HL8 : Hid (r8.length ≤ 100000) := Lib.hid (takeI_lenL hT HL7.out)
       have HE8 : Hid (Ex w.heap.size (some g) w w8) := Lib.hid (HP.out _ _ HE7.out (by omega) hex)
       have HX8 : Hid (Ex w7.heap.size (some g) w7 w8) := Lib.hid hex
       have HB8 := Lib.hid (HBK.out _ _ HB7.out (by omega) hex)
       have hz8 : w.heap.size < w8.heap.size := by have := hex.size; omega
       clear hT hrd hex H7)
    | (go_at_call 140
       refine (readInts_any g r8 64 w8 H8.out (by have := HL8.out; omega)).mono ?_
       rintro e w9 (⟨n9, r9, v9, hT, rfl, hv9, hrd, hex⟩ | ⟨hT, rfl, hex⟩)
       rotate_left
       · exact ⟨rfl, .inr ⟨by simp only [takeSt, headS, tailS, HT1.out, HT2.out, HT3.out, HT4.out, HT5.out, HT6.out, HT7.out, HT8.out, Option.bind_some, Option.bind_none, hT], rfl, HP.out _ _ HE8.out (by omega) hex⟩⟩
       have HT9 := Lib.hid hT
       have HQ9 := Lib.hid hrd
       have H9 := Lib.hid hrd.any
       have HL9 : Hid (r9.length ≤ 100000) := Lib.hid (takeL_lenL hT HL8.out)
       have HE9 : Hid (Ex w.heap.size (some g) w w9) := Lib.hid (HP.out _ _ HE8.out (by omega) hex)
       have HX9 : Hid (Ex w8.heap.size (some g) w8 w9) := Lib.hid hex
       have HB9 := Lib.hid (HBK.out _ _ HB8.out (by omega) hex)
       have hz9 : w.heap.size < w9.heap.size := by have := hex.size; omega
       obtain ⟨lo, lc, rfl, hlo⟩ := hv9
       obtain ⟨ln, hln⟩ : ∃ ln, ln = n9.length := ⟨_, rfl⟩
       rw [← hln]
       have HLN := Lib.hid hln
       have HLO := Lib.hid hlo
       have hst := run_rowStore (P := Tryz.prog) (w9.alloc (.cells #[.int .i64 0, .int .i64 0, .string ⟨#[]⟩, .int .i64 0, .int .i64 0, .int .i64 0, .int .i64 0, .int .i64 0, .slice none 0 0, .slice none 0 0, .string ⟨#[]⟩, .int .i64 0, .string ⟨#[]⟩] 27)) w9.heap.size 27 27 #[.int .i64 0, .int .i64 0, .string ⟨#[]⟩, .int .i64 0, .int .i64 0, .int .i64 0, .int .i64 0, .int .i64 0, .slice none 0 0, .slice none 0 0, .string ⟨#[]⟩, .int .i64 0, .string ⟨#[]⟩] #[.int .i64 n1, .int .i64 n2, .string n3, .int .i64 n4, .int .i64 n5, .int .i64 n6, .int .i64 n7, .int .i64 n8, .slice lo ln lc, .slice none 0 0, .string ⟨#[]⟩, .int .i64 0, .string ⟨#[]⟩] (heap_alloc_new w9 _) Tryz.sizeStm rfl (by simp [Value.oneCell'])
       obtain ⟨wa, hwa⟩ : ∃ wa : World, wa = (w9.alloc (.cells #[.int .i64 0, .int .i64 0, .string ⟨#[]⟩, .int .i64 0, .int .i64 0, .int .i64 0, .int .i64 0, .int .i64 0, .slice none 0 0, .slice none 0 0, .string ⟨#[]⟩, .int .i64 0, .string ⟨#[]⟩] 27)).setRow w9.heap.size #[.int .i64 n1, .int .i64 n2, .string n3, .int .i64 n4, .int .i64 n5, .int .i64 n6, .int .i64 n7, .int .i64 n8, .slice lo ln lc, .slice none 0 0, .string ⟨#[]⟩, .int .i64 0, .string ⟨#[]⟩] := ⟨_, rfl⟩
       rw [← hwa] at hst
       have HSA : Hid (wa.heap[w9.heap.size]? = some (.cells #[.int .i64 n1, .int .i64 n2, .string n3, .int .i64 n4, .int .i64 n5, .int .i64 n6, .int .i64 n7, .int .i64 n8, .slice lo ln lc, .slice none 0 0, .string ⟨#[]⟩, .int .i64 0, .string ⟨#[]⟩] 27 (0, 0))) := Lib.hid (by rw [hwa]; exact setRow_heap _ _ _ _ _ _ (heap_alloc_new w9 _))
       have hxa : Ex w9.heap.size none w9 wa := by rw [hwa]; exact (Ex.new w9 _).setRow _ _ (.inr (Nat.le_refl _))
       have HXA := Lib.hid hxa
       have hza : w9.heap.size < wa.heap.size := by rw [hwa]; simp [World.setRow]
       have Ha : Hid (RdP wa g r9) := Lib.hid (hrd.any.keep fun b hb => hxa.block b hb (by simp))
       have HLa : Hid (r9.length ≤ 100000) := Lib.hid HL9.out
       have HEa : Hid (Ex w.heap.size (some g) w wa) := Lib.hid (HE9.out.trans (hxa.weaken (some g)) (by omega) fun q e _ => e)
       have HBa : Hid (wa.heap[w.heap.size]? = some (.cells #[.int .i64 0, .int .i64 0, .string ⟨#[]⟩, .int .i64 0, .int .i64 0, .int .i64 0, .int .i64 0, .int .i64 0, .slice none 0 0, .slice none 0 0, .string ⟨#[]⟩, .int .i64 0, .string ⟨#[]⟩] 27 (0, 0))) := Lib.hid ((hxa.block _ (by omega) (by simp)).trans HB9.out)
       clear hT hrd hex H8 H9 hln hlo hwa hxa hz1 hz2 hz3 hz4 hz5 hz6 hz7)
    | fail)
  clear hst
  obtain ⟨S, hS⟩ : ∃ S, S = w9.heap.size := ⟨_, rfl⟩
  rw [← hS] at HSA ⊢
  rw [← hS] at hza
  have hSw : w.heap.size < S := by rw [hS]; exact hz9
  have HSS := Lib.hid hS
  clear hS
  clear HX1 HX2 HX3 HX4 HX5 HX6 HX7 HX8 HX9 HQ1 HQ2 HQ3 HQ4 HQ5 HQ6 HQ7 HQ8 HQ9 HB1 HB2 HB3 HB4 HB5 HB6 HB7 HB8 HE1 HE2 HE3 HE4 HE5 HE6 HE7 HE8
  go_upto_region 3 with (first
    | (go_at_call 138
       refine (readInt_any g r9 wa Ha.out (by have := HLa.out; omega)).mono ?_
       rintro e w10 (⟨n10, r10, hT, rfl, hrd, hex⟩ | ⟨hT, rfl, hex⟩)
       rotate_left
       · exact ⟨rfl, .inr ⟨by simp only [takeSt, headS, tailS, HT1.out, HT2.out, HT3.out, HT4.out, HT5.out, HT6.out, HT7.out, HT8.out, HT9.out, Option.bind_some, Option.bind_none, Option.map_none, hT], rfl, HP.out _ _ HEa.out (by omega) hex⟩⟩
       have HT10 := Lib.hid hT
       have HQ10 := Lib.hid hrd
       have H10 := Lib.hid hrd.any
       have HL10 : Hid (r10.length ≤ 100000) := Lib.hid (takeI_lenL hT HLa.out)
       have HE10 : Hid (Ex w.heap.size (some g) w w10) := Lib.hid (HP.out _ _ HEa.out (by omega) hex)
       have HX10 : Hid (Ex wa.heap.size (some g) wa w10) := Lib.hid hex
       have HB10 := Lib.hid (HBK.out _ _ HBa.out (by omega) hex)
       have hz10 : w.heap.size < w10.heap.size := by have := hex.size; omega
       clear hT hrd hex Ha)
    | fail)
  have HHD : Hid (headS xs = some ((⟨n1, n2, n3, n4, n5, n6, n7, n8, n9, [], ⟨#[]⟩, 0, ⟨#[]⟩⟩ : St), n10, r10)) := Lib.hid (by simp only [headS, HT1.out, HT2.out, HT3.out, HT4.out, HT5.out, HT6.out, HT7.out, HT8.out, HT9.out, HT10.out, Option.bind_some, Option.map_some])
  have HY10 : Hid (Ex S (some g) w9 w10) := Lib.hid (by rw [HSS.out]; exact (HXA.out.weaken (some g)).trans HX10.out (by rw [← HSS.out]; omega) fun q e _ => e)
  have HS10 : Hid (w10.heap[S]? = some (.cells #[.int .i64 n1, .int .i64 n2, .string n3, .int .i64 n4, .int .i64 n5, .int .i64 n6, .int .i64 n7, .int .i64 n8, .slice lo ln lc, .slice none 0 0, .string ⟨#[]⟩, .int .i64 0, .string ⟨#[]⟩] 27 (0, 0))) := Lib.hid ((HX10.out.block S hza (by intro e; have := Option.some.inj e; omega)).trans HSA.out)
  have HLW : Hid (∀ w', Ex S (some g) w9 w' → Sl intRep (fun b => w.heap.size < b ∧ b < S) w' (.slice lo ln lc) n9) := Lib.hid (fun w' h => ⟨lo, lc, by rw [HLN.out], (HLO.out.mono (P' := fun b => w.heap.size < b ∧ b < S) (by decide) fun b hb hlt => ⟨by omega, by rw [HSS.out]; exact hlt⟩).keep (by decide) fun b hb _ => h.block b hb.2 (by intro e; have := Option.some.inj e; omega)⟩)
  have HRW : Hid (∀ w', Ex S (some g) w9 w' → w'.heap[w.heap.size]? = some (.cells #[.int .i64 0, .int .i64 0, .string ⟨#[]⟩, .int .i64 0, .int .i64 0, .int .i64 0, .int .i64 0, .int .i64 0, .slice none 0 0, .slice none 0 0, .string ⟨#[]⟩, .int .i64 0, .string ⟨#[]⟩] 27 (0, 0))) := Lib.hid (fun w' h => (h.block _ hSw (by intro e; have := Option.some.inj e; omega)).trans HB9.out)
  have HEW : Hid (∀ w', Ex S (some g) w9 w' → Ex w.heap.size (some g) w w') := Lib.hid (fun w' h => HE9.out.trans h (by omega) fun q e _ => e)
  have HG : Hid (∀ w', Ex S (some g) w9 w' → w9.heap.size ≤ w'.heap.size) := Lib.hid (fun w' h => h.size)
  clear HXA HX10 HSA HBa HB9 HB10 HE9 HEa HLO HQ10
  have hSz : S < w10.heap.size := by have := HS10.out; rcases Nat.lt_or_ge S w10.heap.size with h | h; · exact h
                                     · rw [Array.getElem?_eq_none h] at this; cases this
  by_cases hc : n10 < 0 ∨ 64 < n10
  · have HC := Lib.hid hc
    have hb : (decide ((0 : Int) ≤ n10) && decide (n10 ≤ 64)) = false := by
      rcases hc with h | h
      · rw [decide_eq_false (show ¬ (0 : Int) ≤ n10 by omega)]; rfl
      · rw [decide_eq_false (show ¬ n10 ≤ 64 by omega), Bool.and_false]
    have HBB := Lib.hid hb
    clear hb hc
    go_wp2_with (first
      | (go_at_call 57
         refine (listsIn_any _ _ _ _).mono ?_
         rw [HBB.out]
         rintro e w' ⟨rfl, rfl⟩)
      | (go_at_call 94
         refine (need_no _).mono ?_
         rintro e w' ⟨rfl, rfl⟩)
      | fail)
    exact ⟨rfl, .inr ⟨by unfold takeSt; rw [HHD.out]; simp only [Option.bind_some]; rw [if_pos HC.out], rfl, HE10.out⟩⟩
  · obtain ⟨j, rfl⟩ : ∃ j : Nat, n10 = (j : Int) := ⟨n10.toNat, by omega⟩
    have hj64 : j ≤ 64 := by omega
    have HTS : Hid (takeSt xs = tailS (⟨n1, n2, n3, n4, n5, n6, n7, n8, n9, [], ⟨#[]⟩, 0, ⟨#[]⟩⟩ : St) j r10) := Lib.hid (by unfold takeSt; rw [HHD.out]; simp only [Option.bind_some]; rw [if_neg hc]; rfl)
    have HBB : Hid ((decide ((0 : Int) ≤ (j : Int)) && decide ((j : Int) ≤ 64)) = true) := Lib.hid (by rw [decide_eq_true (show (0 : Int) ≤ (j : Int) by omega), decide_eq_true (show (j : Int) ≤ 64 by omega)]; rfl)
    clear hc
    go_wp2_with (first
      | (go_at_call 57
         refine (listsIn_any _ _ _ _).mono ?_
         rw [HBB.out]
         rintro e w' ⟨rfl, rfl⟩)
      | (go_at_call 94
         refine (need_yes _).mono ?_
         rintro e w' ⟨rfl, rfl⟩)
      | fail)
    go_wp2_with (fail)
    go_loopw [30] (fun i wr => ∃ (k : Nat) (acc : List PinD) (ro : Option Addr) (rc : Nat) (r : List UInt8), k ≤ j ∧ i = .int .i64 k ∧ Hid (takePs k r10 = some (acc, r)) ∧ Hid (acc.length = k) ∧ Hid (r.length ≤ 100000) ∧ Hid (RdP wr g r) ∧ Hid (OwnE pinE 3 92 wr (S + 1) ro rc acc) ∧ Hid (wr.heap[S]? = some (.cells #[.int .i64 n1, .int .i64 n2, .string n3, .int .i64 n4, .int .i64 n5, .int .i64 n6, .int .i64 n7, .int .i64 n8, .slice lo ln lc, .slice ro k rc, .string ⟨#[]⟩, .int .i64 0, .string ⟨#[]⟩] 27 (0, 0))) ∧ Hid (Ex S (some g) w9 wr)) (fun i _ => j - (intOf i).toNat)
    case atStart => exact ⟨0, [], none, 0, r10, by omega, rfl, Lib.hid rfl, Lib.hid rfl, HL10, H10, Lib.hid (OwnE.nil _ _ _ _ _), HS10, HY10⟩
    case round =>
      obtain ⟨k, acc, ro, rc, r, hk, rfl, HPK, HAK, HRL, HRD, HOW, HSR, HXR⟩ := hrel
      have hgS : g ≠ S := by omega
      have hSr : S < wr.heap.size := by
        have := HSR.out
        rcases Nat.lt_or_ge S wr.heap.size with h | h
        · exact h
        · rw [Array.getElem?_eq_none h] at this; cases this
      by_cases hlt : k < j
      · have hltI : (k : Int) < (j : Int) := by omega
        have HSC : Hid (∀ w', Ex wr.heap.size (some g) wr w' → w'.heap[S]? = some (.cells #[.int .i64 n1, .int .i64 n2, .string n3, .int .i64 n4, .int .i64 n5, .int .i64 n6, .int .i64 n7, .int .i64 n8, .slice lo ln lc, .slice ro k rc, .string ⟨#[]⟩, .int .i64 0, .string ⟨#[]⟩] 27 (0, 0))) := Lib.hid (fun w' h => (h.block S hSr (by intro e; have := Option.some.inj e; omega)).trans HSR.out)
        have HRDX : Hid (∀ w', Ex wr.heap.size none wr w' → RdP w' g r) := Lib.hid (fun w' h => HRD.out.keep fun b hb => h.block b hb (by simp))
        have HNO : Hid (takePs (k + 1) r10 = none → takeSt xs = none) := Lib.hid (fun h => by rw [HTS.out]; unfold tailS; rw [takePs_none h (by omega)]; rfl)
        have HEX : Hid (∀ w', Ex wr.heap.size (some g) wr w' → Ex w.heap.size (some g) w w') := Lib.hid (fun w' h => HEW.out _ (HXR.out.trans h (by omega) fun q e _ => e))
        have HSK : Hid (∀ w', Ex wr.heap.size (some g) wr w' → w'.cell? ⟨S, 9, none⟩ = some (.slice ro k rc) ∧ w'.frozen? ⟨S, 9, none⟩ = false) := Lib.hid (fun w' h => ⟨by rw [cell_of_row _ _ _ _ _ _ (HSC.out w' h)]; rfl, row_frz (HSC.out w' h) 9⟩)
        obtain ⟨d9, f9⟩ := HSK.out _ (Ex.refl _ _ _)
        go_upto_region 6 with (fail)
        go_region_law (first
          | (fail_if_success (first | have _x := HX1 | fail)
             refine step_callR rfl 138 #[.pointer (some ⟨g, 0, none⟩)] (by go_simp) (readInt_any g r _ (HRDX.out _ (by repeat (first | exact Ex.refl _ _ _ | refine Ex.drew ?_))) (by have := HRL.out; omega)) ?_
             rintro e wb1 (⟨m1, q1, hT, rfl, hrd, hex⟩ | ⟨hT, rfl, hex⟩)
             rotate_left
             · exact .inr ⟨_, rfl, rfl, .inr ⟨HNO.out (by simp only [takePs, HPK.out, takeP, hT]), rfl, HEX.out _ ((by repeat (first | exact Ex.refl _ _ _ | refine Ex.drew ?_) : Ex wr.heap.size (some g) wr _).trans hex (by first | omega | (simp; done) | (simp; omega)) fun q e _ => e)⟩⟩
             refine .inl ⟨_, rfl, ?_⟩
             have HT1b := Lib.hid hT
             have HRL1 : Hid (q1.length ≤ 100000) := Lib.hid (takeI_lenL hT HRL.out)
             have HX1 : Hid (Ex wr.heap.size (some g) wr wb1) := Lib.hid ((by repeat (first | exact Ex.refl _ _ _ | refine Ex.drew ?_) : Ex wr.heap.size (some g) wr _).trans hex (by first | omega | (simp; done) | (simp; omega)) fun q e _ => e)
             have hz1 : wr.heap.size ≤ wb1.heap.size := HX1.out.size
             have HR1 := Lib.hid hrd
             have HRD1 : Hid (∀ w', Ex wb1.heap.size none wb1 w' → RdP w' g q1) := Lib.hid (fun w' h => hrd.any.keep fun b hb => h.block b hb (by simp))
             obtain ⟨d9, f9⟩ := HSK.out _ HX1.out
             clear hrd hex hT)
          | (fail_if_success (first | have _x := HX2 | fail)
             refine step_callR rfl 138 #[.pointer (some ⟨g, 0, none⟩)] (by go_simp) (readInt_any g q1 _ (HRD1.out _ (by repeat (first | exact Ex.refl _ _ _ | refine Ex.drew ?_))) (by have := HRL1.out; omega)) ?_
             rintro e wb2 (⟨m2, q2, hT, rfl, hrd, hex⟩ | ⟨hT, rfl, hex⟩)
             rotate_left
             · exact .inr ⟨_, rfl, rfl, .inr ⟨HNO.out (by simp only [takePs, HPK.out, takeP, HT1b.out, hT]), rfl, HEX.out _ ((by repeat (first | exact HX1.out | refine Ex.drew ?_) : Ex wr.heap.size (some g) wr _).trans hex (by first | omega | (simp; done) | (simp; omega)) fun q e _ => e)⟩⟩
             refine .inl ⟨_, rfl, ?_⟩
             have HT2b := Lib.hid hT
             have HRL2 : Hid (q2.length ≤ 100000) := Lib.hid (takeI_lenL hT HRL1.out)
             have HX2 : Hid (Ex wr.heap.size (some g) wr wb2) := Lib.hid ((by repeat (first | exact HX1.out | refine Ex.drew ?_) : Ex wr.heap.size (some g) wr _).trans hex (by first | omega | (simp; done) | (simp; omega)) fun q e _ => e)
             have hz2 : wr.heap.size ≤ wb2.heap.size := HX2.out.size
             have HR2 := Lib.hid hrd
             have HRD2 : Hid (∀ w', Ex wb2.heap.size none wb2 w' → RdP w' g q2) := Lib.hid (fun w' h => hrd.any.keep fun b hb => h.block b hb (by simp))
             obtain ⟨d9, f9⟩ := HSK.out _ HX2.out
             clear hrd hex hT)
          | (fail_if_success (first | have _x := HX3 | fail)
             refine step_callR rfl 139 #[.pointer (some ⟨g, 0, none⟩), .int .i64 32] (by go_simp) (readText_any g q2 32 _ (HRD2.out _ (by repeat (first | exact Ex.refl _ _ _ | refine Ex.drew ?_))) (by have := HRL2.out; omega)) ?_
             rintro e wb3 (⟨m3, q3, hT, rfl, hrd, hex⟩ | ⟨hT, rfl, hex⟩)
             rotate_left
             · exact .inr ⟨_, rfl, rfl, .inr ⟨HNO.out (by simp only [takePs, HPK.out, takeP, HT1b.out, HT2b.out, hT]), rfl, HEX.out _ ((by repeat (first | exact HX2.out | refine Ex.drew ?_) : Ex wr.heap.size (some g) wr _).trans hex (by first | omega | (simp; done) | (simp; omega)) fun q e _ => e)⟩⟩
             refine .inl ⟨_, rfl, ?_⟩
             have HT3b := Lib.hid hT
             have HRL3 : Hid (q3.length ≤ 100000) := Lib.hid (takeT_lenL hT HRL2.out)
             have HX3 : Hid (Ex wr.heap.size (some g) wr wb3) := Lib.hid ((by repeat (first | exact HX2.out | refine Ex.drew ?_) : Ex wr.heap.size (some g) wr _).trans hex (by first | omega | (simp; done) | (simp; omega)) fun q e _ => e)
             have hz3 : wr.heap.size ≤ wb3.heap.size := HX3.out.size
             have HR3 := Lib.hid hrd
             have HRD3 : Hid (∀ w', Ex wb3.heap.size none wb3 w' → RdP w' g q3) := Lib.hid (fun w' h => hrd.any.keep fun b hb => h.block b hb (by simp))
             obtain ⟨d9, f9⟩ := HSK.out _ HX3.out
             have d9n : ∀ o, (wb3.alloc o).cell? ⟨S, 9, none⟩ = some (.slice ro k rc) := fun o => (HSK.out _ (HX3.out.alloc (by omega) o)).1
             clear hrd hex hT)
          | (refine step_appE rfl (.tmp 33) (.tmp 41) _ 92 (by rfl) Tryz.underlying23 (.agg #[.int .i64 0, .int .i64 0, .string ⟨#[]⟩]) 3 32 Tryz.infoPin rfl (by decide) (by decide) pinE pinE_len one_pinE (S + 1) ro rc k acc HAK.out (by rfl) (some ⟨wb3.heap.size, 0, none⟩) 1 1 (by rfl) [(m1, m2, m3)] rfl (((HOW.out.keep HX3.out (Nat.le_refl _) (by intro q e; have := Option.some.inj e; omega)).keep (Ex.new wb3 _) (Nat.le_refl _) (by simp))) (lit_cells (by rfl)) (by omega) (by simp; omega) (k + 1) rfl ?_
             intro ro2 rc2 w6 hown6 hex6 hk6 hro6
             have HO6 := Lib.hid hown6
             have HA6 : Hid (∀ b, b < wb3.heap.size → b ≤ S ∨ wr.heap.size ≤ b → w6.heap[b]? = wb3.heap[b]?) := Lib.hid (fun b hb hc => by
               have hn : rowOf ro ≠ some b := fun e => by
                 cases ro with
                 | none => cases e
                 | some ad =>
                   have h1 := HOW.out.lt ad rfl
                   have h2 : ad.block = b := Option.some.inj e
                   omega
               exact (hk6 b (by rw [World.size_alloc]; omega) hn).trans ((Ex.new wb3 _).block b hb (by simp)))
             have HS6 : Hid (w6.heap[S]? = some (.cells #[.int .i64 n1, .int .i64 n2, .string n3, .int .i64 n4, .int .i64 n5, .int .i64 n6, .int .i64 n7, .int .i64 n8, .slice lo ln lc, .slice ro k rc, .string ⟨#[]⟩, .int .i64 0, .string ⟨#[]⟩] 27 (0, 0))) := Lib.hid ((HA6.out S (by omega) (.inl (Nat.le_refl _))).trans (HSC.out wb3 HX3.out))
             have HX6 : Hid (Ex S (some g) w9 w6) := Lib.hid ((HXR.out.trans HX3.out (by omega) fun q e _ => e).trans ((((Ex.new wb3 _).mono (by omega)).trans hex6 (Nat.le_refl _) (by simp)).mono (by omega) |>.weaken (some g)) (Nat.le_refl _) fun q e _ => e)
             have HRQ6 := Lib.hid (HR3.out.keep (w' := w6) fun b hb hlt => by
               rcases hb with rfl | hb
               · exact HA6.out _ hlt (.inl (by omega))
               · exact HA6.out _ hlt (.inr (by omega)))
             clear d9 f9 d9n
             have d9 : w6.cell? ⟨S, 9, none⟩ = some (.slice ro k rc) := by rw [cell_of_row _ _ _ _ _ _ HS6.out]; rfl
             have f9 := row_frz HS6.out 9
             clear hown6 hex6 hk6 hro6)
          | fail)
        all_goals
          go_wp2
          go_roundw
          case rel => exact ⟨k + 1, acc ++ [(m1, m2, m3)], ro2, rc2, q3, by omega, by go_num, Lib.hid (by simp only [takePs, HPK.out, takeP, HT1b.out, HT2b.out, HT3b.out]), Lib.hid (by rw [List.length_append, HAK.out]; rfl), HRL3, Lib.hid (HRQ6.out.keep fun b hb hlt => ((Ex.refl w6.heap.size (some S) w6).setCell 9 none _ (.inl rfl)).block b hlt (by intro e; have := Option.some.inj e; rcases hb with hb | hb <;> omega)).any, Lib.hid (HO6.out.keep ((Ex.refl w6.heap.size (some S) w6).setCell 9 none _ (.inl rfl)) (Nat.le_refl _) (by intro q e; have := Option.some.inj e; omega)), Lib.hid (by rw [row_set HS6.out]; rfl), Lib.hid (HX6.out.setCell 9 none _ (.inr (Nat.le_refl _)))⟩
          case measure => simp [intOf] <;> omega
      · have HKJ : Hid (k = j) := Lib.hid (by omega)
        have h9 : ¬ (k : Int) < (j : Int) := by omega
        have hd9 : decide (k < j) = false := decide_eq_false hlt
        have HSRr := HSR
        go_upto_region 9 with (first
          | (go_at_call 139
             refine (readText_any g r 4096 wr HRD.out (by have := HRL.out; omega)).mono ?_
             rintro e w12 (⟨n12, r12, hT, rfl, hrd, hex⟩ | ⟨hT, rfl, hex⟩)
             rotate_left
             · exact ⟨rfl, .inr ⟨by rw [HTS.out]; simp only [tailS, ← HKJ.out, HPK.out, hT, Option.bind_some, Option.bind_none], rfl, HEW.out _ (HXR.out.trans hex (by omega) fun q e _ => e)⟩⟩
             have HT12 := Lib.hid hT
             have HQ12 := Lib.hid hrd
             have H12 := Lib.hid hrd.any
             have HL12 : Hid (r12.length ≤ 100000) := Lib.hid (takeT_lenL hT HRL.out)
             have HX12 : Hid (Ex S (some g) w9 w12) := Lib.hid (HXR.out.trans hex (by omega) fun q e _ => e)
             have HV12 : Hid (Ex wr.heap.size (some g) wr w12) := Lib.hid hex
             have hzz12 : wr.heap.size ≤ w12.heap.size := hex.size
             have HSR12 : Hid (w12.heap[S]? = some (.cells #[.int .i64 n1, .int .i64 n2, .string n3, .int .i64 n4, .int .i64 n5, .int .i64 n6, .int .i64 n7, .int .i64 n8, .slice lo ln lc, .slice ro k rc, .string ⟨#[]⟩, .int .i64 0, .string ⟨#[]⟩] 27 (0, 0))) := Lib.hid ((hex.block S hSr (by intro e; have := Option.some.inj e; omega)).trans HSR.out)
             have HO12 := Lib.hid (HOW.out.keep hex (Nat.le_refl _) (by intro q e; have := Option.some.inj e; omega))
             have hsr := HSR12.out
             have e10 : w12.cell? ⟨S, 10, none⟩ = some (.string ⟨#[]⟩) := by rw [cell_of_row _ _ _ _ _ _ hsr]; rfl
             have e11 : w12.cell? ⟨S, 11, none⟩ = some (.int .i64 0) := by rw [cell_of_row _ _ _ _ _ _ hsr]; rfl
             have e12 : w12.cell? ⟨S, 12, none⟩ = some (.string ⟨#[]⟩) := by rw [cell_of_row _ _ _ _ _ _ hsr]; rfl
             have f10 := row_frz hsr 10
             have f11 := row_frz hsr 11
             have f12 := row_frz hsr 12
             clear hsr
             clear hT hrd hex)
          | fail)
        obtain ⟨w13, hw13⟩ : ∃ w13, w13 = w12.setCell ⟨S, 10, none⟩ (.string n12) := ⟨_, rfl⟩
        have hx13 : Ex w12.heap.size (some S) w12 w13 := by rw [hw13]; exact (Ex.refl _ _ _).setCell 10 none _ (.inl rfl)
        have hz13 : w12.heap.size ≤ w13.heap.size := hx13.size
        have HSR13 : Hid (w13.heap[S]? = some (.cells #[.int .i64 n1, .int .i64 n2, .string n3, .int .i64 n4, .int .i64 n5, .int .i64 n6, .int .i64 n7, .int .i64 n8, .slice lo ln lc, .slice ro k rc, .string n12, .int .i64 0, .string ⟨#[]⟩] 27 (0, 0))) := Lib.hid (by rw [hw13, row_set HSR12.out]; rfl)
        have H13 : Hid (RdP w13 g r12) := Lib.hid (HQ12.out.keep fun b hb hlt => hx13.block b hlt (by intro e; have := Option.some.inj e; rcases hb with hb | hb <;> omega)).any
        have HX13 : Hid (Ex S (some g) w9 w13) := Lib.hid (by rw [hw13]; exact HX12.out.setCell 10 none _ (.inr (Nat.le_refl _)))
        have HO13 := Lib.hid (HO12.out.keep hx13 (Nat.le_refl _) (by intro q e; have := Option.some.inj e; omega))
        have hSr13 : S < w13.heap.size := by omega
        rw [← hw13]
        clear hw13 hx13 e10 e11 e12 f10 f11 f12
        go_upto_region 10 with (first
          | (go_at_call 138
             refine (readInt_any g r12 w13 H13.out (by have := HL12.out; omega)).mono ?_
             rintro e w14 (⟨n14, r14, hT, rfl, hrd, hex⟩ | ⟨hT, rfl, hex⟩)
             rotate_left
             · exact ⟨rfl, .inr ⟨by rw [HTS.out]; simp only [tailS, ← HKJ.out, HPK.out, HT12.out, hT, Option.bind_some, Option.bind_none], rfl, HEW.out _ (HX13.out.trans hex (by omega) fun q e _ => e)⟩⟩
             have HT14 := Lib.hid hT
             have HQ14 := Lib.hid hrd
             have H14 := Lib.hid hrd.any
             have HL14 : Hid (r14.length ≤ 100000) := Lib.hid (takeI_lenL hT HL12.out)
             have HX14 : Hid (Ex S (some g) w9 w14) := Lib.hid (HX13.out.trans hex (by omega) fun q e _ => e)
             have HV14 : Hid (Ex w13.heap.size (some g) w13 w14) := Lib.hid hex
             have hzz14 : w13.heap.size ≤ w14.heap.size := hex.size
             have HSR14 : Hid (w14.heap[S]? = some (.cells #[.int .i64 n1, .int .i64 n2, .string n3, .int .i64 n4, .int .i64 n5, .int .i64 n6, .int .i64 n7, .int .i64 n8, .slice lo ln lc, .slice ro k rc, .string n12, .int .i64 0, .string ⟨#[]⟩] 27 (0, 0))) := Lib.hid ((hex.block S hSr13 (by intro e; have := Option.some.inj e; omega)).trans HSR13.out)
             have HO14 := Lib.hid (HO13.out.keep hex (Nat.le_refl _) (by intro q e; have := Option.some.inj e; omega))
             clear hT hrd hex)
          | (go_at_call 139
             refine (readText_any g r14 32 w14 H14.out (by have := HL14.out; omega)).mono ?_
             rintro e w15 (⟨n15, r15, hT, rfl, hrd, hex⟩ | ⟨hT, rfl, hex⟩)
             rotate_left
             · exact ⟨rfl, .inr ⟨by rw [HTS.out]; simp only [tailS, ← HKJ.out, HPK.out, HT12.out, HT14.out, hT, Option.bind_some, Option.map_none], rfl, HEW.out _ (HX14.out.trans hex (by omega) fun q e _ => e)⟩⟩
             have HT15 := Lib.hid hT
             have HQ15 := Lib.hid hrd
             have H15 := Lib.hid hrd.any
             have HL15 : Hid (r15.length ≤ 100000) := Lib.hid (takeT_lenL hT HL14.out)
             have HX15 : Hid (Ex S (some g) w9 w15) := Lib.hid (HX14.out.trans hex (by omega) fun q e _ => e)
             have HV15 : Hid (Ex w14.heap.size (some g) w14 w15) := Lib.hid hex
             have hzz15 : w14.heap.size ≤ w15.heap.size := hex.size
             have HSR15 : Hid (w15.heap[S]? = some (.cells #[.int .i64 n1, .int .i64 n2, .string n3, .int .i64 n4, .int .i64 n5, .int .i64 n6, .int .i64 n7, .int .i64 n8, .slice lo ln lc, .slice ro k rc, .string n12, .int .i64 0, .string ⟨#[]⟩] 27 (0, 0))) := Lib.hid ((hex.block S (by omega) (by intro e; have := Option.some.inj e; omega)).trans HSR14.out)
             have HO15 := Lib.hid (HO14.out.keep hex (Nat.le_refl _) (by intro q e; have := Option.some.inj e; omega))
             have hsr := HSR15.out
             have e10 : w15.cell? ⟨S, 10, none⟩ = some (.string n12) := by rw [cell_of_row _ _ _ _ _ _ hsr]; rfl
             have e11 : w15.cell? ⟨S, 11, none⟩ = some (.int .i64 0) := by rw [cell_of_row _ _ _ _ _ _ hsr]; rfl
             have e12 : w15.cell? ⟨S, 12, none⟩ = some (.string ⟨#[]⟩) := by rw [cell_of_row _ _ _ _ _ _ hsr]; rfl
             have f10 := row_frz hsr 10
             have f11 := row_frz hsr 11
             have f12 := row_frz hsr 12
             clear hsr
             clear hT hrd hex)
          | fail)
        obtain ⟨w16, hw16⟩ : ∃ w16, w16 = (w15.setCell ⟨S, 11, none⟩ (.int .i64 n14)).setCell ⟨S, 12, none⟩ (.string n15) := ⟨_, rfl⟩
        have hx16 : Ex w15.heap.size (some S) w15 w16 := by rw [hw16]; exact ((Ex.refl _ _ _).setCell 11 none _ (.inl rfl)).setCell 12 none _ (.inl rfl)
        have hz16 : w15.heap.size ≤ w16.heap.size := hx16.size
        have HSR16 : Hid (w16.heap[S]? = some (.cells #[.int .i64 n1, .int .i64 n2, .string n3, .int .i64 n4, .int .i64 n5, .int .i64 n6, .int .i64 n7, .int .i64 n8, .slice lo ln lc, .slice ro k rc, .string n12, .int .i64 n14, .string n15] 27 (0, 0))) := Lib.hid (by rw [hw16, row_set (row_set HSR15.out)]; rfl)
        have H16 := Lib.hid (HQ15.out.keep (w' := w16) fun b hb hlt => hx16.block b hlt (by intro e; have := Option.some.inj e; rcases hb with hb | hb <;> omega))
        have HX16 : Hid (Ex S (some g) w9 w16) := Lib.hid (by rw [hw16]; exact (HX15.out.setCell 11 none _ (.inr (Nat.le_refl _))).setCell 12 none _ (.inr (Nat.le_refl _)))
        have HO16 := Lib.hid (HO15.out.keep hx16 (Nat.le_refl _) (by intro q e; have := Option.some.inj e; omega))
        rw [← hw16]
        clear hw16 hx16 e10 e11 e12 f10 f11 f12
        have hld := run_rowLoad (P := Tryz.prog) w16 S 27 27 #[.int .i64 n1, .int .i64 n2, .string n3, .int .i64 n4, .int .i64 n5, .int .i64 n6, .int .i64 n7, .int .i64 n8, .slice lo ln lc, .slice ro k rc, .string n12, .int .i64 n14, .string n15] (0, 0) _ HSR16.out Tryz.underlying27 rfl Tryz.sizeStm
        have hst := run_rowStore (P := Tryz.prog) w16 w.heap.size 27 27 #[.int .i64 0, .int .i64 0, .string ⟨#[]⟩, .int .i64 0, .int .i64 0, .int .i64 0, .int .i64 0, .int .i64 0, .slice none 0 0, .slice none 0 0, .string ⟨#[]⟩, .int .i64 0, .string ⟨#[]⟩] #[.int .i64 n1, .int .i64 n2, .string n3, .int .i64 n4, .int .i64 n5, .int .i64 n6, .int .i64 n7, .int .i64 n8, .slice lo ln lc, .slice ro k rc, .string n12, .int .i64 n14, .string n15] (HRW.out _ HX16.out) Tryz.sizeStm rfl (by simp [Value.oneCell'])
        obtain ⟨w17, hw17⟩ : ∃ w17, w17 = w16.setRow w.heap.size #[.int .i64 n1, .int .i64 n2, .string n3, .int .i64 n4, .int .i64 n5, .int .i64 n6, .int .i64 n7, .int .i64 n8, .slice lo ln lc, .slice ro k rc, .string n12, .int .i64 n14, .string n15] := ⟨_, rfl⟩
        rw [← hw17] at hst
        have HRB : Hid (w17.heap[w.heap.size]? = some (.cells #[.int .i64 n1, .int .i64 n2, .string n3, .int .i64 n4, .int .i64 n5, .int .i64 n6, .int .i64 n7, .int .i64 n8, .slice lo ln lc, .slice ro k rc, .string n12, .int .i64 n14, .string n15] 27 (0, 0))) := Lib.hid (by rw [hw17]; exact setRow_heap _ _ _ _ _ _ (HRW.out _ HX16.out))
        have HX17 : Hid (Ex w16.heap.size (some w.heap.size) w16 w17) := Lib.hid (by rw [hw17]; exact (Ex.refl _ _ _).setRow _ _ (.inl rfl))
        have HE17 : Hid (Ex w.heap.size (some g) w w17) := Lib.hid (by rw [hw17]; exact (HEW.out _ HX16.out).setRow _ _ (.inr (Nat.le_refl _)))
        clear hw17
        go_wp2_with (fail)
        clear hld hst
        refine bodyPost_ret (v := .agg #[.int .i64 n1, .int .i64 n2, .string n3, .int .i64 n4, .int .i64 n5, .int .i64 n6, .int .i64 n7, .int .i64 n8, .slice lo ln lc, .slice ro k rc, .string n12, .int .i64 n14, .string n15]) ?_ rfl ?_
        · exact results_cell_row Tryz.results93 _ _ w.heap.size 27 #[.int .i64 n1, .int .i64 n2, .string n3, .int .i64 n4, .int .i64 n5, .int .i64 n6, .int .i64 n7, .int .i64 n8, .slice lo ln lc, .slice ro k rc, .string n12, .int .i64 n14, .string n15] (0, 0) _ (by rfl) HRB.out Tryz.underlying27 rfl Tryz.sizeStm
        have hzw : S < w16.heap.size := by omega
        refine .inl ⟨⟨n1, n2, n3, n4, n5, n6, n7, n8, n9, acc, n12, n14, n15⟩, lo, ln, lc, ro, k, rc, r15, by rw [HTS.out]; simp only [tailS, ← HKJ.out, HPK.out, HT12.out, HT14.out, HT15.out, Option.bind_some, Option.map_some], rfl, ⟨?_, ?_⟩, ?_, HE17.out⟩
        · exact ((HLW.out _ HX16.out).keep (by decide) fun b hb hlt => HX17.out.block b hlt (by intro e; have := Option.some.inj e; omega)).mono (by decide) fun b hb _ => by omega
        · have h := own_val_sl (hk := pinE_len) (h1 := one_pinE) (HO16.out.keep HX17.out (Nat.le_refl _) (by intro q e; have := Option.some.inj e; omega))
          rw [HAK.out] at h
          exact h.mono (by decide) fun b hb _ => by omega
        · exact (H16.out.keep fun b hb hlt => HX17.out.block b hlt (by intro e; have := Option.some.inj e; rcases hb with hb | hb <;> omega)).any
end Go.Proofs.YtoeklgbajggndaaGreat

namespace Go.Proofs.YtoeklgbajggndaaGreat
open Go.RowKit Go.Sort
attribute [local go_sem ↓] rowStore_st rowLoad_st

theorem Tryz.assertBr (xt : TypeId) (w : World) : (Instr.typeAssert (.iface 118 (.agg #[])) xt 118 true).run Tryz.prog w = .ok (.tuple #[.agg #[], .bool true]) w := by kernel_rfl
theorem Tryz.assertNil (xt : TypeId) (w : World) : (Instr.typeAssert .nilIface xt 118 true).run Tryz.prog w = .ok (.tuple #[.agg #[], .bool false]) w := by kernel_rfl
set_option maxHeartbeats 4000000 in
set_option maxRecDepth 100000 in
theorem catchDec (rb eb : Nat) (cs0 : Array Value) (n0 : Int) (older : List PanicEntry) (w : World) (hr : w.heap[rb]? = some (.cells cs0 27 (0, 0))) (hs : cs0.size = 13) (he : w.heap[eb]? = some (.cells #[.int .i64 n0] 38 (0, 0))) (hne : rb ≠ eb) :
    CallsD Tryz.prog 92 #[.pointer (some ⟨rb, 0, none⟩), .pointer (some ⟨eb, 0, none⟩)] (.panicking ({ v := .iface 118 (.agg #[]), recovered := false } :: older)) w fun e u' w' =>
      e = .returned (.tuple #[]) ∧ u' = .panicking ({ v := .iface 118 (.agg #[]), recovered := true } :: older) ∧ w'.heap[rb]? = some (.cells #[.int .i64 0, .int .i64 0, .string ⟨#[]⟩, .int .i64 0, .int .i64 0, .int .i64 0, .int .i64 0, .int .i64 0, .slice none 0 0, .slice none 0 0, .string ⟨#[]⟩, .int .i64 0, .string ⟨#[]⟩] 27 (0, 0)) ∧ w'.heap[eb]? = some (.cells #[.int .i64 1] 38 (0, 0)) ∧ (∀ B, B ≤ rb → B ≤ eb → B ≤ w.heap.size → Ex B none w w') := by
  refine callsD_of_wpS Tryz.func92 rfl fun c₀ cs hu => ?_
  apply wpS_seq
  apply wpS_region
  simp [wpOpsS, go_sem, recoverD, hu, Tryz.ntmps92, Exit.thenS]
  refine wpS_of_wp ?_
  have e : (#[Value.pointer (some ⟨rb, 0, none⟩), Value.pointer (some ⟨eb, 0, none⟩)] ++ ((Array.replicate 14 undef).setIfInBounds 3 (Value.iface 118 (Value.agg #[]))).setIfInBounds 0 (Value.iface 118 (Value.agg #[]))) = #[.pointer (some ⟨rb, 0, none⟩), .pointer (some ⟨eb, 0, none⟩), .iface 118 (.agg #[]), undef, undef, .iface 118 (.agg #[]), undef, undef, undef, undef, undef, undef, undef, undef, undef, undef] := rfl
  rw [e]
  clear e
  have hrl : rb < w.heap.size := (Array.getElem?_eq_some_iff.1 hr).1
  have hel : eb < w.heap.size := (Array.getElem?_eq_some_iff.1 he).1
  have ha := fun xt => Tryz.assertBr xt w
  obtain ⟨w1, hw1⟩ : ∃ w1, w1 = w.alloc (.cells #[] 118) := ⟨_, rfl⟩
  have hx1 : Ex w.heap.size none w w1 := by rw [hw1]; exact Ex.new w _
  have hr1 : w1.heap[rb]? = some (.cells cs0 27 (0, 0)) := (hx1.block rb hrl (by simp)).trans hr
  have he1 : w1.heap[eb]? = some (.cells #[.int .i64 n0] 38 (0, 0)) := (hx1.block eb hel (by simp)).trans he
  have hst := run_rowStore (P := Tryz.prog) w1 rb 27 27 cs0 #[.int .i64 0, .int .i64 0, .string ⟨#[]⟩, .int .i64 0, .int .i64 0, .int .i64 0, .int .i64 0, .int .i64 0, .slice none 0 0, .slice none 0 0, .string ⟨#[]⟩, .int .i64 0, .string ⟨#[]⟩] hr1 Tryz.sizeStm hs (by simp [Value.oneCell'])
  obtain ⟨w2, hw2⟩ : ∃ w2, w2 = w1.setRow rb #[.int .i64 0, .int .i64 0, .string ⟨#[]⟩, .int .i64 0, .int .i64 0, .int .i64 0, .int .i64 0, .int .i64 0, .slice none 0 0, .slice none 0 0, .string ⟨#[]⟩, .int .i64 0, .string ⟨#[]⟩] := ⟨_, rfl⟩
  rw [← hw2] at hst
  have hr2 : w2.heap[rb]? = some (.cells #[.int .i64 0, .int .i64 0, .string ⟨#[]⟩, .int .i64 0, .int .i64 0, .int .i64 0, .int .i64 0, .int .i64 0, .slice none 0 0, .slice none 0 0, .string ⟨#[]⟩, .int .i64 0, .string ⟨#[]⟩] 27 (0, 0)) := by rw [hw2]; exact setRow_heap _ _ _ _ _ _ hr1
  have hx2 : Ex w1.heap.size (some rb) w1 w2 := by rw [hw2]; exact (Ex.refl _ _ _).setRow _ _ (.inl rfl)
  have he2 : w2.heap[eb]? = some (.cells #[.int .i64 n0] 38 (0, 0)) := (hx2.block eb (by have := hx1.size; omega) (by intro e; have := Option.some.inj e; omega)).trans he1
  obtain ⟨d0, f0⟩ := row1_cell he2
  have HR2 := Lib.hid hr2
  have HE2 := Lib.hid he2
  have HW : Hid (∀ B, B ≤ rb → B ≤ eb → B ≤ w.heap.size → Ex B none w w2) := Lib.hid (fun B h1 h2 h3 => by rw [hw2]; exact (hx1.mono h3).setRow _ _ (.inr h1))
  clear hr2 he2 hx1 hx2 hr1 he1 hw2 hr he
  go_upto_region 3 with (fail)
  rw [← hw1]
  clear hw1
  go_wp2
  refine ⟨rfl, _, rfl, .tuple #[], by simp [results, Tryz.results92], rfl, rfl, ?_, row1_set HE2.out, fun B h1 h2 h3 => (HW.out B h1 h2 h3).setCell 0 none _ (.inr h2)⟩
  exact (((Ex.refl w2.heap.size (some eb) w2).setCell 0 none (.int .i64 1) (.inl rfl)).block rb (Array.getElem?_eq_some_iff.1 HR2.out).1 (by intro e; have := Option.some.inj e; omega)).trans HR2.out

set_option maxHeartbeats 4000000 in
set_option maxRecDepth 100000 in
theorem idleDec (rb eb : Nat) (w : World) :
    CallsD Tryz.prog 92 #[.pointer (some ⟨rb, 0, none⟩), .pointer (some ⟨eb, 0, none⟩)] .returning w fun e u' w' => e = .returned (.tuple #[]) ∧ u' = .returning ∧ Ex w.heap.size none w w' := by
  refine callsD_of_wpS Tryz.func92 rfl fun c₀ cs hu => ?_
  apply wpS_seq
  apply wpS_region
  simp [wpOpsS, go_sem, recoverD, hu, Tryz.ntmps92, Exit.thenS]
  refine wpS_of_wp ?_
  have e : (#[Value.pointer (some ⟨rb, 0, none⟩), Value.pointer (some ⟨eb, 0, none⟩)] ++ ((Array.replicate 14 undef).setIfInBounds 3 Value.nilIface).setIfInBounds 0 Value.nilIface) = #[.pointer (some ⟨rb, 0, none⟩), .pointer (some ⟨eb, 0, none⟩), .nilIface, undef, undef, .nilIface, undef, undef, undef, undef, undef, undef, undef, undef, undef, undef] := rfl
  rw [e]
  clear e
  have ha := fun xt => Tryz.assertNil xt w
  go_wp2
  refine ⟨rfl, .returning, ?_, .tuple #[], by simp [results, Tryz.results92], rfl, rfl, ?_⟩
  · cases c₀; simp only at hu; rw [hu]
  · exact Ex.new w _
end Go.Proofs.YtoeklgbajggndaaGreat

namespace Go.Proofs.YtoeklgbajggndaaGreat
open Go.RowKit Go.Sort

theorem bind_len {α : Type} {st : Option (List UInt8)} {f : List UInt8 → Option (α × List UInt8)} (h : ∀ b n r, f b = some (n, r) → r.length ≤ b.length) : (((st.bind f).map (·.2)).getD []).length ≤ (st.getD []).length := by
  cases st with
  | none => simp
  | some b =>
    cases hf : f b with
    | none => simp [hf]
    | some q => have := h b q.1 q.2 hf; simpa [hf] using this
theorem lenI (b : List UInt8) (n : Int) (r : List UInt8) (h : takeI b = some (n, r)) : r.length ≤ b.length := by have := takeI_len h; omega
theorem lenT (m : Int) (b : List UInt8) (n : ByteArray) (r : List UInt8) (h : takeT b m = some (n, r)) : r.length ≤ b.length := by
  have := congrArg List.length (takeT_back h)
  simp only [List.length_append] at this
  omega
theorem headS_none {xs : List UInt8} {st1 : Option (List UInt8)} {st2 : Option (List UInt8)} {st3 : Option (List UInt8)} {st4 : Option (List UInt8)} {st5 : Option (List UInt8)} {st6 : Option (List UInt8)} {st7 : Option (List UInt8)} {st8 : Option (List UInt8)} (t1 : st1 = ((some xs).bind fun xs => takeI xs).map (·.2)) (t2 : st2 = (st1.bind fun xs => takeI xs).map (·.2)) (t3 : st3 = (st2.bind fun xs => takeT xs 32).map (·.2)) (t4 : st4 = (st3.bind fun xs => takeI xs).map (·.2)) (t5 : st5 = (st4.bind fun xs => takeI xs).map (·.2)) (t6 : st6 = (st5.bind fun xs => takeI xs).map (·.2)) (t7 : st7 = (st6.bind fun xs => takeI xs).map (·.2)) (t8 : st8 = (st7.bind fun xs => takeI xs).map (·.2)) (h : st8 = none) : headS xs = none := by
  unfold headS
  cases h1 : takeI xs with
  | none => rfl
  | some q1 =>
    simp only [Option.bind_some]
    cases h2 : takeI q1.2 with
    | none => rfl
    | some q2 =>
      simp only [Option.bind_some]
      cases h3 : takeT q2.2 32 with
      | none => rfl
      | some q3 =>
        simp only [Option.bind_some]
        cases h4 : takeI q3.2 with
        | none => rfl
        | some q4 =>
          simp only [Option.bind_some]
          cases h5 : takeI q4.2 with
          | none => rfl
          | some q5 =>
            simp only [Option.bind_some]
            cases h6 : takeI q5.2 with
            | none => rfl
            | some q6 =>
              simp only [Option.bind_some]
              cases h7 : takeI q6.2 with
              | none => rfl
              | some q7 =>
                simp only [Option.bind_some]
                cases h8 : takeI q7.2 with
                | none => rfl
                | some q8 =>
                  simp only [Option.bind_some]
                  exfalso
                  simp [t8, t7, t6, t5, t4, t3, t2, t1, h1, h2, h3, h4, h5, h6, h7, h8] at h
theorem headS_some {xs r8 : List UInt8} {st1 : Option (List UInt8)} {st2 : Option (List UInt8)} {st3 : Option (List UInt8)} {st4 : Option (List UInt8)} {st5 : Option (List UInt8)} {st6 : Option (List UInt8)} {st7 : Option (List UInt8)} {st8 : Option (List UInt8)} {n1 : Int} {n2 : Int} {n3 : ByteArray} {n4 : Int} {n5 : Int} {n6 : Int} {n7 : Int} {n8 : Int} (t1 : st1 = ((some xs).bind fun xs => takeI xs).map (·.2)) (t2 : st2 = (st1.bind fun xs => takeI xs).map (·.2)) (t3 : st3 = (st2.bind fun xs => takeT xs 32).map (·.2)) (t4 : st4 = (st3.bind fun xs => takeI xs).map (·.2)) (t5 : st5 = (st4.bind fun xs => takeI xs).map (·.2)) (t6 : st6 = (st5.bind fun xs => takeI xs).map (·.2)) (t7 : st7 = (st6.bind fun xs => takeI xs).map (·.2)) (t8 : st8 = (st7.bind fun xs => takeI xs).map (·.2)) (m1 : n1 = (((some xs).bind fun xs => takeI xs).map (·.1)).getD 0) (m2 : n2 = ((st1.bind fun xs => takeI xs).map (·.1)).getD 0) (m3 : n3 = ((st2.bind fun xs => takeT xs 32).map (·.1)).getD ⟨#[]⟩) (m4 : n4 = ((st3.bind fun xs => takeI xs).map (·.1)).getD 0) (m5 : n5 = ((st4.bind fun xs => takeI xs).map (·.1)).getD 0) (m6 : n6 = ((st5.bind fun xs => takeI xs).map (·.1)).getD 0) (m7 : n7 = ((st6.bind fun xs => takeI xs).map (·.1)).getD 0) (m8 : n8 = ((st7.bind fun xs => takeI xs).map (·.1)).getD 0) (h : st8 = some r8) : headS xs = (takeL r8 64).bind fun q9 => (takeI q9.2).map fun q10 => ({ author := n1, number := n2, prev := n3, time := n4, kind := n5, a := n6, b := n7, c := n8, list := q9.1, pins := [], body := ⟨#[]⟩, key := 0, dig := ⟨#[]⟩ }, q10.1, q10.2) := by
  unfold headS
  cases h1 : takeI xs with
  | none => exfalso; simp [t8, t7, t6, t5, t4, t3, t2, t1, h1] at h
  | some q1 =>
    simp only [Option.bind_some]
    cases h2 : takeI q1.2 with
    | none => exfalso; simp [t8, t7, t6, t5, t4, t3, t2, t1, h1, h2] at h
    | some q2 =>
      simp only [Option.bind_some]
      cases h3 : takeT q2.2 32 with
      | none => exfalso; simp [t8, t7, t6, t5, t4, t3, t2, t1, h1, h2, h3] at h
      | some q3 =>
        simp only [Option.bind_some]
        cases h4 : takeI q3.2 with
        | none => exfalso; simp [t8, t7, t6, t5, t4, t3, t2, t1, h1, h2, h3, h4] at h
        | some q4 =>
          simp only [Option.bind_some]
          cases h5 : takeI q4.2 with
          | none => exfalso; simp [t8, t7, t6, t5, t4, t3, t2, t1, h1, h2, h3, h4, h5] at h
          | some q5 =>
            simp only [Option.bind_some]
            cases h6 : takeI q5.2 with
            | none => exfalso; simp [t8, t7, t6, t5, t4, t3, t2, t1, h1, h2, h3, h4, h5, h6] at h
            | some q6 =>
              simp only [Option.bind_some]
              cases h7 : takeI q6.2 with
              | none => exfalso; simp [t8, t7, t6, t5, t4, t3, t2, t1, h1, h2, h3, h4, h5, h6, h7] at h
              | some q7 =>
                simp only [Option.bind_some]
                cases h8 : takeI q7.2 with
                | none => exfalso; simp [t8, t7, t6, t5, t4, t3, t2, t1, h1, h2, h3, h4, h5, h6, h7, h8] at h
                | some q8 =>
                  simp only [Option.bind_some]
                  have e8 : r8 = q8.2 := by simp [t8, t7, t6, t5, t4, t3, t2, t1, h1, h2, h3, h4, h5, h6, h7, h8] at h; exact h.symm
                  have k1 : n1 = q1.1 := by simp [m1, h1]
                  have k2 : n2 = q2.1 := by simp [m2, t1, h1, h2]
                  have k3 : n3 = q3.1 := by simp [m3, t2, t1, h1, h2, h3]
                  have k4 : n4 = q4.1 := by simp [m4, t3, t2, t1, h1, h2, h3, h4]
                  have k5 : n5 = q5.1 := by simp [m5, t4, t3, t2, t1, h1, h2, h3, h4, h5]
                  have k6 : n6 = q6.1 := by simp [m6, t5, t4, t3, t2, t1, h1, h2, h3, h4, h5, h6]
                  have k7 : n7 = q7.1 := by simp [m7, t6, t5, t4, t3, t2, t1, h1, h2, h3, h4, h5, h6, h7]
                  have k8 : n8 = q8.1 := by simp [m8, t7, t6, t5, t4, t3, t2, t1, h1, h2, h3, h4, h5, h6, h7, h8]
                  rw [e8, k1, k2, k3, k4, k5, k6, k7, k8]

theorem read3Int_s (g : Nat) (xs : List UInt8) (w : World) (h : Rd3 w g (some xs)) (hm : xs.length ≤ 1000000) {n : Int} {r : List UInt8} (ht : takeI xs = some (n, r)) :
    Calls Tryz.prog 97 #[.pointer (some ⟨g, 0, none⟩)] w fun e w' => e = .returned (.int .i64 n) ∧ Rd3Q (fun b => w.heap.size ≤ b) w' g (some r) ∧ Ex w.heap.size (some g) w w' :=
  (read3Int_any g (some xs) w h hm).mono fun e w' hh => by
    simp only [Option.bind_some, ht, Option.map_some, Option.getD_some] at hh
    exact hh
theorem read3Int_z (g : Nat) (st : Option (List UInt8)) (w : World) (h : Rd3 w g st) (hm : (st.getD []).length ≤ 1000000) (ht : (st.bind fun xs => takeI xs) = none) :
    Calls Tryz.prog 97 #[.pointer (some ⟨g, 0, none⟩)] w fun e w' => e = .returned (.int .i64 0) ∧ Rd3Q (fun b => w.heap.size ≤ b) w' g none ∧ Ex w.heap.size (some g) w w' :=
  (read3Int_any g st w h hm).mono fun e w' hh => by
    simp only [ht, Option.map_none, Option.getD_none] at hh
    exact hh

theorem read3Text_z (g : Nat) (st : Option (List UInt8)) (most : Int) (w : World) (h : Rd3 w g st) (hm : (st.getD []).length ≤ 1000000) (ht : (st.bind fun xs => takeT xs most) = none) :
    Calls Tryz.prog 98 #[.pointer (some ⟨g, 0, none⟩), .int .i64 most] w fun e w' => e = .returned (.string ⟨#[]⟩) ∧ Rd3Q (fun b => w.heap.size ≤ b) w' g none ∧ Ex w.heap.size (some g) w w' :=
  (read3Text_any g st most w h hm).mono fun e w' hh => by
    simp only [ht, Option.map_none, Option.getD_none] at hh
    exact hh
end Go.Proofs.YtoeklgbajggndaaGreat
