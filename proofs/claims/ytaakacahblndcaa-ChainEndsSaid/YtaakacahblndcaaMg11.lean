/- chain.Branch: a contract, no statement of the seat. | The program's statement.Same and the library's slices.EqualFunc at equal rows of statements without lists. No statement of the seat. | Statements as closed values: statement.Seal; a result that is a statement's cell; a statement without lists lies anywhere. No statement of the seat. -/
import Derived.Test.YtaakacahblndcaaMg10
import Derived.Test.YtaakacahblndcaaMg09
import Derived.Deep.Cut
import Derived.Deep.CutRange
import Derived.Test.YtaakacahblndcaaMg08
import Derived.Laws.ResultCell
namespace Go.Proofs.Ytaakacahblndcaa
open Go.RowKit Go.Sort Go.Maps
attribute [local go_sem] Oper.semAt_some
attribute [local go_sem ↓] rowLoad_stv rowStore_stv rowBuild_stv rowLoad_lkv rowStore_lkv
attribute [local go_sem ↓ high] builtin_appR

/-- The last statement with a digest; the one behind which another stands; from one back. -/
def lookS (ls : List St) (d : ByteArray) : Option St := ls.foldl (fun r x => if x.dig = d then some x else r) none
def beforeS (ls : List St) (x : St) : Option St := (lookS ls x.prev).filter fun y => followsL y x
def backS (ls : List St) : Nat → St → List St
  | 0, _ => []
  | f + 1, x => x :: (match beforeS ls x with
    | none => []
    | some y => backS ls f y)
/-- The row that ends with a digest. -/
def branchS (ls : List St) (d : ByteArray) : Option (List St) := (lookS ls d).bind fun x =>
  if (backS ls 201 x).any (fun y => decide (y.number = 0)) then some (backS ls 201 x).reverse else none
theorem lookX_map (X : List (St × Sv × Sv)) (d : ByteArray) : (lookX X d).map (·.1) = lookS (X.map (·.1)) d := by
  induction X using snoc_ind with
  | nil => rfl
  | snoc X x ih =>
    rw [List.map_append, List.map_singleton, lookX_snoc]
    unfold lookS
    rw [List.foldl_append]
    simp only [List.foldl_cons, List.foldl_nil]
    by_cases h : x.1.dig = d
    · rw [if_pos h, if_pos h]; rfl
    · rw [if_neg h, if_neg h, ih]; rfl
theorem beforeX_map (X : List (St × Sv × Sv)) (x : St × Sv × Sv) : (beforeX X x).map (·.1) = beforeS (X.map (·.1)) x.1 := by
  unfold beforeX beforeS
  rw [← lookX_map]
  cases lookX X x.1.prev with
  | none => rfl
  | some y => cases h : followsL y.1 x.1 <;> simp [Option.filter, h]
theorem backX_map (X : List (St × Sv × Sv)) : ∀ (f : Nat) (x : St × Sv × Sv), (backX X f x).map (·.1) = backS (X.map (·.1)) f x.1
  | 0, _ => rfl
  | f + 1, x => by
    have h := beforeX_map X x
    cases hb : beforeX X x with
    | none =>
      rw [hb] at h
      rw [backX_none hb]
      unfold backS
      rw [← h]; rfl
    | some y =>
      rw [hb] at h
      rw [backX_some hb]
      unfold backS
      rw [← h, List.map_cons, backX_map X f y]; rfl
/-- Behind a statement with the number 0 nothing comes. -/
theorem backX_zero {X : List (St × Sv × Sv)} (hX : ∀ x ∈ X, 0 ≤ x.1.number) : ∀ (f : Nat) (x : St × Sv × Sv) (pre rest : List (St × Sv × Sv)) (z : St × Sv × Sv), backX X f x = pre ++ [z] ++ rest → z.1.number = 0 → rest = []
  | 0, _, pre, rest, z, h, _ => by simp [backX] at h
  | f + 1, x, pre, rest, z, h, hz => by
    cases hb : beforeX X x with
    | none =>
      rw [backX_none hb] at h
      have := congrArg List.length h
      simp at this
      exact List.eq_nil_of_length_eq_zero (by omega)
    | some y =>
      rw [backX_some hb] at h
      cases pre with
      | nil =>
        simp only [List.nil_append, List.cons_append, List.cons.injEq] at h
        obtain ⟨rfl, h⟩ := h
        exfalso
        unfold beforeX at hb
        cases hl : lookX X x.1.prev with
        | none => rw [hl] at hb; cases hb
        | some y' =>
          rw [hl] at hb
          have hm := (lookX_mem hl).1
          simp only [Option.filter] at hb
          split at hb
          · next hf =>
            have := (followsL_iff.1 hf).2.1
            have := hX y' hm
            omega
          · cases hb
      | cons p pre =>
        simp only [List.cons_append, List.cons.injEq] at h
        exact backX_zero hX f y pre rest z h.2 hz
/-- What chain.Branch answers, the bool as a value. -/
def BranchV (w' : World) (base : Nat) (ls : List St) (d : ByteArray) (u ub : Value) : Prop := (branchS ls d = none ∧ u = .slice none 0 0 ∧ ub = .bool false) ∨ (∃ r ro rc n, branchS ls d = some r ∧ n = r.length ∧ u = .slice ro n rc ∧ ub = .bool true ∧ OwnS w' base ro rc r)

set_option maxHeartbeats 16000000 in
set_option maxRecDepth 100000 in
theorem branchP_any {P : Nat → Prop} (a : Int) (v : Value) (l : List St) (d : ByteArray) (w : World) (hv : Sl stRep P w v l) (hm : l.length ≤ 100000) (hL : LightL 9223372036854775807 l) (hd : d.size ≤ maxLen) :
    Calls Try.prog 13 #[.int .i64 a, v, .string d] w fun e w' => ∃ ls u ub, LinksR a l ls ∧ e = .returned (.tuple #[u, ub]) ∧ BranchV w' w.heap.size ls d u ub ∧ Ex w.heap.size none w w' := by
  have HV := Lib.hid hv
  have HLL := Lib.hid hL
  have HD := Lib.hid hd
  have hmm := @run_makeMap Try.prog
  obtain ⟨w0, hw0⟩ : ∃ w0 : World, w0 = ((w.alloc (.cells #[.slice none 0 0] 27)).alloc (.cells #[.bool false] 4)).alloc (.map #[] 0) := ⟨_, rfl⟩
  have hz0 : w0.heap.size = w.heap.size + 1 + 1 + 1 := by rw [hw0]; simp
  have HE0 : Hid (Ex w.heap.size none w w0) := Lib.hid (by rw [hw0]; exact ((Ex.new w _).alloc (by simp) _).alloc (by simp; omega) _)
  have HB0 : Hid (w0.heap[w.heap.size]? = some (.cells #[.slice none 0 0] 27 (0, 0)) ∧ w0.heap[w.heap.size + 1]? = some (.cells #[.bool false] 4 (0, 0)) ∧ w0.ownsMap Try.prog 9 valElem (w.heap.size + 1 + 1) 0 (mapV [])) := Lib.hid (by
    rw [hw0]
    have e1 := heap_alloc_new w (.cells #[.slice none 0 0] 27)
    have e2 := heap_alloc_new (w.alloc (.cells #[.slice none 0 0] 27)) (.cells #[.bool false] 4)
    have f1 := (Ex.new (w.alloc (.cells #[.slice none 0 0] 27)) (.cells #[.bool false] 4)).block w.heap.size (by simp) (by simp)
    have f2 := fun b hb => (Ex.new ((w.alloc (.cells #[.slice none 0 0] 27)).alloc (.cells #[.bool false] 4)) (.map #[] 0)).block b hb (by simp)
    have e3 := World.ownsMap_made ((w.alloc (.cells #[.slice none 0 0] 27)).alloc (.cells #[.bool false] 4)) Try.prog 9 valElem
    simp only [World.size_alloc] at e2 f2 e3
    exact ⟨(f2 _ (by omega)).trans (f1.trans e1), (f2 _ (by omega)).trans e2, e3⟩)
  clear hv hL hd
  refine (callsIn_wide (n := 3)).1 (callsIn_of_wp_marks Try.func13 rfl trivial (wpIn_wide.2 ?_))
  simp only [Try.ntmps13, List.size_toArray, List.length_cons, List.length_nil, Nat.reduceAdd, Nat.reduceSub, Array.replicate_succ, Array.replicate_zero, List.push_toArray, List.append_toArray, List.nil_append, List.cons_append]
  go_upto_region 2 with (fail)
  rw [← hw0]
  clear hmm hw0
  go_wp2_with (first
    | (go_at_call 23
       refine (links_any (P := fun b => b < w.heap.size) v l a w0 ((HV.out.mono (by decide) fun b _ hb => hb).keep (by decide) fun b hb' hb => HE0.out.block b hb' (by simp)) hm HLL.out).mono ?_
       rintro e w1 ⟨u, ls, rfl, hls, hsl, hln, hex⟩
       obtain ⟨ao, cap, rfl, hsl⟩ := hsl
       obtain ⟨X, hX1, hX2, hX3⟩ := links_all hsl
       obtain ⟨m, hm0⟩ : ∃ m, m = ls.length := ⟨_, rfl⟩
       rw [← hm0]
       have HM : Hid (X.length = m) := Lib.hid (by rw [hm0, ← hX1]; simp)
       have HLS := Lib.hid hls
       have HX1 := Lib.hid hX1
       have HX2 := Lib.hid hX2
       have HX3 := Lib.hid hX3
       have HE1 := Lib.hid hex
       have hz1 : w0.heap.size ≤ w1.heap.size := hex.size
       have hm5 : m ≤ 100000 := by omega
       clear hls hsl hex hm0 hln hX1 hX2 hX3)
    | fail)
  have HOKX : Hid (∀ x ∈ X, okB a x.1 = true) := Lib.hid (fun x hx => LinksR.ok HLS.out x.1 (by rw [← HX1.out]; exact List.mem_map.2 ⟨x, hx, rfl⟩))
  go_loopw [20] (fun i wr => ∃ (k : Nat), k ≤ m ∧ i = .int .i64 k ∧ Hid (wr.ownsMap Try.prog 9 valElem (w.heap.size + 1 + 1) k (mapV ((X.take k).map storeL))) ∧ Ex w1.heap.size (some (w.heap.size + 1 + 1)) w1 wr) (fun i _ => m - (intOf i).toNat)
  case atStart => exact ⟨0, by omega, rfl, Lib.hid (by rw [List.take_zero]; exact ownsMap_same HB0.out.2.2 (HE1.out.block _ (by omega) (by simp))), Ex.refl _ _ _⟩
  case round =>
    obtain ⟨k, hk, rfl, HMP, hex0⟩ := hrel
    have hsz0 := hex0.size
    have HER := Lib.hid hex0
    clear hex0
    by_cases hlt : k < m
    · have hltI : (k : Int) < (m : Int) := by omega
      obtain ⟨x, hxk⟩ : ∃ x, X[k]? = some x := ⟨_, List.getElem?_eq_getElem (by rw [HM.out]; exact hlt)⟩
      obtain ⟨b, off, hao, hPb, hbl, hr⟩ := HX3.out k x hxk
      have HXK := Lib.hid hxk
      subst hao
      have hbne : b ≠ w.heap.size + 1 + 1 := by omega
      have hld := linkV_load (rangeAt_keep hr (HER.out.block b hbl (fun e => hbne (Option.some.inj e))))
      have hnew := linkV_new wr #[.int .i64 0, .int .i64 0, .string ⟨#[]⟩, .int .i64 0, .int .i64 0, .int .i64 0, .int .i64 0, .int .i64 0, .slice none 0 0, .slice none 0 0, .string ⟨#[]⟩, .int .i64 0, .string ⟨#[]⟩, .string ⟨#[]⟩] x rfl
      clear hr hxk
      go_upto_region 5 with (fail)
      refine wp_world (fun W => W = wr.alloc (.cells (linkV x).cells 56)) rfl (fun ws hws => ?_)
      have HEs : Hid (Ex wr.heap.size none wr ws) := Lib.hid (by rw [hws]; exact Ex.new wr _)
      have hzs : ws.heap.size = wr.heap.size + 1 := by rw [hws]; simp
      have HBs : Hid (ws.heap[wr.heap.size]? = some (.cells (linkV x).cells 56 (0, 0))) := Lib.hid (by rw [hws]; exact heap_alloc_new wr _)
      have HMs : Hid (ws.ownsMap Try.prog 9 valElem (w.heap.size + 1 + 1) k (mapV ((X.take k).map storeL))) := Lib.hid (ownsMap_same HMP.out (HEs.out.block _ (by omega) (by simp)))
      have hc := (linkV_cells5 HBs.out).2.2.2.2
      have hlb := linkV_box HBs.out
      have HDG : Hid (x.1.dig.size ≤ maxLen) := Lib.hid (okB_dig (HOKX.out x (List.mem_of_getElem? HXK.out)))
      clear hld hnew hws
      go_wp2_with (at_mapUpdate; refine wpList_mapUpdate_own _ rfl _ _ _ _ rfl 9 56 (string_keyed Try.underlying9) Try.underlying58 valElem (w.heap.size + 1 + 1) k _ (by rfl) HMs.out (by unfold maxLen; omega) _ _ (keyS x.1.dig) (by rfl) (by rfl) (WideMaps.keyOf_string_mk Try.underlying9 HDG.out) (.held (linkV x)) [] rfl ?_; intro w5 hown5 hgrow5)
      have H5 : Hid (w5.ownsMap Try.prog 9 valElem (w.heap.size + 1 + 1) (k + 1) (mapV ((X.take (k + 1)).map storeL)) ∧ Ex w1.heap.size (some (w.heap.size + 1 + 1)) w1 w5) := Lib.hid ⟨by
        have e : X.take (k + 1) = X.take k ++ [x] := by rw [List.take_add_one, HXK.out]; rfl
        rw [e, List.map_append, List.map_singleton, mapV_snoc]; exact hown5, (HER.out.trans HEs.out hsz0 (by simp)).grownP hgrow5 (by omega) (fun q e => .inl e)⟩
      clear hown5 hgrow5
      go_roundw
      case rel => exact ⟨k + 1, by omega, by go_num, Lib.hid H5.out.1, H5.out.2⟩
      case measure => simp [intOf] <;> omega
    · obtain rfl : k = m := by omega
      have HMX : Hid (wr.ownsMap Try.prog 9 valElem (w.heap.size + 1 + 1) k (mapV (X.map storeL))) := Lib.hid (by have h := HMP.out; rwa [List.take_of_length_le (by rw [HM.out]; exact Nat.le_refl _)] at h)
      have hszr : w0.heap.size ≤ wr.heap.size := by omega
      have HEW : Hid (Ex w.heap.size none w wr) := Lib.hid ((HE0.out.trans HE1.out (by omega) (by simp)).trans HER.out (by omega) (by simp; omega))
      have HC : Hid (∀ w', Ex wr.heap.size none wr w' → w'.heap[w.heap.size]? = some (.cells #[.slice none 0 0] 27 (0, 0)) ∧ w'.heap[w.heap.size + 1]? = some (.cells #[.bool false] 4 (0, 0)) ∧ w'.heap[w.heap.size + 1 + 1]? = wr.heap[w.heap.size + 1 + 1]?) := Lib.hid (fun w' h => ⟨(h.block _ (by omega) (by simp)).trans ((HER.out.block _ (by omega) (fun e => by have := Option.some.inj e; omega)).trans ((HE1.out.block _ (by omega) (by simp)).trans HB0.out.1)), (h.block _ (by omega) (by simp)).trans ((HER.out.block _ (by omega) (fun e => by have := Option.some.inj e; omega)).trans ((HE1.out.block _ (by omega) (by simp)).trans HB0.out.2.1)), h.block _ (by omega) (by simp)⟩)
      have HLX : Hid (∀ w', Ex wr.heap.size none wr w' → ∀ x ∈ X, Lies (fun b => b < w.heap.size ∨ w0.heap.size ≤ b) w' x) := Lib.hid (fun w' h x hx => (HX2.out x hx).keep fun b hP hb => (h.block b (by omega) (by simp)).trans (HER.out.block b hb (fun e => by have := Option.some.inj e; omega)))
      cases hlk : lookX X d with
      | none =>
        have HLK : Hid (lastV (X.map storeL) (keyS d) = none) := Lib.hid (by rw [lastV_look, hlk]; rfl)
        have HBV : Hid (branchS ls d = none) := Lib.hid (by unfold branchS; rw [← HX1.out, ← lookX_map, hlk]; rfl)
        have hnew := linkV_new wr #[.int .i64 0, .int .i64 0, .string ⟨#[]⟩, .int .i64 0, .int .i64 0, .int .i64 0, .int .i64 0, .int .i64 0, .slice none 0 0, .slice none 0 0, .string ⟨#[]⟩, .int .i64 0, .string ⟨#[]⟩, .string ⟨#[]⟩] zeroLk rfl
        clear hlk
        go_upto_region 8 with (at_lookup; refine wpList_lookV _ rfl _ _ _ (by rfl) 9 56 (string_keyed Try.underlying9) Try.underlying58 (linkV zeroLk) (zeroLk_val _) (w.heap.size + 1 + 1) k (X.map storeL) (by rfl) HMX.out _ (keyS d) (by rfl) (WideMaps.keyOf_string_mk Try.underlying9 HD.out) trivial (linkV zeroLk) false (by rw [HLK.out]; rfl) (by rw [HLK.out]; rfl) ?_)
        refine wp_world (fun W => W = wr.alloc (.cells (linkV zeroLk).cells 56)) rfl (fun w3 hw3 => ?_)
        have HE3 : Hid (Ex wr.heap.size none wr w3) := Lib.hid (by rw [hw3]; exact Ex.new wr _)
        obtain ⟨k6, k7, _⟩ := HC.out w3 HE3.out
        have c6 := box_cell k6
        have c7 := box_cell k7
        have z6 := row_frz' k6 0
        have z7 := row_frz' k7 0
        clear hnew hw3 k6 k7
        go_wp2
        refine ⟨.tuple #[.slice none 0 0, .bool false], by simp [results, Try.results13, go_sem, c6, c7], ?_⟩
        exact ⟨ls, _, _, HLS.out, rfl, .inl ⟨HBV.out, rfl, rfl⟩, (((HEW.out.trans HE3.out (by omega) (by simp)).setCell _ none _ (.inr (Nat.le_refl _))).setCell _ none _ (.inr (by omega)))⟩
      | some x0 =>
        have HLK : Hid (lastV (X.map storeL) (keyS d) = some (linkV x0)) := Lib.hid (by rw [lastV_look, hlk]; rfl)
        have hx0 := (lookX_mem hlk).1
        have HLK2 := Lib.hid hlk
        have hnew := linkV_new wr #[.int .i64 0, .int .i64 0, .string ⟨#[]⟩, .int .i64 0, .int .i64 0, .int .i64 0, .int .i64 0, .int .i64 0, .slice none 0 0, .slice none 0 0, .string ⟨#[]⟩, .int .i64 0, .string ⟨#[]⟩, .string ⟨#[]⟩] x0 rfl
        clear hlk
        go_upto_region 8 with (at_lookup; refine wpList_lookV _ rfl _ _ _ (by rfl) 9 56 (string_keyed Try.underlying9) Try.underlying58 (linkV zeroLk) (zeroLk_val _) (w.heap.size + 1 + 1) k (X.map storeL) (by rfl) HMX.out _ (keyS d) (by rfl) (WideMaps.keyOf_string_mk Try.underlying9 HD.out) trivial (linkV x0) true (by rw [HLK.out]; rfl) (by rw [HLK.out]; rfl) ?_)
        refine wp_world (fun W => W = wr.alloc (.cells (linkV x0).cells 56)) rfl (fun w3 hw3 => ?_)
        have HE3 : Hid (Ex wr.heap.size none wr w3) := Lib.hid (by rw [hw3]; exact Ex.new wr _)
        have hz3 : w3.heap.size = wr.heap.size + 1 := by rw [hw3]; simp
        have HB3 : Hid (w3.heap[wr.heap.size]? = some (.cells (linkV x0).cells 56 (0, 0))) := Lib.hid (by rw [hw3]; exact heap_alloc_new wr _)
        have r3 := linkV_box HB3.out
        clear hnew hw3
        obtain ⟨w4, hw4⟩ : ∃ w4 : World, w4 = w3.alloc (.cells #[.slice none 0 0] 27) := ⟨_, rfl⟩
        have HE4 : Hid (Ex wr.heap.size none wr w4) := Lib.hid (HE3.out.trans (by rw [hw4]; exact Ex.new w3 _) (by omega) (by simp))
        have hz4 : w4.heap.size = w3.heap.size + 1 := by rw [hw4]; simp
        have HG4 : Hid (w4.heap[w3.heap.size]? = some (.cells #[.slice none 0 0] 27 (0, 0))) := Lib.hid (by rw [hw4]; exact heap_alloc_new w3 _)
        have r4 := linkV_box (show w4.heap[wr.heap.size]? = some (.cells (linkV x0).cells 56 (0, 0)) by rw [hw4]; exact ((Ex.new w3 _).block _ (by omega) (by simp)).trans HB3.out)
        go_upto_region 11 with (fail)
        rw [← hw4]
        clear hw4 r3
        go_wp2_with (first
          | (go_at_call 25
             refine (backP_any _ x0 w4).mono ?_
             rintro e w5 ⟨rfl, hw5⟩
             have HW5 := Lib.hid hw5
             clear hw5)
          | fail)
        have HE5 : Hid (Ex wr.heap.size none wr w5) := Lib.hid (by rw [HW5.out]; exact ((HE4.out.trans (Ex.new w4 _) (by omega) (by simp)).alloc (by simp; omega) _))
        have hz5 : w5.heap.size = wr.heap.size + 1 + 1 + 1 + 1 := by rw [HW5.out]; simp; omega
        have HG5 : Hid (w5.heap[wr.heap.size + 1]? = some (.cells #[.slice none 0 0] 27 (0, 0)) ∧ w5.cell? ⟨wr.heap.size + 1 + 1, 0, none⟩ = some (.map (some (w.heap.size + 1 + 1))) ∧ w5.heap[wr.heap.size + 1 + 1 + 1]? = some (.cells (linkV x0).cells 56 (0, 0))) := Lib.hid (by
          have e1 := heap_alloc_new w4 (.cells #[.map (some (w.heap.size + 1 + 1))] 58)
          have e2 := heap_alloc_new (w4.alloc (.cells #[.map (some (w.heap.size + 1 + 1))] 58)) (.cells (linkV x0).cells 56)
          have f2 := fun b hb => (Ex.new (w4.alloc (.cells #[.map (some (w.heap.size + 1 + 1))] 58)) (.cells (linkV x0).cells 56)).block b hb (by simp)
          have f1 := fun b hb => (Ex.new w4 (.cells #[.map (some (w.heap.size + 1 + 1))] 58)).block b hb (by simp)
          have hg4 := HG4.out
          simp only [World.size_alloc] at e2 f2
          rw [hz4, hz3] at e1 e2 f2 f1
          rw [hz3] at hg4
          rw [HW5.out]
          exact ⟨(f2 _ (by omega)).trans ((f1 _ (by omega)).trans hg4), box_cell ((f2 _ (by omega)).trans e1), e2⟩)
        have HM5 : Hid (w5.ownsMap Try.prog 9 valElem (w.heap.size + 1 + 1) k (mapV (X.map storeL))) := Lib.hid (ownsMap_same HMX.out (HE5.out.block _ (by omega) (by simp)))
        have HXN : Hid (∀ x ∈ X, (0 ≤ x.1.number ∧ x.1.number ≤ 200) ∧ x.1.prev.size ≤ maxLen) := Lib.hid (fun x hx => ⟨numB_le (okB_iff.1 (HOKX.out x hx)).2.1, okB_prev (HOKX.out x hx)⟩)
        refine (wpIn_wide (n := 3)).1 (wpIn_rangeBack w5.heap.size (wr.heap.size + 1 + 1 + 1) (wr.heap.size + 1 + 1) (w.heap.size + 1 + 1) k (wr.heap.size + 1) X x0 rfl HXN.out hx0 (by omega) (by omega) (by omega) (by omega) HG5.out.2.2 HG5.out.2.1 HM5.out rfl
          (BrI w5 (wr.heap.size + 1) (wr.heap.size + 1 + 1 + 1)) (BrX w5 w.heap.size (wr.heap.size + 1) (wr.heap.size + 1 + 1 + 1))
          (fun pre A B h hb => h.beside (by omega) (by omega) hb) (fun pre A B h hb => h.beside (by omega) (by omega) hb)
          ⟨none, 0, HG5.out.1, OwnS.nil _ _, (fun y hy => by cases hy), Nat.le_refl _, ⟨rfl, rfl, rfl⟩, fun _ _ _ _ => rfl⟩ ?act ?assign ?body ?done ?stop)
        case assign =>
          intro l x W K gb hgb hK
          have hnew := linkV_new W #[.int .i64 0, .int .i64 0, .string ⟨#[]⟩, .int .i64 0, .int .i64 0, .int .i64 0, .int .i64 0, .int .i64 0, .slice none 0 0, .slice none 0 0, .string ⟨#[]⟩, .int .i64 0, .string ⟨#[]⟩, .string ⟨#[]⟩] x rfl
          obtain ⟨W', hW'⟩ : ∃ W', W' = W.alloc (.cells (linkV x).cells 56) := ⟨_, rfl⟩
          rw [← hW'] at hnew hK
          clear hW'
          gi_wp2
          rw [← hgb]
          exact hK
        case body =>
          rintro pre x W gb ⟨ro, rc, hgoW, hown, hnz, hszW, ⟨hos, hta, hou⟩, hkeep⟩ hxm hpl hgb hNgb hltgb
          obtain ⟨np, hnp⟩ : ∃ np, np = pre.length := ⟨_, rfl⟩
          rw [← hnp] at hgoW hpl
          have HNP := Lib.hid hnp
          have HOW := Lib.hid hown
          have HGO := Lib.hid hgoW
          have HGB := Lib.hid hgb
          have HKP := Lib.hid hkeep
          have HOS : Hid (W.os = w5.os ∧ W.tape = w5.tape ∧ W.output = w5.output) := Lib.hid ⟨hos, hta, hou⟩
          have HNZ := Lib.hid hnz
          have HLW : Hid (Lies (fun b => b < wr.heap.size) W x) := Lib.hid (((HLX.out wr (Ex.refl _ _ _) x hxm).mono (P' := fun b => b < wr.heap.size) fun b _ hb => hb).keep fun b hb _ => (hkeep b (by omega) (by omega) (by omega)).trans (HE5.out.block b hb (by simp)))
          have HTX := Lib.hid (checkI_tame (okB_iff.1 (HOKX.out x hxm)).2.1)
          have HCP : Hid (∀ w', Ex W.heap.size none W w' → Calls Try.prog 17 #[stV x] w' fun e w'' => ∃ y, e = .returned (stV y) ∧ y.1 = x.1 ∧ Lies (fun b => w'.heap.size ≤ b) w'' y ∧ Ex w'.heap.size none w' w'') := Lib.hid (fun w' h => copied_v x w' (HLW.out.keep fun b _ hb => h.block b hb (by simp)) (by have h1 := HTX.out.list; have h2 := HTX.out.pins; omega))
          have HQW : Hid (∀ w', Ex W.heap.size none W w' → w'.cell? ⟨wr.heap.size + 1, 0, none⟩ = some (.slice ro np rc) ∧ w'.frozen? ⟨wr.heap.size + 1, 0, none⟩ = false ∧ (rowLoad 33 ⟨gb, 0, none⟩).run Try.prog w' = .ok (stV x) w' ∧ w'.cell? ⟨gb, 1, none⟩ = some (.int .i64 x.1.number)) := Lib.hid (fun w' h => by
            have k1 := (h.block (wr.heap.size + 1) (by omega) (by simp)).trans HGO.out
            have k2 := (h.block gb hltgb (by simp)).trans HGB.out
            exact ⟨box_cell k1, row_frz' k1 0, linkV_st k2, (linkV_cells5 k2).2.1⟩)
          obtain ⟨c13, z13, rst, cnm⟩ := HQW.out W (Ex.refl _ _ _)
          clear hnp hown hgoW hgb hkeep hnz hos hta hou r4
          gi_wp2_with (fail)
          have hmx : Try.prog.follows .mixedOrders = true := by kernel_rfl
          obtain ⟨d13, dz13, drst, dnm⟩ := HQW.out W.drew (Ex.refl _ _ _).drew
          gi_region_with_o (first
            | (refine ⟨trivial, rfl, ?_⟩
               refine (CallsIn.inRound _ (callsIn_wide.2 (HCP.out _ (by first | exact Ex.refl _ _ _ | exact (Ex.refl _ _ _).drew)))).mono ?_
               rintro e w8 ⟨y, rfl, hyx, hly, hex⟩
               have HE8 : Hid (Ex W.heap.size none W w8) := Lib.hid ((Ex.refl _ _ _).drew.trans hex (by simp) (by simp))
               have hz8 : W.heap.size ≤ w8.heap.size := HE8.out.size
               obtain ⟨e13, ez13, erst, enm⟩ := HQW.out w8 HE8.out
               have hlit := stV_lit w8 y
               obtain ⟨w9, hw9⟩ : ∃ w9 : World, w9 = w8.alloc (.cells (stV y).cells 33) := ⟨_, rfl⟩
               rw [← hw9] at hlit
               have HE9 : Hid (Ex W.heap.size none W w9) := Lib.hid (HE8.out.trans (by rw [hw9]; exact Ex.new w8 _) hz8 (by simp))
               have hz9 : w9.heap.size = w8.heap.size + 1 := by rw [hw9]; simp
               have HB9 : Hid (w9.heap[w8.heap.size]? = some (.cells (stV y).cells 33 (0, 0))) := Lib.hid (by rw [hw9]; exact heap_alloc_new w8 _)
               obtain ⟨i13, iz13, irst, inm⟩ := HQW.out w9 HE9.out
               obtain ⟨ro', rc', w10, happ, hown', hex10, hot10⟩ := run_appSt (w := w9) (w5.heap.size + 2) (w5.heap.size + 2) ro rc np (pre.map (·.1)) (by rw [List.length_map]; exact HNP.out.symm) w8.heap.size y ((HOW.out.keep HE9.out (Nat.le_refl _)).t) HB9.out
                 (((hly.mono fun b hb hlt => (⟨hb, hlt⟩ : W.heap.size ≤ b ∧ b < w8.heap.size)).keep fun b hb _ => by rw [hw9]; exact (Ex.new w8 _).block b hb.2 (by simp)).mono fun b hb _ => ⟨by omega, fun e => by have h := OwnT.row HOW.out.t b e; omega⟩) (by omega) (by omega)
               have HE10 : Hid (Ex (w5.heap.size + 2) none W w10) := Lib.hid ((HE9.out.mono (by omega)).trans hex10 (Nat.le_refl _) (by simp))
               have HO10 := Lib.hid hown'
               have h10a : w10.cell? ⟨wr.heap.size + 1, 0, none⟩ = some (.slice ro np rc) := box_cell ((HE10.out.block (wr.heap.size + 1) (by omega) (by simp)).trans HGO.out)
               have h10b : w10.frozen? ⟨wr.heap.size + 1, 0, none⟩ = false := row_frz' ((HE10.out.block (wr.heap.size + 1) (by omega) (by simp)).trans HGO.out) 0
               have HG10 : Hid (w10.heap[wr.heap.size + 1]? = some (.cells #[.slice ro np rc] 27 (0, 0))) := Lib.hid ((HE10.out.block (wr.heap.size + 1) (by omega) (by simp)).trans HGO.out)
               have hgb9 : w9.heap[gb]? = some (.cells (linkV x).cells 56 (0, 0)) := (HE9.out.block gb hltgb (by simp)).trans HGB.out
               have HGB10 : Hid (w10.heap[gb]? = some (.cells (linkV x).cells 56 (0, 0))) := Lib.hid ((hot10 gb (by omega) (OwnS.other (HOW.out.keep HE9.out (Nat.le_refl _)) hgb9 (by decide))).trans hgb9)
               have HYX := Lib.hid hyx
               clear hyx hly hex hw9 hex10 hown' hot10 hgb9)
            | fail)
          all_goals
            obtain ⟨w11, hw11⟩ : ∃ w11 : World, w11 = w10.setCell ⟨wr.heap.size + 1, 0, none⟩ (.slice ro' (np + 1) rc') := ⟨_, rfl⟩
            rw [← hw11]
            have HE11 : Hid (Ex (w5.heap.size + 2) (some (wr.heap.size + 1)) W w11) := Lib.hid (by rw [hw11]; exact (HE10.out.weaken _).setCell _ _ _ (.inl rfl))
            have HG11 : Hid (w11.heap[wr.heap.size + 1]? = some (.cells #[.slice ro' (np + 1) rc'] 27 (0, 0))) := Lib.hid (by rw [hw11, heap_setCell' HG10.out]; rfl)
            have hoth11 : ∀ b, b ≠ wr.heap.size + 1 → w11.heap[b]? = w10.heap[b]? := fun b hb => by rw [hw11]; exact ((Ex.refl (b + 1) (some (wr.heap.size + 1)) w10).setCell _ none _ (.inl rfl)).block b (by omega) (fun e => hb (Option.some.inj e))
            have HO11 : Hid (OwnS w11 (w5.heap.size + 2) ro' rc' ((pre ++ [x]).map (·.1))) := Lib.hid (by
              have h := (OwnT.s HO10.out (Nat.le_refl _)).keepB (w' := w11) fun b hb _ => hoth11 b (by omega)
              rw [HYX.out] at h
              rw [List.map_append]; exact h)
            have n11 : w11.cell? ⟨gb, 1, none⟩ = some (.int .i64 x.1.number) := (linkV_cells5 ((hoth11 gb (by omega)).trans HGB10.out)).2.1
            have c11 := box_cell HG11.out
            have hz11 : W.heap.size ≤ w11.heap.size := HE11.out.size
            have HOS11 : Hid (w11.os = w5.os ∧ w11.tape = w5.tape ∧ w11.output = w5.output) := Lib.hid ⟨HE11.out.os.trans HOS.out.1, HE11.out.tape.trans HOS.out.2.1, HE11.out.output.trans HOS.out.2.2⟩
            have HKP11 : Hid (∀ b, b < w5.heap.size → b ≠ wr.heap.size + 1 + 1 + 1 → b ≠ wr.heap.size + 1 → w11.heap[b]? = w5.heap[b]?) := Lib.hid fun b h1 h2 h3 => (HE11.out.block b (by omega) (fun e => h3 (Option.some.inj e))).trans (HKP.out b h1 h2 h3)
            clear hw11 hoth11
            by_cases h0 : x.1.number = 0
            · obtain ⟨k6, k7, -⟩ := HC.out w5 HE5.out
              have HK6 : Hid (w11.heap[w.heap.size]? = some (.cells #[.slice none 0 0] 27 (0, 0)) ∧ w11.heap[w.heap.size + 1]? = some (.cells #[.bool false] 4 (0, 0))) := Lib.hid ⟨(HKP11.out _ (by omega) (by omega) (by omega)).trans k6, (HKP11.out _ (by omega) (by omega) (by omega)).trans k7⟩
              clear k6 k7
              gi_wp2_with (first
                | (first | refine ⟨trivial, rfl, ?_⟩ | (refine ⟨trivial, ?_⟩; gi_at_call 26) | gi_at_call 26
                   refine (CallsIn.inRound _ (callsIn_wide.2 (reverse_own (w5.heap.size + 2) (np + 1) rc' ro' _ w11 HO11.out (by rw [List.length_map, List.length_append, ← HNP.out]; rfl) (by omega) (by omega)))).mono ?_
                   rintro e w12 ⟨rfl, hO12, hE12, -⟩
                   have HO12 := Lib.hid hO12
                   have HE12 := Lib.hid hE12
                   have c12 := box_cell ((HE12.out.block (wr.heap.size + 1) (by omega) (by simp)).trans HG11.out)
                   have HB6 : Hid (w12.heap[w.heap.size]? = some (.cells #[.slice none 0 0] 27 (0, 0)) ∧ w12.heap[w.heap.size + 1]? = some (.cells #[.bool false] 4 (0, 0))) := Lib.hid ⟨(HE12.out.block _ (by omega) (by simp)).trans HK6.out.1, (HE12.out.block _ (by omega) (by simp)).trans HK6.out.2⟩
                   have c6 := box_cell HB6.out.1
                   have c7 := box_cell HB6.out.2
                   have z6 := row_frz' HB6.out.1 0
                   have z7 := row_frz' HB6.out.2 0
                   clear hO12 hE12)
                | fail)
              have hoth : ∀ b, b ≠ w.heap.size → b ≠ w.heap.size + 1 → ((w12.setCell ⟨w.heap.size, 0, none⟩ (.slice ro' (np + 1) rc')).setCell ⟨w.heap.size + 1, 0, none⟩ (.bool true)).heap[b]? = w12.heap[b]? := fun b h1 h2 => (heap_setCell_ne _ h2).trans (heap_setCell_ne _ h1)
              have hblk : ∀ b, b < w5.heap.size + 2 → b ≠ w.heap.size → b ≠ w.heap.size + 1 → b ≠ wr.heap.size + 1 → ((w12.setCell ⟨w.heap.size, 0, none⟩ (.slice ro' (np + 1) rc')).setCell ⟨w.heap.size + 1, 0, none⟩ (.bool true)).heap[b]? = W.heap[b]? := fun b h1 h2 h3 h4 => (hoth b h2 h3).trans ((HE12.out.block b (by omega) (by simp)).trans (HE11.out.block b (by omega) (fun e => h4 (Option.some.inj e))))
              refine ⟨⟨hblk _ (by omega) (by omega) (by omega) (by omega), hblk _ (by omega) (by omega) (by omega) (by omega)⟩, ro', rc', np + 1, by rw [List.length_append, ← HNP.out]; rfl, ?_, ?_, ?_, ⟨pre, x, rfl, h0⟩, ?_, ?_, ?_⟩
              · exact (heap_setCell_ne _ (by omega)).trans (by rw [heap_setCell' HB6.out.1]; rfl)
              · rw [heap_setCell' ((heap_setCell_ne _ (by omega)).trans HB6.out.2)]; rfl
              · exact HO12.out.keepB fun b hb _ => hoth b (by omega) (by omega)
              · have := HE12.out.size
                simp only [World.size_setCell]
                omega
              · exact ⟨HE12.out.os.trans HOS11.out.1, HE12.out.tape.trans HOS11.out.2.1, HE12.out.output.trans HOS11.out.2.2⟩
              · exact fun b h1 h2 h3 h4 h5 => (hoth b h4 h5).trans ((HE12.out.block b (by omega) (by simp)).trans (HKP11.out b h1 h2 h3))
            · gi_wp2_with (fail)
              exact ⟨HE11.out, ro', rc', by rw [List.length_append, ← HNP.out]; exact HG11.out, HO11.out, fun y hy => by
                rcases List.mem_append.1 hy with h | h
                · exact HNZ.out y h
                · rw [List.mem_singleton.1 h]; exact h0, by omega, HOS11.out, HKP11.out⟩
        case done =>
          rintro W ⟨ro, rc, hgo, hown, hnz, hsz, ⟨hos, hta, hou⟩, hkeep⟩ hK
          obtain ⟨k6, k7, -⟩ := HC.out w5 HE5.out
          have HB6 : Hid (W.heap[w.heap.size]? = some (.cells #[.slice none 0 0] 27 (0, 0)) ∧ W.heap[w.heap.size + 1]? = some (.cells #[.bool false] 4 (0, 0))) := Lib.hid ⟨(hkeep _ (by omega) (by omega) (by omega)).trans k6, (hkeep _ (by omega) (by omega) (by omega)).trans k7⟩
          have HBV : Hid (branchS ls d = none) := Lib.hid (by
            have e1 : lookS ls d = some x0.1 := by rw [← HX1.out, ← lookX_map, HLK2.out]; rfl
            unfold branchS
            rw [e1, Option.bind_some, if_neg]
            rw [← HX1.out, ← backX_map]
            simp only [List.any_eq_true, decide_eq_true_eq, not_exists, not_and]
            intro y hy
            obtain ⟨z, hz, rfl⟩ := List.mem_map.1 hy
            exact hnz z hz)
          have HEF : Hid (Ex w.heap.size none w W) := Lib.hid ⟨hos.trans ((HEW.out.trans HE5.out (by omega) (by simp)).os), hta.trans ((HEW.out.trans HE5.out (by omega) (by simp)).tape), hou.trans ((HEW.out.trans HE5.out (by omega) (by simp)).output), by have := HEW.out.size; omega, fun b hb _ => (hkeep b (by have := HEW.out.size; omega) (by have := HEW.out.size; omega) (by have := HEW.out.size; omega)).trans ((HEW.out.trans HE5.out (by omega) (by simp)).block b hb (by simp))⟩
          have c6 := box_cell HB6.out.1
          have c7 := box_cell HB6.out.2
          have z6 := row_frz' HB6.out.1 0
          have z7 := row_frz' HB6.out.2 0
          have HK := Lib.hid hK
          clear hgo hown hnz hos hta hou hkeep hK k6 k7
          gi_wp2
          go_wp2
          have hKF : ((W.setCell ⟨w.heap.size, 0, none⟩ (.slice none 0 0)).setCell ⟨w.heap.size + 1, 0, none⟩ (.bool false)).heap[w5.heap.size]? = some (.deferred (some [])) := (heap_setCell_ne _ (by omega)).trans ((heap_setCell_ne _ (by omega)).trans HK.out)
          obtain ⟨r6, r7⟩ := two_results (N := w5.heap.size) (o := .deferred none) (.slice none 0 0) (.bool false) HB6.out.1 HB6.out.2 (by omega)
          refine ⟨by simp, .inl ⟨_, _, rfl, run_takeDeferred hKF, ?_⟩⟩
          refine ⟨.tuple #[.slice none 0 0, .bool false], by simp [results, Try.results13, go_sem, r6, r7], ?_⟩
          exact ⟨ls, _, _, HLS.out, rfl, .inl ⟨HBV.out, rfl, rfl⟩, ((HEF.out.setCell 0 none _ (.inr (Nat.le_refl _))).setCell 0 none _ (.inr (by omega))).putObj _ _ (by omega)⟩
        case stop =>
          rintro pre rest W hpr ⟨ro, rc, n, hn, h6, h7, hown, ⟨p9, z9, hp9, hz9⟩, hsz, ⟨hos, hta, hou⟩, hkeep⟩ hK
          have HX6 : Hid (W.heap[w.heap.size]? = some (.cells #[.slice ro n rc] 27 (0, 0)) ∧ W.heap[w.heap.size + 1]? = some (.cells #[.bool true] 4 (0, 0))) := Lib.hid ⟨h6, h7⟩
          have HBV : Hid (branchS ls d = some (pre.map (·.1)).reverse) := Lib.hid (by
            have e1 : lookS ls d = some x0.1 := by rw [← HX1.out, ← lookX_map, HLK2.out]; rfl
            have e2 : rest = [] := backX_zero (fun x hx => (HXN.out x hx).1.1) 201 x0 p9 rest z9 (by rw [← hpr, hp9]) hz9
            subst e2
            rw [List.append_nil] at hpr
            unfold branchS
            rw [e1, Option.bind_some, ← HX1.out, ← backX_map, ← hpr, if_pos]
            simp only [List.any_eq_true, decide_eq_true_eq]
            exact ⟨z9.1, List.mem_map.2 ⟨z9, by rw [hp9]; simp, rfl⟩, hz9⟩)
          have HEF : Hid (Ex w.heap.size none w W) := Lib.hid ⟨hos.trans ((HEW.out.trans HE5.out (by omega) (by simp)).os), hta.trans ((HEW.out.trans HE5.out (by omega) (by simp)).tape), hou.trans ((HEW.out.trans HE5.out (by omega) (by simp)).output), by have := HEW.out.size; omega, fun b hb _ => (hkeep b (by have := HEW.out.size; omega) (by have := HEW.out.size; omega) (by have := HEW.out.size; omega) (by omega) (by omega)).trans ((HEW.out.trans HE5.out (by omega) (by simp)).block b hb (by simp))⟩
          have HOW := Lib.hid hown
          have HN : Hid (n = ((pre.map (·.1)).reverse).length) := Lib.hid (by rw [hn]; simp)
          have HK := Lib.hid hK
          have hlt : w.heap.size + 1 < w5.heap.size := by omega
          clear h6 h7 hos hta hou hkeep hK hown hn hp9 hz9 hpr
          have r6 := box_cell (t := 27) (g := w.heap.size) ((heap_putObj_ne (w := W) (N := w5.heap.size) (.deferred none) (by omega)).trans HX6.out.1)
          have r7 := box_cell (t := 4) (g := w.heap.size + 1) ((heap_putObj_ne (w := W) (N := w5.heap.size) (.deferred none) (by omega)).trans HX6.out.2)
          gi_wp2
          go_wp2
          refine ⟨by simp, .inl ⟨_, _, rfl, run_takeDeferred HK.out, ?_⟩⟩
          refine ⟨.tuple #[.slice ro n rc, .bool true], by simp [results, Try.results13, go_sem, r6, r7], ?_⟩
          exact ⟨ls, _, _, HLS.out, rfl, .inr ⟨_, ro, rc, n, HBV.out, HN.out, rfl, rfl, (HOW.out.keepB fun b hb _ => heap_putObj_ne _ (by omega)).lower (by have := HEW.out.size; omega)⟩, HEF.out.putObj _ _ (by have := HEW.out.size; omega)⟩
end Go.Proofs.Ytaakacahblndcaa

namespace Go.Proofs.Ytaakacahblndcaa
open Go.RowKit Go.Sort
attribute [local go_sem ↓] rowLoad_stv rowStore_stv

set_option maxHeartbeats 1000000 in
theorem equalInts0 (a b : Option Addr) (c d : Nat) (w : World) : Calls Try.prog 27 #[.slice a 0 c, .slice b 0 d] w fun e w' => e = .returned (.bool true) ∧ w' = w := by
  go_enter Try.func27, Try.ntmps27
  go_wp2
  go_loopw [13] (fun i wr => i = .int .i64 0 ∧ wr = w) (fun _ _ => 0)
  case atStart => exact ⟨rfl, rfl⟩
  case round =>
    obtain ⟨rfl, rfl⟩ := hrel
    go_wp2
    go_ret
    exact ⟨rfl, rfl⟩
set_option maxHeartbeats 1000000 in
theorem equalPins0 (a b : Option Addr) (c d : Nat) (w : World) : Calls Try.prog 28 #[.slice a 0 c, .slice b 0 d] w fun e w' => e = .returned (.bool true) ∧ w' = w := by
  go_enter Try.func28, Try.ntmps28
  go_wp2
  go_loopw [13] (fun i wr => i = .int .i64 0 ∧ wr = w) (fun _ _ => 0)
  case atStart => exact ⟨rfl, rfl⟩
  case round =>
    obtain ⟨rfl, rfl⟩ := hrel
    go_wp2
    go_ret
    exact ⟨rfl, rfl⟩
/-- A statement without lists. -/
def Bare (s : St) : Prop := s.list = [] ∧ s.pins = []
theorem Bare.lies {s : St} (h : Bare s) (la pa : Option Addr) (ca cp : Nat) (P : Nat → Prop) (W : World) : Lies P W (s, ⟨la, 0, ca⟩, ⟨pa, 0, cp⟩) :=
  ⟨⟨la, ca, by show _ = Value.slice la s.list.length ca; rw [h.1]; rfl, by show SlAt intRep P W la s.list; rw [h.1]; exact SlAt.nil _ _ _⟩, ⟨pa, cp, by show _ = Value.slice pa s.pins.length cp; rw [h.2]; rfl, by show SlAt pinRep P W pa s.pins; rw [h.2]; exact SlAt.nil _ _ _⟩⟩
set_option maxHeartbeats 4000000 in
set_option maxRecDepth 100000 in
theorem sameP_raw (s : St) (la pa lb pb : Option Addr) (ca cp cb cq : Nat) (w : World) :
    Calls Try.prog 16 #[.agg #[.int .i64 s.author, .int .i64 s.number, .string s.prev, .int .i64 s.time, .int .i64 s.kind, .int .i64 s.a, .int .i64 s.b, .int .i64 s.c, .slice la 0 ca, .slice pa 0 cp, .string s.body, .int .i64 s.key, .string s.dig],
      .agg #[.int .i64 s.author, .int .i64 s.number, .string s.prev, .int .i64 s.time, .int .i64 s.kind, .int .i64 s.a, .int .i64 s.b, .int .i64 s.c, .slice lb 0 cb, .slice pb 0 cq, .string s.body, .int .i64 s.key, .string s.dig]] w fun e w' => e = .returned (.bool true) ∧ Ex w.heap.size none w w' := by
  go_enter Try.func16, Try.ntmps16
  go_wp2_with (first
    | (go_at_call 27; refine (equalInts0 _ _ _ _ _).mono ?_; rintro e w' ⟨rfl, rfl⟩)
    | (go_at_call 28; refine (equalPins0 _ _ _ _ _).mono ?_; rintro e w' ⟨rfl, rfl⟩)
    | fail)
  go_ret
  exact ⟨rfl, (Ex.new w _).alloc (by simp) _⟩
theorem sameP_v {P Q : Nat → Prop} (x y : St × Sv × Sv) (w : World) (e : y.1 = x.1) (hb : Bare x.1) (hx : Lies P w x) (hy : Lies Q w y) :
    Calls Try.prog 16 #[stV x, stV y] w fun e w' => e = .returned (.bool true) ∧ Ex w.heap.size none w w' := by
  have h1 := lies_len hx
  have h2 := lies_len hy
  obtain ⟨s, ⟨la, na, ca⟩, ⟨pa, np, cp⟩⟩ := x
  obtain ⟨t, ⟨lb, nb, cb⟩, ⟨pb, nq, cq⟩⟩ := y
  obtain rfl : t = s := e
  obtain ⟨hb1, hb2⟩ : t.list = [] ∧ t.pins = [] := hb
  simp only [hb1, hb2, List.length_nil] at h1 h2
  obtain ⟨rfl, rfl⟩ := h1
  obtain ⟨rfl, rfl⟩ := h2
  exact sameP_raw t la pa lb pb ca cp cb cq w
theorem Ex.thenX {a b c : World} (h : Ex a.heap.size none a b) (k : Ex b.heap.size none b c) : Ex a.heap.size none a c := h.trans k h.size (by simp)
set_option maxHeartbeats 4000000 in
set_option maxRecDepth 100000 in
theorem equalFunc_same {P Q : Nat → Prop} (ao ao' : Option Addr) (n cap cap' : Nat) (l : List St) (w : World) (hn : l.length = n) (hx : SlAt stRep P w ao l) (hy : SlAt stRep Q w ao' l) (hb : ∀ s ∈ l, Bare s) (hm : n ≤ 100000) :
    Calls Try.prog 15 #[.slice ao n cap, .slice ao' n cap', .func (.func 16) #[] #[]] w fun e w' => e = .returned (.bool true) ∧ Ex w.heap.size none w w' := by
  have HX : Hid (∀ w', Ex w.heap.size none w w' → SlAt stRep P w' ao l) := Lib.hid (fun w' h => hx.keep (by decide) fun b _ hb => h.block b hb (by simp))
  have HY : Hid (∀ w', Ex w.heap.size none w w' → SlAt stRep Q w' ao' l) := Lib.hid (fun w' h => hy.keep (by decide) fun b _ hb => h.block b hb (by simp))
  have HB := Lib.hid hb
  have HN := Lib.hid hn
  clear hx hy hb hn
  go_enter Try.func15, Try.ntmps15
  go_wp2
  go_loopw [17] (fun i wr => ∃ k : Nat, k ≤ n ∧ i = .int .i64 k ∧ Ex w.heap.size none w wr) (fun i _ => n - (intOf i).toNat)
  case atStart => exact ⟨0, by omega, rfl, Ex.refl _ _ _⟩
  case round =>
    obtain ⟨k, hk, rfl, hex0⟩ := hrel
    have hsz0 := hex0.size
    have HEX := Lib.hid hex0
    clear hex0
    by_cases hlt : k < n
    · have hltI : (k : Int) < (n : Int) := by omega
      obtain ⟨b, off, x, hao, _, hbl, HXs, hlx, HLD⟩ := stv_get (HX.out wr HEX.out) k (by rw [HN.out]; exact hlt)
      obtain ⟨b', off', y, hao', _, hbl', HYs, hly, HLE⟩ := stv_get (HY.out wr HEX.out) k (by rw [HN.out]; exact hlt)
      subst hao hao'
      have HXY : Hid (y.1 = x.1) := Lib.hid (by have h := HXs.out; rw [HYs.out] at h; exact Option.some.inj h)
      have HBX : Hid (Bare x.1) := Lib.hid (HB.out _ (List.mem_of_getElem? HXs.out))
      have HL : Hid (∀ w', Ex wr.heap.size none wr w' → Lies P w' x ∧ Lies Q w' y) := Lib.hid (fun w' h => ⟨hlx.keep fun q _ hq => h.block q hq (by simp), hly.keep fun q _ hq => h.block q hq (by simp)⟩)
      have hld := HLD.out wr rfl
      have hn1 := stV_new wr #[.int .i64 0, .int .i64 0, .string ⟨#[]⟩, .int .i64 0, .int .i64 0, .int .i64 0, .int .i64 0, .int .i64 0, .slice none 0 0, .slice none 0 0, .string ⟨#[]⟩, .int .i64 0, .string ⟨#[]⟩] x rfl
      clear hlx hly
      go_upto_region 6 with (fail)
      refine wp_world (fun W => W = wr.alloc (.cells (stV x).cells 33)) rfl (fun w1 hw1 => ?_)
      have HE1 : Hid (Ex wr.heap.size none wr w1) := Lib.hid (by rw [hw1]; exact Ex.new wr _)
      have HB1 : Hid (w1.heap[wr.heap.size]? = some (.cells (stV x).cells 33 (0, 0))) := Lib.hid (by rw [hw1]; exact heap_alloc_new wr _)
      have HZ1 : Hid (w1.heap.size = wr.heap.size + 1) := Lib.hid (by rw [hw1]; simp)
      have hle := HLE.out w1 (HE1.out.block b' hbl' (by simp))
      have hn2 := stV_new w1 #[.int .i64 0, .int .i64 0, .string ⟨#[]⟩, .int .i64 0, .int .i64 0, .int .i64 0, .int .i64 0, .int .i64 0, .slice none 0 0, .slice none 0 0, .string ⟨#[]⟩, .int .i64 0, .string ⟨#[]⟩] y rfl
      clear hld hn1 hw1
      go_upto_region 7 with (fail)
      refine wp_world (fun W => W = w1.alloc (.cells (stV y).cells 33)) rfl (fun w2 hw2 => ?_)
      have HE2 : Hid (Ex w1.heap.size none w1 w2) := Lib.hid (by rw [hw2]; exact Ex.new w1 _)
      have HB2 : Hid (w2.heap[w1.heap.size]? = some (.cells (stV y).cells 33 (0, 0))) := Lib.hid (by rw [hw2]; exact heap_alloc_new w1 _)
      have r1 := stV_box ((HE2.out.block wr.heap.size (by have := HZ1.out; omega) (by simp)).trans HB1.out)
      have r2 := stV_box HB2.out
      have HEW : Hid (Ex wr.heap.size none wr w2) := Lib.hid (HE1.out.thenX HE2.out)
      clear hle hn2 hw2
      go_wp2_with (fail)
      refine (sameP_v x y w2 HXY.out HBX.out (HL.out w2 HEW.out).1 (HL.out w2 HEW.out).2).mono ?_
      rintro e w3 ⟨rfl, hex3⟩
      have HE3 : Hid (Ex w.heap.size none w w3) := Lib.hid (HEX.out.trans (HEW.out.trans hex3 HEW.out.size (by simp)) hsz0 (by simp))
      clear hex3 r1 r2
      go_wp2
      go_roundw
      case rel => exact ⟨k + 1, by omega, by go_num, HE3.out⟩
      case measure => simp [intOf] <;> omega
    · obtain rfl : k = n := by omega
      go_wp2
      go_ret
      exact ⟨rfl, HEX.out⟩
end Go.Proofs.Ytaakacahblndcaa

namespace Go.Proofs.Ytaakacahblndcaa
open Go.RowKit Go.Sort
attribute [local go_sem ↓] rowLoad_stv rowStore_stv

theorem sealP_v {P : Nat → Prop} (x : St × Sv × Sv) (w : World) (h : Lies P w x) (ht : Tame x.1) :
    Calls Try.prog 19 #[stV x] w fun e w' => ∃ y : St × Sv × Sv, e = .returned (stV y) ∧ y.1 = sealS x.1 ∧ Lies (fun b => w.heap.size ≤ b) w' y ∧ Ex w.heap.size none w w' := by
  obtain ⟨s, ⟨lo, ln, lc⟩, ⟨po, pn, pc⟩⟩ := x
  refine (sealP_any s lo po ln lc pn pc w h ht).mono ?_
  rintro e w' ⟨la, na, ca, pa, np, cp, rfl, hl, hex⟩
  exact ⟨(sealS s, ⟨la, na, ca⟩, ⟨pa, np, cp⟩), rfl, rfl, hl, hex⟩
set_option maxRecDepth 100000 in
theorem results_stv {fn : Func} {p u : Tmp} (h : fn.results = #[.cell p 33, .tmp u]) (tmps : Array Value) (w : World) {a : Addr} {v u' : Value} (ha : tmps.getD p undef = .pointer (some a)) (hu : tmps.getD u undef = u') (hr : (rowLoad 33 a).run Try.prog w = .ok v w) : (results fn tmps).run Try.prog w = .ok (.tuple #[v, u']) w := by
  rw [results_cell_tmp h, ha, hu]
  have e : (asAddr (.pointer (some a))).run Try.prog w = .ok a w := rfl
  rw [e]
  show ((rowLoad 33 a).run Try.prog w).andThen _ = _
  rw [hr]
  simp only [Result.andThen]
theorem Ex.thenW {a b c : World} (h : Ex a.heap.size none a b) (k : Ex b.heap.size none b c) : Ex a.heap.size none a c := h.trans k h.size (by simp)
end Go.Proofs.Ytaakacahblndcaa
