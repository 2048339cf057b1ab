/- ref34.All at whatever statements: a contract, no statement of the seat. -/
import Derived.Test.YtaghfcnpnfhacaaGreatMg08
import Derived.Test.YtaghfcnpnfhacaaGreatOf34G
namespace Go.Proofs.YtaghfcnpnfhacaaGreat
open Go.RowKit Go.Maps Go.Sort

/-- What the box of the last guardians holds. -/
def LastIn (x : Option GuardD) (P : Nat → Prop) (w : World) (o nd : Int) (v : Sv) : Prop := x = none ∨ ∃ gs, x = some (o, nd, gs) ∧ LieG P w ((o, nd, gs), v)
theorem LastIn.keep {x : Option GuardD} {P : Nat → Prop} {w w' : World} {o nd : Int} {v : Sv} (h : LastIn x P w o nd v) (hx : ∀ b, P b → b < w.heap.size → w'.heap[b]? = w.heap[b]?) : LastIn x P w' o nd v := by
  rcases h with h | ⟨gs, h, hl⟩
  · exact .inl h
  · exact .inr ⟨gs, h, hl.keep hx⟩

set_option maxHeartbeats 16000000 in
set_option maxRecDepth 100000 in
theorem all34_any {P : Nat → Prop} (v : Value) (l : List St) (w : World) (hv : Sl stRep P w v l) (hm : l.length ≤ 100000) (hL : LightL 9223372036854775807 l) :
    Calls Tryz.prog 78 #[v] w fun e w' => ∃ (ro : Option Addr) (rc n : Nat), e = .returned (.slice ro n rc) ∧ (guardsTo l 64).length = n ∧ Sl guardRep (fun _ => True) w' (.slice ro n rc) (guardsTo l 64) ∧ Ex w.heap.size none w w' := by
  obtain ⟨ao, cap, rfl, hx⟩ := hv
  have HX := Lib.hid hx
  have HLL := Lib.hid hL
  clear hx hL
  go_enter Tryz.func78, Tryz.ntmps78
  go_wp2_with fail
  go_loopw [3, 4, 5, 6, 7, 8, 9] (fun u kv _ _ _ _ _ wr => ∃ (k n : Nat) (ro : Option Addr) (rc : Nat) (ys : List (GuardD × Sv)), kv = .int .i64 k ∧ k ≤ 64 ∧ n ≤ k ∧ u = .slice ro n rc ∧ Hid (ys.length = n) ∧ Hid (ys.map (·.1) = guardsTo l k) ∧ Hid (OwnE gE 3 113 wr w.heap.size ro rc ys) ∧ Hid (∀ y ∈ ys, LieG (fun b => rowOf ro ≠ some b) wr y) ∧ Ex w.heap.size none w wr) (fun _ kv _ _ _ _ _ _ => 64 - (intOf kv).toNat)
  case atStart => exact ⟨0, 0, none, 0, [], rfl, by omega, by omega, rfl, Lib.hid rfl, Lib.hid rfl, Lib.hid (OwnE.nil _ _ _ _ _), Lib.hid (fun y hy => by cases hy), Ex.refl _ _ _⟩
  case round =>
    obtain ⟨k, n, ro, rc, ys, rfl, hk, hn, rfl, HYN, HYS, HO, HLY, hex⟩ := hrel
    have hsz := hex.size
    have HEX := Lib.hid hex
    clear hex
    by_cases h64 : k < 64
    · have hkI : (k : Int) < 64 := by omega
      obtain ⟨wk, hwk⟩ : ∃ wk : World, wk = wr := ⟨_, rfl⟩
      subst hwk
      go_upto_region 6 with (fail)
      obtain ⟨w1, hw1⟩ : ∃ w1 : World, w1 = wk.alloc (.cells #[.int .i64 0, .int .i64 0, .slice none 0 0] 113) := ⟨_, rfl⟩
      have HE1 : Hid (Ex wk.heap.size none wk w1) := Lib.hid (by rw [hw1]; exact Ex.new _ _)
      have hz1 : w1.heap.size = wk.heap.size + 1 := by rw [hw1]; simp
      have HB1 : Hid (w1.heap[wk.heap.size]? = some (.cells #[.int .i64 0, .int .i64 0, .slice none 0 0] 113 (0, 0))) := Lib.hid (by rw [hw1]; exact heap_alloc_new _ _)
      rw [← hw1]
      clear hw1
      go_wp2_with fail
      go_loopw [6, 7, 8, 9] (fun okv iv _ _ wr => ∃ (i : Nat) (o nd : Int) (ga : Option Addr) (gl gc : Nat), iv = .int .i64 i ∧ i ≤ l.length ∧ okv = .bool (lastG (l.take i) k).isSome ∧ Hid (wr.heap[wk.heap.size]? = some (.cells #[.int .i64 o, .int .i64 nd, .slice ga gl gc] 113 (0, 0))) ∧ Hid (LastIn (lastG (l.take i) k) (fun b => wk.heap.size < b) wr o nd ⟨ga, gl, gc⟩) ∧ Ex wk.heap.size none wk wr) (fun _ iv _ _ _ => l.length - (intOf iv).toNat)
      case atStart => exact ⟨0, 0, 0, none, 0, 0, rfl, by omega, rfl, HB1, Lib.hid (.inl rfl), HE1.out⟩
      case round =>
        obtain ⟨i, o, nd, ga, gl, gc, rfl, hi, rfl, HB, HLI, hexi⟩ := hrel
        have hszi := hexi.size
        have HEI := Lib.hid hexi
        have hgb : wk.heap.size < wr.heap.size := (Array.getElem?_eq_some_iff.1 HB.out).1
        clear hexi
        obtain ⟨okb, hokb⟩ : ∃ okb, okb = (lastG (l.take i) k).isSome := ⟨_, rfl⟩
        have HOK : Hid ((lastG (l.take i) k).isSome = okb) := Lib.hid hokb.symm
        rw [← hokb]
        clear hokb
        have HKB : Hid (∀ w', Ex wr.heap.size none wr w' → Hid (w'.heap[wk.heap.size]? = some (.cells #[.int .i64 o, .int .i64 nd, .slice ga gl gc] 113 (0, 0)))) := Lib.hid (fun w' h => Lib.hid ((h.block _ hgb (by simp)).trans HB.out))
        have HKG : Hid (∀ w', Ex wr.heap.size none wr w' → Hid (LastIn (lastG (l.take i) k) (fun b => wk.heap.size < b) w' o nd ⟨ga, gl, gc⟩)) := Lib.hid (fun w' h => Lib.hid (HLI.out.keep fun b _ hb => h.block b hb (by simp)))
        by_cases hlt : i < l.length
        · have hltI : (i : Int) < (l.length : Int) := by omega
          obtain ⟨b, off, s, ⟨lo, ln, lc⟩, ⟨po, pn, pc⟩, rfl, _, hls, hr, HXs⟩ := st_get (HX.out.keep (by decide) (fun b _ hb => (HEI.out.block b (by omega) (by simp)).trans (HEX.out.block b hb (by simp)))) i hlt
          have HLG : Hid (s.list.length ≤ 9223372036854775807 ∧ s.pins.length ≤ 9223372036854775807) := Lib.hid (HLL.out s (List.mem_of_getElem? HXs.out))
          have hc := st_at hr
          simp only [Sv.v] at hc
          obtain ⟨c0, c1, c2, c3, c4, c5, c6, c7, c8, c9, c10, c11, c12⟩ := hc
          have HLS := Lib.hid hls
          clear hls hr
          by_cases hka : s.author = (k : Int)
          case neg =>
            have HLN1 : Hid (lastG (l.take (i + 1)) (k : Int) = lastG (l.take i) (k : Int)) := Lib.hid (lastG_no HXs.out (.inr hka))
            have ka : (s.author != (k : Int)) = true := by simp [hka]
            clear hka
            go_wp2_with fail
            go_roundw
            case rel => exact ⟨i + 1, o, nd, ga, gl, gc, by go_num, by omega, by rw [HLN1.out, HOK.out], HB, by rw [HLN1.out]; exact HLI, HEI.out⟩
            case measure => simp [intOf] <;> omega
          have ka : (s.author != (k : Int)) = false := by simp [hka]
          have HKA := Lib.hid hka
          clear hka
          cases hg : guardB s with
          | false =>
            have HLN1 : Hid (lastG (l.take (i + 1)) (k : Int) = lastG (l.take i) (k : Int)) := Lib.hid (lastG_no HXs.out (.inl hg))
            go_upto_region 12 with (first
              | (go_at_call 155; refine (of34_any s lo po ln lc pn pc _ HLS.out HLG.out).mono ?_; rintro e w2 ⟨go, gn, a2, l2, cc2, er, rfl, hof, hex2⟩; have HER := Lib.hid (hof.no hg); have HE2 := Lib.hid hex2; have hz2 : wr.heap.size ≤ w2.heap.size := hex2.size; clear hof hex2 c0 c1 c2 c3 c4 c5 c6 c7 c8 c9 c10 c11 c12)
              | fail)
            have ker : (er == 0) = false := by simpa using HER.out
            obtain ⟨w3, hw3⟩ : ∃ w3 : World, w3 = w2.alloc (.cells #[.int .i64 go, .int .i64 gn, .slice a2 l2 cc2] 113) := ⟨_, rfl⟩
            have HE3 : Hid (Ex wr.heap.size none wr w3) := Lib.hid (by rw [hw3]; exact HE2.out.alloc (by omega) _)
            rw [← hw3]
            clear hw3
            go_wp2_with fail
            go_roundw
            case rel => exact ⟨i + 1, o, nd, ga, gl, gc, by go_num, by omega, by rw [HLN1.out, HOK.out], HKB.out _ HE3.out, by rw [HLN1.out]; exact HKG.out _ HE3.out, HEI.out.trans HE3.out hszi (by simp)⟩
            case measure => simp [intOf] <;> omega
          | true =>
            have HLY1 : Hid (lastG (l.take (i + 1)) (k : Int) = some (s.author, s.a, s.list)) := Lib.hid (lastG_yes HXs.out hg HKA.out)
            go_upto_region 12 with (first
              | (go_at_call 155; refine (of34_any s lo po ln lc pn pc _ HLS.out HLG.out).mono ?_; rintro e w2 ⟨go, gn, a2, l2, cc2, er, rfl, hof, hex2⟩; obtain ⟨rfl, rfl, rfl, hsl⟩ := hof.yes hg; have HSL := Lib.hid hsl; have HE2 := Lib.hid hex2; have hz2 : wr.heap.size ≤ w2.heap.size := hex2.size; clear hof hsl hex2 c0 c1 c2 c3 c4 c5 c6 c7 c8 c9 c10 c11 c12)
              | fail)
            obtain ⟨w3, hw3⟩ : ∃ w3 : World, w3 = w2.alloc (.cells #[.int .i64 s.author, .int .i64 s.a, .slice a2 l2 cc2] 113) := ⟨_, rfl⟩
            have HE3 : Hid (Ex wr.heap.size none wr w3) := Lib.hid (by rw [hw3]; exact HE2.out.alloc (by omega) _)
            have hz3 : w3.heap.size = w2.heap.size + 1 := by rw [hw3]; simp
            have HSL3 : Hid (Sl intRep (fun b => wr.heap.size ≤ b) w3 (.slice a2 l2 cc2) s.list) := Lib.hid (by rw [hw3]; exact HSL.out.keep (by decide) fun b _ hb => at_old _ _ _ hb)
            obtain ⟨g0, g1, g2⟩ : w3.cell? ⟨w2.heap.size, 0, none⟩ = some (.int .i64 s.author) ∧ w3.cell? ⟨w2.heap.size, 1, none⟩ = some (.int .i64 s.a) ∧ w3.cell? ⟨w2.heap.size, 2, none⟩ = some (.slice a2 l2 cc2) := by
              have q : w3.heap[w2.heap.size]? = some (.cells #[.int .i64 s.author, .int .i64 s.a, .slice a2 l2 cc2] 113 (0, 0)) := by rw [hw3]; exact heap_alloc_new _ _
              refine ⟨?_, ?_, ?_⟩ <;> (rw [cell_of_row _ _ _ _ _ _ q]; rfl)
            rw [← hw3]
            clear hw3
            have hrb := (HKB.out _ HE3.out).out
            go_wp2_with (first | (refine wpList_store_rowTo rfl 113 (.tmp 5) (.tmp 37) rfl rfl wk.heap.size #[.int .i64 s.author, .int .i64 s.a, .slice a2 l2 cc2] (by rfl) (by rfl) 113 _ hrb Tryz.sizeG rfl (by simp [Value.oneCell']) ?_) | fail)
            go_roundw
            case rel => exact ⟨i + 1, s.author, s.a, a2, l2, cc2, by go_num, by omega, by rw [HLY1.out]; rfl, Lib.hid (setRow_heap _ _ _ _ _ _ hrb), Lib.hid (.inr ⟨s.list, HLY1.out, (HSL3.out.keep (by decide) fun b h _ => setRow_other _ _ _ _ (by omega)).mono (by decide) fun b h _ => by omega⟩), (HEI.out.trans HE3.out hszi (by simp)).setRow _ _ (.inr (Nat.le_refl _))⟩
            case measure => simp [intOf] <;> omega
        · have hltI : ¬ (i : Int) < (l.length : Int) := by omega
          have HTK : Hid (l.take i = l) := Lib.hid (List.take_of_length_le (by omega))
          have HSN := Lib.hid (guardsTo_succ l k)
          clear hlt
          obtain ⟨g0, g1, g2⟩ : wr.cell? ⟨wk.heap.size, 0, none⟩ = some (.int .i64 o) ∧ wr.cell? ⟨wk.heap.size, 1, none⟩ = some (.int .i64 nd) ∧ wr.cell? ⟨wk.heap.size, 2, none⟩ = some (.slice ga gl gc) := by
            refine ⟨?_, ?_, ?_⟩ <;> (rw [cell_of_row _ _ _ _ _ _ HB.out]; rfl)
          cases okb with
          | false =>
            have HN1 : Hid (guardsTo l (k + 1) = guardsTo l k) := Lib.hid (by
              have h := HOK.out
              rw [HTK.out] at h
              rw [HSN.out]
              cases hl : lastG l (k : Int) with
              | none => simp
              | some y => rw [hl] at h; cases h)
            go_wp2_with fail
            go_roundw
            case rel => exact ⟨k + 1, n, ro, rc, ys, by go_num, by omega, by omega, rfl, HYN, Lib.hid (by rw [HN1.out]; exact HYS.out), Lib.hid (HO.out.keep HEI.out (Nat.le_refl _) (by simp)), Lib.hid (fun y hy => (HLY.out y hy).keep fun b _ hb => HEI.out.block b hb (by simp)), HEX.out.trans HEI.out hsz (by simp)⟩
            case measure => simp [intOf] <;> omega
          | true =>
            obtain ⟨gs, hgs, hlg⟩ : ∃ gs, lastG l (k : Int) = some (o, nd, gs) ∧ LieG (fun b => wk.heap.size < b) wr ((o, nd, gs), ⟨ga, gl, gc⟩) := by
              have h := HLI.out
              have h1 := HOK.out
              rw [HTK.out] at h h1
              rcases h with h | h
              · rw [h] at h1; cases h1
              · exact h
            have HLG := Lib.hid hlg
            have HN1 : Hid (guardsTo l (k + 1) = guardsTo l k ++ [(o, nd, gs)]) := Lib.hid (by rw [HSN.out, hgs]; rfl)
            have HROW : Hid (∀ b, rowOf ro = some b → b < wk.heap.size) := Lib.hid (fun b hb => by
              rcases HO.out.cases with ⟨rfl, _, _⟩ | ⟨g, rfl, _, h, _⟩
              · cases hb
              · simp [rowOf] at hb; omega)
            clear hgs hlg
            go_wp2_with (first
              | (at_builtin; refine wpList_appE2 rfl (.tmp 39) (.tmp 41) _ 113 (by rfl) Tryz.underlying122 _ 3 40 Tryz.infoG rfl (by decide) (by decide) gE gE_len one_gE w.heap.size ro rc n ys HYN.out (by rfl) (some ⟨wr.heap.size, 0, none⟩) 1 1 (by rfl) [((o, nd, gs), ⟨ga, gl, gc⟩)] rfl ((HO.out.keep HEI.out (Nat.le_refl _) (by simp)).keep (Ex.new wr _) (Nat.le_refl _) (by simp)) (lit_cells (by rfl)) (by omega) (by simp; omega) (n + 1) (by omega) ?_
                 intro ro2 rc2 w4 hown4 hex4 hb4 hr4
                 have H4 : Hid (OwnE gE 3 113 w4 w.heap.size ro2 rc2 (ys ++ [((o, nd, gs), ⟨ga, gl, gc⟩)]) ∧ Ex w.heap.size none w w4) := Lib.hid ⟨hown4, ((HEX.out.trans HEI.out hsz (by simp)).trans (Ex.new wr _) (by omega) (by simp)).trans hex4 (Nat.le_refl _) (by simp)⟩
                 have HAT : Hid (∀ b, b < wr.heap.size → rowOf ro ≠ some b → w4.heap[b]? = wr.heap[b]? ∧ rowOf ro2 ≠ some b) := Lib.hid (fun b hb hne => ⟨(hb4 b (by simp; omega) hne).trans (at_old _ _ _ hb), fun e => by
                   rcases hr4 with h | h
                   · rw [h] at e; exact hne e
                   · rw [h] at e; simp at e; omega⟩)
                 clear hown4 hex4 hb4 hr4)
              | fail)
            go_roundw
            case rel => exact ⟨k + 1, n + 1, ro2, rc2, ys ++ [((o, nd, gs), ⟨ga, gl, gc⟩)], by go_num, by omega, by omega, rfl, Lib.hid (by rw [List.length_append, HYN.out]; rfl), Lib.hid (by rw [HN1.out, List.map_append, HYS.out]; rfl), Lib.hid H4.out.1, Lib.hid (fun y hy => by
              rcases List.mem_append.1 hy with hy | hy
              · have h1 := ((HLY.out y hy).mono (P' := fun b => rowOf ro ≠ some b ∧ b < wk.heap.size) fun b h hb => ⟨h, hb⟩).keep (w' := wr) fun b _ hb => HEI.out.block b hb (by simp)
                exact (h1.keep fun b h hb => (HAT.out b (by omega) h.1).1).mono fun b h _ => (HAT.out b (by omega) h.1).2
              · rw [List.mem_singleton.1 hy]
                have hr : ∀ b, wk.heap.size < b → rowOf ro ≠ some b := fun b h e => by have := HROW.out b e; omega
                have h1 := HLG.out.mono (P' := fun b => wk.heap.size < b ∧ b < wr.heap.size) fun b h hb => ⟨h, hb⟩
                exact (h1.keep fun b h hb => (HAT.out b h.2 (hr b h.1)).1).mono fun b h _ => (HAT.out b h.2 (hr b h.1)).2), H4.out.2⟩
            case measure => simp [intOf] <;> omega
    · have hkI : ¬ (k : Int) < 64 := by omega
      have h64e : k = 64 := by omega
      have HYE : Hid (ys.map (·.1) = guardsTo l 64) := Lib.hid (by rw [← h64e]; exact HYS.out)
      clear h64e
      have HNL : Hid ((guardsTo l 64).length = n) := Lib.hid (by rw [← HYE.out, List.length_map]; exact HYN.out)
      have HSA : Hid (SlAt guardRep (fun _ => True) wr ro (guardsTo l 64)) := Lib.hid (by
        rw [← HYE.out]
        exact own_g_sl HO.out fun y hy => (HLY.out y hy).mono fun _ _ _ => trivial)
      go_wp2
      go_ret
      exact ⟨ro, rc, n, rfl, HNL.out, ⟨ro, rc, by rw [HNL.out], HSA.out⟩, HEX.out⟩
end Go.Proofs.YtaghfcnpnfhacaaGreat
