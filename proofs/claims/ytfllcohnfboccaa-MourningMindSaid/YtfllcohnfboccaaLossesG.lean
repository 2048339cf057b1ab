/- mourning.losses at statements of losses that are right. No statement of the seat. -/
import Derived.Test.YtfllcohnfboccaaMg00
import Derived.Test.YtfllcohnfboccaaMg08
import Derived.Test.YtfllcohnfboccaaMg12
import Derived.Test.YtfllcohnfboccaaDraftPG
import Derived.Maps.OwnOps
namespace Go.Proofs.Ytfllcohnfboccaa
open Go.RowKit Go.Maps Go.Sort

def votes (l : List St) : List (Int × Int) := l.map fun s => (s.author, s.b)
theorem votes_snoc {l : List St} {k : Nat} {s : St} (h : l[k]? = some s) : votes (l.take (k + 1)) = votes (l.take k) ++ [(s.author, s.b)] := by
  unfold votes; rw [List.take_add_one, h]; simp
set_option maxHeartbeats 8000000 in
set_option maxRecDepth 100000 in
theorem losses_any {P : Nat → Prop} (v : Value) (l : List St) (lost : Int) (w : World) (hv : Sl stRep P w v l) (hm : l.length ≤ 10000) (hok : ∀ s ∈ l, LossOK s ∧ sealedB s = true ∧ Tame s ∧ s.a = lost) :
    Calls Try.prog 36 #[v] w fun e w' => ∃ g, e = .returned (.map (some g)) ∧ w'.ownsMap Try.prog 97 (plainElem Try.prog 3) g l.length (mapD lost (votes l)) ∧ Ex w.heap.size none w w' := by
  obtain ⟨ao, cap, rfl, hx⟩ := hv
  have HX := Lib.hid hx
  have HOK := Lib.hid hok
  clear hx hok
  have hmm := @run_makeMap Try.prog
  go_enter Try.func36, Try.ntmps36
  go_upto_region 2 with (fail)
  obtain ⟨w1, hw1⟩ : ∃ w1 : World, w1 = w.alloc (.map #[] 0) := ⟨_, rfl⟩
  have HM0 : Hid (w1.ownsMap Try.prog 97 (plainElem Try.prog 3) w.heap.size 0 (mapD lost (votes (l.take 0)))) := Lib.hid (by rw [hw1]; exact World.ownsMap_made _ _ _ _)
  have HE1 : Hid (Ex w.heap.size none w w1) := Lib.hid (by rw [hw1]; exact Ex.new _ _)
  rw [← hw1]
  clear hw1 hmm
  go_wp2_with fail
  go_loopw [5, 6, 10] (fun _ _ i wr => ∃ k : Nat, i = .int .i64 k ∧ k ≤ l.length ∧ Hid (wr.ownsMap Try.prog 97 (plainElem Try.prog 3) w.heap.size k (mapD lost (votes (l.take k)))) ∧ Ex w.heap.size none w wr) (fun _ _ i _ => l.length - (intOf i).toNat)
  case atStart => exact ⟨0, rfl, by omega, HM0, HE1.out⟩
  case round =>
    obtain ⟨k, rfl, hk, HM, hex⟩ := hrel
    have hsz := hex.size
    have HEX := Lib.hid hex
    by_cases hlt : k < l.length
    · have hltI : (k : Int) < (l.length : Int) := by omega
      obtain ⟨b, off, s, ⟨lo, ln, lc⟩, ⟨po, pn, pc⟩, rfl, _, hls, hr, HXs⟩ := st_get (HX.out.keep (by decide) (fun b _ hb => hex.block b hb (by simp))) k hlt
      obtain ⟨h1, h2, h3, h4⟩ := HOK.out s (List.mem_of_getElem? HXs.out)
      have HLO := Lib.hid h1
      have HSE := Lib.hid h2
      have HTA := Lib.hid h3
      have hln : ln = 0 := by obtain ⟨⟨_, _, e, _⟩, _⟩ := hls; simp only [Sv.v] at e; cases e; rw [h1.list]; rfl
      have hpn : pn = 0 := by obtain ⟨_, ⟨_, _, e, _⟩⟩ := hls; simp only [Sv.v] at e; cases e; rw [h1.pins]; rfl
      subst hln hpn
      have hc := st_at hr
      simp only [Sv.v] at hc
      obtain ⟨c0, c1, c2, c3, c4, c5, c6, c7, c8, c9, c10, c11, c12⟩ := hc
      have HLS := Lib.hid hls
      have k1 : (s.kind != 13) = false := by rw [h1.kind]; rfl
      have k2 : (s.c != 0) = false := by rw [h1.c]; rfl
      have k3 : s.body.toList = [] := by rw [h1.body]; exact ByteArray.toList_eq _
      have HNE := Lib.hid h4
      have HMS : Hid (mapD lost (votes (l.take (k + 1))) = (mapD lost (votes (l.take k))).put (keyL s.author lost) (.lit (.int .i64 s.b))) := Lib.hid (by rw [votes_snoc HXs.out, mapD_snoc])
      clear h1 h2 h3 h4 hls hr hex
      go_upto_region 6 with (fail)
      obtain ⟨ws, hws⟩ : ∃ ws : World, ws = (wr.alloc (.cells #[.int .i64 s.author, .int .i64 s.number, .string s.prev, .int .i64 s.time, .int .i64 s.kind, .int .i64 s.a, .int .i64 s.b, .int .i64 s.c, .slice lo 0 lc, .slice po 0 pc, .string s.body, .int .i64 s.key, .string s.dig] 40)).alloc (.cells #[.int .i64 s.a, .int .i64 s.b] 36) := ⟨_, rfl⟩
      have HEs : Hid (Ex wr.heap.size none wr ws) := Lib.hid (by rw [hws]; exact ex_two0 _ _)
      have hzs : ws.heap.size = wr.heap.size + 2 := by rw [hws]; simp
      have HQ : Hid (∀ w', Ex ws.heap.size none ws w' → (w'.cell? ⟨wr.heap.size, 0, none⟩ = some (.int .i64 s.author) ∧ w'.cell? ⟨wr.heap.size, 1, none⟩ = some (.int .i64 s.number) ∧ w'.cell? ⟨wr.heap.size, 2, none⟩ = some (.string s.prev) ∧ w'.cell? ⟨wr.heap.size, 3, none⟩ = some (.int .i64 s.time) ∧ w'.cell? ⟨wr.heap.size, 4, none⟩ = some (.int .i64 s.kind) ∧ w'.cell? ⟨wr.heap.size, 5, none⟩ = some (.int .i64 s.a) ∧ w'.cell? ⟨wr.heap.size, 6, none⟩ = some (.int .i64 s.b) ∧ w'.cell? ⟨wr.heap.size, 7, none⟩ = some (.int .i64 s.c) ∧ w'.cell? ⟨wr.heap.size, 8, none⟩ = some (.slice lo 0 lc) ∧ w'.cell? ⟨wr.heap.size, 9, none⟩ = some (.slice po 0 pc) ∧ w'.cell? ⟨wr.heap.size, 10, none⟩ = some (.string s.body) ∧ w'.cell? ⟨wr.heap.size, 11, none⟩ = some (.int .i64 s.key) ∧ w'.cell? ⟨wr.heap.size, 12, none⟩ = some (.string s.dig)) ∧ w'.cell? ⟨wr.heap.size + 1, 0, none⟩ = some (.int .i64 s.a) ∧ w'.cell? ⟨wr.heap.size + 1, 1, none⟩ = some (.int .i64 s.b)) := Lib.hid (fun w' h => by
        have q1 : w'.heap[wr.heap.size]? = some (.cells #[.int .i64 s.author, .int .i64 s.number, .string s.prev, .int .i64 s.time, .int .i64 s.kind, .int .i64 s.a, .int .i64 s.b, .int .i64 s.c, .slice lo 0 lc, .slice po 0 pc, .string s.body, .int .i64 s.key, .string s.dig] 40 (0, 0)) := (h.block _ (by omega) (by simp)).trans (by rw [hws]; exact heap_alloc2_old _ _ _)
        have q2 : w'.heap[wr.heap.size + 1]? = some (.cells #[.int .i64 s.a, .int .i64 s.b] 36 (0, 0)) := (h.block _ (by omega) (by simp)).trans (by rw [hws]; exact heap_alloc2_new _ _ _)
        exact ⟨(st_block q1).1, by rw [cell_of_row _ _ _ _ _ _ q2]; rfl, by rw [cell_of_row _ _ _ _ _ _ q2]; rfl⟩)
      rw [← hws]
      clear hws c0 c1 c2 c3 c4 c5 c6 c7 c8 c9 c10 c11 c12
      obtain ⟨⟨d0, d1, d2, d3, d4, d5, d6, d7, d8, d9, d10, d11, d12⟩, e0, e1⟩ := HQ.out _ (Ex.refl _ _ ws)
      go_wp2_with fail
      refine (rightYes_any s.a s.b _ (by have := HLO.out.a; omega) (by have := HLO.out.b; omega) HLO.out.ne).mono ?_
      rintro e w2 ⟨rfl, hex2⟩
      have HE2 := Lib.hid hex2
      clear hex2 d0 d1 d2 d3 d4 d5 d6 d7 d8 d9 d10 d11 d12 e0 e1
      obtain ⟨⟨d0, d1, d2, d3, d4, d5, d6, d7, d8, d9, d10, d11, d12⟩, e0, e1⟩ := HQ.out _ HE2.out
      go_wp2_with fail
      refine (checkLoss_any s lo po lc pc _ HLO.out).mono ?_
      rintro e w3 ⟨rfl, hex3⟩
      have HE3 : Hid (Ex ws.heap.size none ws w3) := Lib.hid (HE2.out.trans hex3 HE2.out.size (by simp))
      clear hex3 d0 d1 d2 d3 d4 d5 d6 d7 d8 d9 d10 d11 d12 e0 e1
      obtain ⟨⟨d0, d1, d2, d3, d4, d5, d6, d7, d8, d9, d10, d11, d12⟩, e0, e1⟩ := HQ.out _ HE3.out
      go_wp2_with fail
      refine (sealedP_any s lo po 0 lc 0 pc _ (HLS.out.keep fun b _ hb => (HE3.out.block b (by omega) (by simp)).trans (HEs.out.block b hb (by simp))) HTA.out).mono ?_
      rw [HSE.out]
      rintro e w4 ⟨rfl, hex4⟩
      have HE4 : Hid (Ex ws.heap.size none ws w4) := Lib.hid (HE3.out.trans hex4 HE3.out.size (by simp))
      clear hex4 d0 d1 d2 d3 d4 d5 d6 d7 d8 d9 d10 d11 d12 e0 e1
      obtain ⟨⟨d0, d1, d2, d3, d4, d5, d6, d7, d8, d9, d10, d11, d12⟩, e0, e1⟩ := HQ.out _ HE4.out
      have HER : Hid (Ex wr.heap.size none wr w4) := Lib.hid (HEs.out.trans HE4.out (by omega) (by simp))
      have HM4 : Hid (w4.ownsMap Try.prog 97 (plainElem Try.prog 3) w.heap.size k (mapD lost (votes (l.take k)))) := Lib.hid (by
        obtain ⟨es, clock, q1, q2⟩ := HM.out
        exact ⟨es, clock, (HER.out.block _ (HM.out.lt) (by simp)).trans q1, q2⟩)
      go_wp2_with (at_mapUpdate; refine wpList_mapUpdate_own _ rfl _ _ _ _ rfl 97 3 Try.keyedLoss Try.underlying72 _ w.heap.size k _ (by rfl) HM4.out (by unfold maxLen; omega) _ _ (keyL s.author lost) (by rfl) (by rfl) (by rw [← HNE.out]; exact keyOf_loss s.author s.a (by have := HLO.out.author; omega) (by have := HLO.out.a; omega)) _ [] (plainElem_int Try.underlying3 (WalkArith.wf_i64 (by have := HLO.out.b; omega))) ?_; intro w5 hown5 hgrow5)
      go_roundw
      case rel => exact ⟨k + 1, by go_num, by omega, Lib.hid (by rw [HMS.out]; exact hown5), (HEX.out.trans HER.out hsz (by simp)).grown hgrow5 (by have := HER.out.size; omega) (by simp)⟩
      case measure => simp [intOf] <;> omega
    · have hkl : k = l.length := by omega
      have hltI : ¬ (k : Int) < (l.length : Int) := by omega
      have HF : Hid (wr.ownsMap Try.prog 97 (plainElem Try.prog 3) w.heap.size l.length (mapD lost (votes l))) := Lib.hid (by have h := HM.out; rw [hkl, List.take_length] at h; exact h)
      clear hkl hex
      go_wp2
      go_ret
      exact ⟨w.heap.size, rfl, HF.out, HEX.out⟩
end Go.Proofs.Ytfllcohnfboccaa
