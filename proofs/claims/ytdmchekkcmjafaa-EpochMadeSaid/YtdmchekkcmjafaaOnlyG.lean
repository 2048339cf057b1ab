/- The program's epoch.only: a contract, no statement of the seat. -/
import Derived.Test.YtdmchekkcmjafaaMg07
import Derived.Deep.RegionLaw
import Derived.Outline
import Derived.OwnWalk
namespace Go.Proofs.Ytdmchekkcmjafaa
open Go.RowKit Go.Sort

theorem st_block {w : World} {g : Nat} {s : St} {lo po : Option Addr} {ln lc pn pc : Nat} {t : TypeId} (h : w.heap[g]? = some (.cells #[.int .i64 s.author, .int .i64 s.number, .string s.prev, .int .i64 s.time, .int .i64 s.kind, .int .i64 s.a, .int .i64 s.b, .int .i64 s.c, .slice lo ln lc, .slice po pn pc, .string s.body, .int .i64 s.key, .string s.dig] t (0, 0))) :
    (w.cell? ⟨g, 0, none⟩ = some (.int .i64 s.author) ∧ w.cell? ⟨g, 1, none⟩ = some (.int .i64 s.number) ∧ w.cell? ⟨g, 2, none⟩ = some (.string s.prev) ∧ w.cell? ⟨g, 3, none⟩ = some (.int .i64 s.time) ∧
    w.cell? ⟨g, 4, none⟩ = some (.int .i64 s.kind) ∧ w.cell? ⟨g, 5, none⟩ = some (.int .i64 s.a) ∧ w.cell? ⟨g, 6, none⟩ = some (.int .i64 s.b) ∧ w.cell? ⟨g, 7, none⟩ = some (.int .i64 s.c) ∧
    w.cell? ⟨g, 8, none⟩ = some (.slice lo ln lc) ∧ w.cell? ⟨g, 9, none⟩ = some (.slice po pn pc) ∧ w.cell? ⟨g, 10, none⟩ = some (.string s.body) ∧ w.cell? ⟨g, 11, none⟩ = some (.int .i64 s.key) ∧ w.cell? ⟨g, 12, none⟩ = some (.string s.dig)) ∧ ∀ o, w.frozen? ⟨g, o, none⟩ = false := by
  refine ⟨⟨?_, ?_, ?_, ?_, ?_, ?_, ?_, ?_, ?_, ?_, ?_, ?_, ?_⟩, fun o => by simp [World.frozen?, h]⟩ <;> (rw [cell_of_row _ _ _ _ _ _ h]; rfl)
/-- The block of a statement behind the two stores. -/
theorem fin_block {w : World} {g : Nat} {s : St} {lo po : Option Addr} {ln lc pn pc : Nat} {t : TypeId} (la pa : Option Addr) (na ca np cp : Nat) (h : w.heap[g]? = some (.cells #[.int .i64 s.author, .int .i64 s.number, .string s.prev, .int .i64 s.time, .int .i64 s.kind, .int .i64 s.a, .int .i64 s.b, .int .i64 s.c, .slice lo ln lc, .slice po pn pc, .string s.body, .int .i64 s.key, .string s.dig] t (0, 0))) :
    ((w.setCell ⟨g, 8, none⟩ (.slice la na ca)).setCell ⟨g, 9, none⟩ (.slice pa np cp)).heap[g]? = some (.cells #[.int .i64 s.author, .int .i64 s.number, .string s.prev, .int .i64 s.time, .int .i64 s.kind, .int .i64 s.a, .int .i64 s.b, .int .i64 s.c, .slice la na ca, .slice pa np cp, .string s.body, .int .i64 s.key, .string s.dig] t (0, 0)) := by
  rw [heap_setCell_same _ _ _ _ _ _ (heap_setCell_same _ _ _ _ _ _ h)]; rfl
/-- What is asked of a test that is handed in. -/
def TestAt (f : Nat) (cb : Array Value) (w0 : World) (p : St → Bool) : Prop :=
  ∀ (w : World) (s : St) (lo po : Option Addr) (ln lc pn pc : Nat), Ex w0.heap.size none w0 w → Calls Try.prog f (#[.agg #[.int .i64 s.author, .int .i64 s.number, .string s.prev, .int .i64 s.time, .int .i64 s.kind, .int .i64 s.a, .int .i64 s.b, .int .i64 s.c, .slice lo ln lc, .slice po pn pc, .string s.body, .int .i64 s.key, .string s.dig]] ++ cb) w fun e w' => e = .returned (.bool (p s)) ∧ Ex w.heap.size none w w'

set_option maxHeartbeats 4000000 in
set_option maxRecDepth 100000 in
theorem only_any {P : Nat → Prop} (v : Value) (l : List St) (f : Nat) (cb : Array Value) (p : St → Bool) (w : World) (hv : Sl stRep P w v l) (hm : l.length ≤ 100000) (hl : LightL 1000000 l)
    (ef : ∀ args w, (callFunc f args).run Try.prog w = .ok (.enter f args) w) (ht : TestAt f cb w p) :
    Calls Try.prog 26 #[v, .func (.func f) #[] cb] w fun e w' => ∃ ro rc, e = .returned (.slice ro (l.filter p).length rc) ∧ OwnS w' w.heap.size ro rc (l.filter p) ∧ Ex w.heap.size none w w' := by
  obtain ⟨ao, cap, rfl, hx⟩ := hv
  have HL := Lib.hid hl
  have HT := Lib.hid ht
  clear hl ht
  go_enter Try.func26, Try.ntmps26
  go_wp2
  go_loopw [5, 10] (fun v i wr => ∃ (k : Nat) (ro : Option Addr) (rc : Nat), k ≤ l.length ∧ i = .int .i64 k ∧ v = .slice ro ((l.take k).filter p).length rc ∧ OwnS wr w.heap.size ro rc ((l.take k).filter p) ∧ Ex w.heap.size none w wr) (fun _ i _ => l.length - (intOf i).toNat)
  case atStart => exact ⟨0, none, 0, by omega, rfl, by simp, by simpa using OwnS.nil _ _, Ex.refl _ _ _⟩
  case round =>
    obtain ⟨k, ro, rc, hk, rfl, rfl, hown, hex⟩ := hrel
    have hle := filter_le (p := p) hk
    have hsz := hex.size
    by_cases hlt : k < l.length
    · have fx := hx.keep (by decide) (fun b _ hb => hex.block b hb (by simp))
      obtain ⟨b, off, s, ⟨lo, ln, lc⟩, ⟨po, pn, pc⟩, rfl, _, hls, hr, HX⟩ := st_get fx k hlt
      have hc := st_at hr
      simp only [Sv.v] at hc
      obtain ⟨c0, c1, c2, c3, c4, c5, c6, c7, c8, c9, c10, c11, c12⟩ := hc
      have hm1 := HL.out.get HX.out
      have HLS := Lib.hid hls
      have HO := Lib.hid hown
      clear fx hr hls hown
      cases hp : p s with
      | false =>
        have HK : Hid ((l.take (k + 1)).filter p = (l.take k).filter p) := filter_no HX.out hp
        go_wp2_with fail
        refine (HT.out _ s lo po ln lc pn pc (hex.trans (Ex.new wr _) hsz (by simp))).mono ?_
        rw [hp]
        clear hp
        rintro e w2 ⟨rfl, hex2⟩
        go_wp2
        go_roundw
        case rel => exact ⟨k + 1, ro, rc, by omega, by go_num, by rw [HK.out], by rw [HK.out]; exact HO.out.keep ((Ex.new wr _).trans (hex2.mono (by simp)) (Nat.le_refl _) (by simp)) (Nat.le_refl _), hex.trans ((Ex.new wr _).trans (hex2.mono (by simp)) (Nat.le_refl _) (by simp)) hsz (by simp)⟩
        case measure => simp [intOf] <;> omega
      | true =>
        have HK : Hid ((l.take (k + 1)).filter p = (l.take k).filter p ++ [s]) := filter_yes HX.out hp
        go_wp2_with fail
        refine (HT.out _ s lo po ln lc pn pc (hex.trans (Ex.new wr _) hsz (by simp))).mono ?_
        rw [hp]
        clear hp
        rintro e w2 ⟨rfl, hex2⟩
        have hblk := (hex2.block wr.heap.size (by simp) (by simp)).trans (heap_alloc_new wr _)
        obtain ⟨⟨d0, d1, d2, d3, d4, d5, d6, d7, d8, d9, d10, d11, d12⟩, fz⟩ := st_block hblk
        have hs2 := hex2.size
        simp at hs2
        have hy2 : wr.heap.size < w2.heap.size := by omega
        have hs2' : wr.heap.size ≤ w2.heap.size := by omega
        have HE2 : Hid (Ex wr.heap.size none wr w2) := (Ex.new wr _).trans (hex2.mono (by simp)) (Nat.le_refl _) (by simp)
        have HB := Lib.hid hblk
        clear hex2 hblk c0 c1 c2 c3 c4 c5 c6 c7 c8 c9 c10 c11 c12
        go_wp2_with fail
        go_region_law (first
          | (go_simp
             go_at_call 46
             refine (cloneInts_any lo ln lc s.list _ (by first | exact HLS.out.1.keep (by decide) (fun b _ hb => (HE2.out.drew).block b hb (by simp)) | exact HLS.out.1.keep (by decide) (fun b _ hb => ((HEP.out).drew).block b hb (by simp)) | exact HLS.out.1.keep (by decide) (fun b _ hb => HEP.out.block b hb (by simp))) hm1.1).mono ?_
             rintro e wi ⟨la, na, ca, rfl, hli, hexi⟩
             have HLI := Lib.hid hli
             have HXI := Lib.hid hexi
             have zi : wr.heap.size < wi.heap.size := Nat.lt_of_lt_of_le (by first | exact hy2 | exact zp) hexi.size
             have HEI : Hid (Ex wr.heap.size none wr wi) := (by first | exact (HE2.out.drew).trans hexi hs2' (by simp) | exact ((HEP.out).drew).trans hexi (by omega) (by simp) | exact HEP.out.trans hexi (by omega) (by simp))
             have HBI : Hid (wi.heap[wr.heap.size]? = w2.heap[wr.heap.size]?) := (by first | exact hexi.block wr.heap.size hy2 (by simp) | exact (hexi.block wr.heap.size zp (by simp)).trans HBP.out)
             have bi := st_block (HBI.out.trans HB.out)
             obtain ⟨⟨d0', d1', d2', d3', d4', d5', d6', d7', d8', d9', d10', d11', d12'⟩, fz'⟩ := bi
             clear hli hexi)
          | (go_simp
             go_at_call 47
             refine (clonePins_any po pn pc s.pins _ (by first | exact HLS.out.2.keep (by decide) (fun b _ hb => (HE2.out.drew).block b hb (by simp)) | exact HLS.out.2.keep (by decide) (fun b _ hb => ((HEI.out).drew).block b hb (by simp)) | exact HLS.out.2.keep (by decide) (fun b _ hb => HEI.out.block b hb (by simp))) hm1.2).mono ?_
             rintro e wp ⟨pa, np, cp, rfl, hlp, hexp⟩
             have HLP := Lib.hid hlp
             have HXP := Lib.hid hexp
             have zp : wr.heap.size < wp.heap.size := Nat.lt_of_lt_of_le (by first | exact hy2 | exact zi) hexp.size
             have HEP : Hid (Ex wr.heap.size none wr wp) := (by first | exact (HE2.out.drew).trans hexp hs2' (by simp) | exact ((HEI.out).drew).trans hexp (by omega) (by simp) | exact HEI.out.trans hexp (by omega) (by simp))
             have HBP : Hid (wp.heap[wr.heap.size]? = w2.heap[wr.heap.size]?) := (by first | exact hexp.block wr.heap.size hy2 (by simp) | exact (hexp.block wr.heap.size zi (by simp)).trans HBI.out)
             have bp := st_block (HBP.out.trans HB.out)
             obtain ⟨⟨d0', d1', d2', d3', d4', d5', d6', d7', d8', d9', d10', d11', d12'⟩, fz'⟩ := bp
             clear hlp hexp))
        all_goals
          have hLi : Sl intRep (fun b => wr.heap.size < b) wi (.slice la na ca) s.list := HLI.out.mono (by decide) (fun b hb _ => Nat.lt_of_lt_of_le hy2 hb)
          have hLp : Sl pinRep (fun b => wr.heap.size < b) wp (.slice pa np cp) s.pins := HLP.out.mono (by decide) (fun b hb _ => Nat.lt_of_lt_of_le zi hb)
          have hLi2 := hLi.keep (w' := (wp.setCell ⟨wr.heap.size, 8, none⟩ (.slice la na ca)).setCell ⟨wr.heap.size, 9, none⟩ (.slice pa np cp)) (by decide) (fun b hb hlt => set_far (Nat.ne_of_gt hb) (set_far (Nat.ne_of_gt hb) (HXP.out.block b hlt (by simp))))
          have hLp2 := hLp.keep (w' := (wp.setCell ⟨wr.heap.size, 8, none⟩ (.slice la na ca)).setCell ⟨wr.heap.size, 9, none⟩ (.slice pa np cp)) (by decide) (fun b hb hlt => set_far (Nat.ne_of_gt hb) (set_far (Nat.ne_of_gt hb) rfl))
          have hEW := (HEP.out.setCell 8 none (.slice la na ca) (.inr (Nat.le_refl _))).setCell 9 none (.slice pa np cp) (.inr (Nat.le_refl _))
          have hBW := fin_block la pa na ca np cp (HBP.out.trans HB.out)
          obtain ⟨W, hW⟩ : ∃ W, W = (wp.setCell ⟨wr.heap.size, 8, none⟩ (.slice la na ca)).setCell ⟨wr.heap.size, 9, none⟩ (.slice pa np cp) := ⟨_, rfl⟩
          rw [← hW] at hLi2 hLp2 hEW hBW ⊢
          clear hW hLi hLp HLI HLP HEP HXP HBP HBI HEI HXI d0' d1' d2' d3' d4' d5' d6' d7' d8' d9' d10' d11' d12' fz' d0 d1 d2 d3 d4 d5 d6 d7 d8 d9 d10 d11 d12 fz
          have HL2 : Hid (Lies (fun b => wr.heap.size ≤ b) W (s, ⟨la, na, ca⟩, ⟨pa, np, cp⟩)) := Lies.mono (P := fun b => wr.heap.size < b) ⟨hLi2, hLp2⟩ (fun b hb _ => Nat.le_of_lt hb)
          obtain ⟨⟨d0, d1, d2, d3, d4, d5, d6, d7, d8, d9, d10, d11, d12⟩, fz⟩ := st_block hBW
          have hs3 := hEW.size
          have HEW := Lib.hid hEW
          clear hLi2 hLp2 hEW hBW
          go_wp2_with (at_builtin; refine wpList_appS rfl (.tmp 25) (.tmp 27) _ rfl Try.underlying22 Try.infoSt w.heap.size ro rc _ ((l.take k).filter p) rfl (by rfl) W.heap.size (by rfl) (s, ⟨la, na, ca⟩, ⟨pa, np, cp⟩) (HO.out.keep (HEW.out.trans (Ex.new W _) hs3 (by simp)) (Nat.le_refl _)) (lit_st rfl) (lies_new HO.out HL2.out hsz) (by omega) (by simp <;> omega) ?_; intro ro' rc' w3 hown3 hex3)
          go_roundw
          case rel => exact ⟨k + 1, ro', rc', by omega, by go_num, by rw [HK.out, List.length_append]; rfl, by rw [HK.out]; exact hown3, (hex.trans HEW.out hsz (by simp)).trans ((Ex.new W _).mono (show w.heap.size ≤ W.heap.size by omega) |>.trans hex3 (Nat.le_refl _) (by simp)) (Nat.le_refl _) (by simp)⟩
          case measure => simp [intOf] <;> omega
    · obtain rfl : k = l.length := by omega
      rw [List.take_length] at hown ⊢
      go_wp2
      go_ret
      exact ⟨ro, rc, rfl, hown, hex⟩
end Go.Proofs.Ytdmchekkcmjafaa
