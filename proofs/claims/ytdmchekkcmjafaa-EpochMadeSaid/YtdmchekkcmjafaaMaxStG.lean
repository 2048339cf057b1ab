/- slices.MaxFunc at statements by their time, epoch.Latest: contracts, no statement of the seat. -/
import Derived.Test.YtdmchekkcmjafaaOnlyG
import Derived.Test.YtdmchekkcmjafaaMg09
namespace Go.Proofs.Ytdmchekkcmjafaa
open Go.RowKit Go.Sort

theorem two_blocks (w : World) (o1 o2 : Obj) : ((w.alloc o1).alloc o2).heap[w.heap.size]? = some o1 ∧ ((w.alloc o1).alloc o2).heap[w.heap.size + 1]? = some o2 := by
  have h1 := heap_alloc_new w o1
  have h2 := heap_alloc_new (w.alloc o1) o2
  have h3 := (Ex.new (w.alloc o1) o2).block w.heap.size (by simp) (by simp)
  refine ⟨h3.trans h1, ?_⟩
  simpa using h2

theorem set13 {w : World} {g : Nat} {t : TypeId} {a0 a1 a2 a3 a4 a5 a6 a7 a8 a9 a10 a11 a12 : Value} (b0 b1 b2 b3 b4 b5 b6 b7 b8 b9 b10 b11 b12 : Value) (h : w.heap[g]? = some (.cells #[a0, a1, a2, a3, a4, a5, a6, a7, a8, a9, a10, a11, a12] t (0, 0))) :
    (((((((((((((w.setCell ⟨g, 0, none⟩ b0).setCell ⟨g, 1, none⟩ b1).setCell ⟨g, 2, none⟩ b2).setCell ⟨g, 3, none⟩ b3).setCell ⟨g, 4, none⟩ b4).setCell ⟨g, 5, none⟩ b5).setCell ⟨g, 6, none⟩ b6).setCell ⟨g, 7, none⟩ b7).setCell ⟨g, 8, none⟩ b8).setCell ⟨g, 9, none⟩ b9).setCell ⟨g, 10, none⟩ b10).setCell ⟨g, 11, none⟩ b11).setCell ⟨g, 12, none⟩ b12).heap[g]? = some (.cells #[b0, b1, b2, b3, b4, b5, b6, b7, b8, b9, b10, b11, b12] t (0, 0)) := by
  have e0 := heap_setCell_same _ _ 0 _ _ b0 h
  simp only [List.setIfInBounds_toArray, List.set_cons_zero] at e0
  have e1 := heap_setCell_same _ _ 1 _ _ b1 e0
  simp only [List.setIfInBounds_toArray, List.set_cons_zero, List.set_cons_succ] at e1
  have e2 := heap_setCell_same _ _ 2 _ _ b2 e1
  simp only [List.setIfInBounds_toArray, List.set_cons_zero, List.set_cons_succ] at e2
  have e3 := heap_setCell_same _ _ 3 _ _ b3 e2
  simp only [List.setIfInBounds_toArray, List.set_cons_zero, List.set_cons_succ] at e3
  have e4 := heap_setCell_same _ _ 4 _ _ b4 e3
  simp only [List.setIfInBounds_toArray, List.set_cons_zero, List.set_cons_succ] at e4
  have e5 := heap_setCell_same _ _ 5 _ _ b5 e4
  simp only [List.setIfInBounds_toArray, List.set_cons_zero, List.set_cons_succ] at e5
  have e6 := heap_setCell_same _ _ 6 _ _ b6 e5
  simp only [List.setIfInBounds_toArray, List.set_cons_zero, List.set_cons_succ] at e6
  have e7 := heap_setCell_same _ _ 7 _ _ b7 e6
  simp only [List.setIfInBounds_toArray, List.set_cons_zero, List.set_cons_succ] at e7
  have e8 := heap_setCell_same _ _ 8 _ _ b8 e7
  simp only [List.setIfInBounds_toArray, List.set_cons_zero, List.set_cons_succ] at e8
  have e9 := heap_setCell_same _ _ 9 _ _ b9 e8
  simp only [List.setIfInBounds_toArray, List.set_cons_zero, List.set_cons_succ] at e9
  have e10 := heap_setCell_same _ _ 10 _ _ b10 e9
  simp only [List.setIfInBounds_toArray, List.set_cons_zero, List.set_cons_succ] at e10
  have e11 := heap_setCell_same _ _ 11 _ _ b11 e10
  simp only [List.setIfInBounds_toArray, List.set_cons_zero, List.set_cons_succ] at e11
  have e12 := heap_setCell_same _ _ 12 _ _ b12 e11
  simp only [List.setIfInBounds_toArray, List.set_cons_zero, List.set_cons_succ] at e12
  exact e12

set_option maxHeartbeats 4000000 in
set_option maxRecDepth 100000 in
theorem maxSt_any {P : Nat → Prop} (v : Value) (l : List St) (w : World) (hv : Sl stRep P w v l) (hm : l.length ≤ 100000) (h0 : 1 ≤ l.length) :
    Calls Try.prog 36 #[v, .func (.func 37) #[] #[]] w fun e w' => ∃ (s : St) (lo po : Option Addr) (ln lc pn pc : Nat), e = .returned (.agg #[.int .i64 s.author, .int .i64 s.number, .string s.prev, .int .i64 s.time, .int .i64 s.kind, .int .i64 s.a, .int .i64 s.b, .int .i64 s.c, .slice lo ln lc, .slice po pn pc, .string s.body, .int .i64 s.key, .string s.dig]) ∧ s.time = latestI l ∧ Ex w.heap.size none w w' := by
  obtain ⟨ao, cap, rfl, hx⟩ := hv
  have d0 : decide ((l.length : Int) < 1) = false := decide_eq_false (by omega)
  obtain ⟨b, off, s, ⟨lo, ln, lc⟩, ⟨po, pn, pc⟩, rfl, _, hls, hr, HX⟩ := st_get hx 0 h0
  have hbl := rangeAt_lt hr (by rw [stE_len]; omega)
  have hc := st_at hr
  simp only [Sv.v, Nat.zero_mul, Nat.add_zero] at hc
  obtain ⟨c0, c1, c2, c3, c4, c5, c6, c7, c8, c9, c10, c11, c12⟩ := hc
  have HF : Hid (latestI (l.take 1) = s.time) := latestI_yes HX.out (.inl rfl)
  have ef := enters_of (P := Try.prog) (f := 37) Try.func37 (by kernel_rfl) rfl
  go_enter Try.func36, Try.ntmps36
  go_wp2
  clear c0 c1 c2 c3 c4 c5 c6 c7 c8 c9 c10 c11 c12
  go_loopw [6] (fun i wr => ∃ (k : Nat) (s : St) (lo po : Option Addr) (ln lc pn pc : Nat), 1 ≤ k ∧ k ≤ l.length ∧ i = .int .i64 k ∧ s.time = latestI (l.take k) ∧ Ex w.heap.size none w wr ∧ wr.heap[w.heap.size + 1]? = some (.cells #[.int .i64 s.author, .int .i64 s.number, .string s.prev, .int .i64 s.time, .int .i64 s.kind, .int .i64 s.a, .int .i64 s.b, .int .i64 s.c, .slice lo ln lc, .slice po pn pc, .string s.body, .int .i64 s.key, .string s.dig] 30 (0, 0)) ∧ wr.heap[w.heap.size]? = some (.cells #[.int .i64 0, .int .i64 0, .string ⟨#[]⟩, .int .i64 0, .int .i64 0, .int .i64 0, .int .i64 0, .int .i64 0, .slice none 0 0, .slice none 0 0, .string ⟨#[]⟩, .int .i64 0, .string ⟨#[]⟩] 30 (0, 0))) (fun i _ => l.length - (intOf i).toNat)
  case atStart => exact ⟨1, s, lo, po, ln, lc, pn, pc, Nat.le_refl _, h0, rfl, HF.out.symm, ex_two _ _, (two_blocks _ _ _).2, (two_blocks _ _ _).1⟩
  clear HX HF hls hr
  case round =>
    obtain ⟨k, s, lo, po, ln, lc, pn, pc, hk1, hk, rfl, hmx, hex, hb1, hb2⟩ := hrel
    have hsz := hex.size
    have HMX := Lib.hid hmx
    have HB1 := Lib.hid hb1
    have HB2 := Lib.hid hb2
    clear hmx
    by_cases hlt : k < l.length
    · have fx := hx.keep (by decide) (fun b _ hb => hex.block b hb (by simp))
      obtain ⟨b', off', s', ⟨lo', ln', lc'⟩, ⟨po', pn', pc'⟩, he, _, hls, hr, HX⟩ := st_get fx k hlt
      cases he
      have hq1 := ExW.st_at hr
      have hz1 : w.heap.size + 1 < wr.heap.size := (Array.getElem?_eq_some_iff.1 hb1).1
      have hq2 := fun p0 : ExW wr => (st_block ((p0.ex.block _ hz1 (by simp)).trans HB1.out)).1
      have hcmp := fun p0 : ExW wr => latestCmp_any (s', ⟨lo', ln', lc'⟩, ⟨po', pn', pc'⟩) (s, ⟨lo, ln, lc⟩, ⟨po, pn, pc⟩) p0.w'
      simp only [stE, Sv.v] at hcmp
      have HC := Lib.hid hcmp
      simp only [Sv.v] at hq1
      clear hcmp fx hr hls hb1 hb2
      by_cases hp : s.time < s'.time
      · have hd : decide (0 < cmpI s'.time s.time) = true := decide_eq_true (cmpI_gt.2 hp)
        have HK : Hid (latestI (l.take (k + 1)) = s'.time) := latestI_yes HX.out (.inr (by rw [← HMX.out]; exact hp))
        generalize cmpI s'.time s.time = cc at HC hd
        clear hp
        go_wp2_with fail
        refine wp_region_quiet_ex (by kernel_rfl) (by kernel_rfl) ?_
        repeat (quiet_step ((go_at_call 37; refine calls_ex_of (HC.out _))))
        refine wpQuiet_nil ?_
        intro _ hw'
        obtain ⟨p9, hw''⟩ := hw'
        subst hw''
        have hblk := (p9.ex.block _ hz1 (by simp)).trans HB1.out
        have hblk2 := (p9.ex.block w.heap.size (by omega) (by simp)).trans HB2.out
        obtain ⟨⟨c0, c1, c2, c3, c4, c5, c6, c7, c8, c9, c10, c11, c12⟩, fz⟩ := st_block hblk
        obtain ⟨g0, g1, g2, g3, g4, g5, g6, g7, g8, g9, g10, g11, g12⟩ := hq1 p9
        have HB3 := Lib.hid hblk
        have HB4 := Lib.hid hblk2
        have HE9 := Lib.hid p9.ex
        generalize p9.w' = w9 at *
        clear hblk hblk2 hq1 hq2
        go_wp2
        go_roundw
        case rel =>
          refine ⟨k + 1, s', lo', po', ln', lc', pn', pc', by omega, by omega, by go_num, HK.out.symm, ?_, set13 _ _ _ _ _ _ _ _ _ _ _ _ _ HB3.out, ?_⟩
          · iterate 13 refine Ex.setCell ?_ _ none _ (.inr (Nat.le_succ _))
            exact hex.trans HE9.out hsz (by simp)
          · iterate 13 refine set_far (Nat.ne_of_lt (Nat.lt_succ_self _)) ?_
            exact HB4.out
        case measure => simp [intOf] <;> omega
      · have hd : decide (0 < cmpI s'.time s.time) = false := decide_eq_false (fun h => hp (cmpI_gt.1 h))
        have HK : Hid (latestI (l.take (k + 1)) = latestI (l.take k)) := latestI_no HX.out hk1 (by rw [← HMX.out]; exact hp)
        generalize cmpI s'.time s.time = cc at HC hd
        clear hp
        go_wp2_with fail
        refine wp_region_quiet_ex (by kernel_rfl) (by kernel_rfl) ?_
        repeat (quiet_step ((go_at_call 37; refine calls_ex_of (HC.out _))))
        refine wpQuiet_nil ?_
        intro _ hw'
        obtain ⟨p9, hw''⟩ := hw'
        subst hw''
        go_wp2
        go_roundw
        case rel => exact ⟨k + 1, s, lo, po, ln, lc, pn, pc, by omega, by omega, by go_num, by rw [HK.out]; exact HMX.out, hex.trans p9.ex hsz (by simp), (p9.ex.block _ hz1 (by simp)).trans HB1.out, (p9.ex.block w.heap.size (by omega) (by simp)).trans HB2.out⟩
        case measure => simp [intOf] <;> omega
    · obtain rfl : k = l.length := by omega
      rw [List.take_length] at HMX
      obtain ⟨⟨c0, c1, c2, c3, c4, c5, c6, c7, c8, c9, c10, c11, c12⟩, fz⟩ := st_block hb1
      have hb2' := hb2
      have hk2 := st_block (s := ⟨0, 0, ⟨#[]⟩, 0, 0, 0, 0, 0, [], [], ⟨#[]⟩, 0, ⟨#[]⟩⟩) hb2'
      obtain ⟨⟨e0, e1, e2, e3, e4, e5, e6, e7, e8, e9, e10, e11, e12⟩, fz2⟩ := hk2
      clear hb1 hb2 hb2'
      go_wp2
      obtain ⟨i0, hi, hz0, hz1', hz2⟩ := info_parts Try.infoSt
      refine bodyPost_ret_by (results_cell_row rfl _ _ w.heap.size 30 _ (0, 0) _ rfl (set13 _ _ _ _ _ _ _ _ _ _ _ _ _ HB2.out) Try.underlying30 rfl (by rw [hi]; simp [hz1'])) rfl ?_
      refine ⟨s, ⟨lo, po, ln, lc, pn, pc, rfl⟩, HMX.out, ?_⟩
      iterate 13 refine Ex.setCell ?_ _ none _ (.inr (Nat.le_refl _))
      exact hex
end Go.Proofs.Ytdmchekkcmjafaa
