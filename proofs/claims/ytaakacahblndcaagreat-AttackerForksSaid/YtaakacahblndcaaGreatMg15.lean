/- ref04.Fork where a number is there twice. No statement of the seat. | ref36.fork at two statements that are a fork. No statement of the seat. | ref23.Of, ref27.vote and ref27.Cases at right statements that are no votes and whose lists are empty. No statement of the seat. | ref27.vote and ref27.Cases at right statements that are no votes and whose lists are empty. No statement of the seat. | ref36.Find and Guilty at two statements that are a fork. No statement of the seat. -/
import Derived.Test.YtaakacahblndcaaGreatCounted04G
import Derived.Test.YtaakacahblndcaaGreatMg10
import Derived.Test.YtaakacahblndcaaGreatMg11
import Derived.Test.YtaakacahblndcaaGreatMg00
import Derived.Test.YtaakacahblndcaaGreatMg01
import Derived.Laws.ResultCell
import Derived.Deep.RegionHeld3
import Derived.Deep.Cut
import Derived.Deep.CutRange
import Derived.Test.YtaakacahblndcaaGreatMg14
import Derived.Test.YtaakacahblndcaaGreatMg02
namespace Go.Proofs.YtaakacahblndcaaGreat
open Go.RowKit Go.Sort

/-- Two statements as a fork. -/
def forkV (x y : St × Sv × Sv) : Value := .agg (stE x ++ stE y).toArray
theorem forkV_cells (x y : St × Sv × Sv) : (forkV x y).cells = (stE x ++ stE y).toArray := rfl
theorem forkV_one (x y : St × Sv × Sv) : (forkV x y).cells.all (·.oneCell') = true := by
  rw [Array.all_eq_true_iff_forall_mem]
  intro v hv
  rw [forkV_cells] at hv
  simp only [List.mem_toArray, List.mem_append] at hv
  rcases hv with hv | hv
  · exact one_stE x v hv
  · exact one_stE y v hv
/-- A struct out of its parts, as a word that the walk does not open. -/
def rowMake (t : TypeId) (ps : Array (Nat × Value)) : Sem Value := Instr.build t ps
theorem build_word (ps : Array (Nat × Value)) : Instr.build 51 ps = rowMake 51 ps := rfl
set_option maxRecDepth 100000 in
theorem build_fork (w : World) (x y : St × Sv × Sv) : (rowMake 51 #[(0, stV x), (1, stV y)]).run Tryz.prog w = .ok (forkV x y) w := run_build w _ _ _ (by kernel_rfl)
attribute [local go_sem ↓] rowLoad_stv rowStore_stv rowStore_fork
attribute [local go_sem ↓ high] build_word
set_option maxRecDepth 100000 in
theorem results_row2 {fn : Func} {p u : Tmp} {t : TypeId} (h : fn.results = #[.cell p t, .tmp u]) (tmps : Array Value) (w : World) {a : Addr} {v u' : Value} (ha : tmps.getD p undef = .pointer (some a)) (hu : tmps.getD u undef = u') (hr : (loadVar t a).run Tryz.prog w = .ok v w) : (results fn tmps).run Tryz.prog w = .ok (.tuple #[v, u']) w := by
  rw [results_cell_tmp h, ha, hu]
  have e : (asAddr (.pointer (some a))).run Tryz.prog w = .ok a w := rfl
  rw [e]
  show ((loadVar t a).run Tryz.prog w).andThen _ = _
  rw [hr]
  simp only [Result.andThen]
/-- What ref04.Fork answers. -/
def ForkE (x y : St) (e : Ending) : Prop := ∃ X Y : St × Sv × Sv, e = .returned (.tuple #[forkV X Y, .bool true]) ∧ X.1 = x ∧ Y.1 = y

set_option maxHeartbeats 8000000 in
set_option maxRecDepth 100000 in
theorem fork04_at {P : Nat → Prop} (v : Value) (l : List St) (a : Int) (w : World) (hv : Sl stRep P w v l) (hm : l.length ≤ 100000) (ht : TameL l) (i : Nat) (x y : St) (hi : (ownI a l)[i]? = some x) (hj : (ownI a l)[i + 1]? = some y) (he : x.number = y.number)
    (hlt : ∀ (j : Nat) (s t : St), j < i → (ownI a l)[j]? = some s → (ownI a l)[j + 1]? = some t → s.number ≠ t.number) :
    Calls Tryz.prog 16 #[.int .i64 a, v] w fun e w' => ForkE x y e ∧ Ex w.heap.size none w w' := by
  obtain ⟨w0, hw0⟩ : ∃ w0 : World, w0 = w.alloc (.cells #[.int .i64 0, .int .i64 0, .string ⟨#[]⟩, .int .i64 0, .int .i64 0, .int .i64 0, .int .i64 0, .int .i64 0, .slice none 0 0, .slice none 0 0, .string ⟨#[]⟩, .int .i64 0, .string ⟨#[]⟩, .int .i64 0, .int .i64 0, .string ⟨#[]⟩, .int .i64 0, .int .i64 0, .int .i64 0, .int .i64 0, .int .i64 0, .slice none 0 0, .slice none 0 0, .string ⟨#[]⟩, .int .i64 0, .string ⟨#[]⟩] 51) := ⟨_, rfl⟩
  have hz0 : w.heap.size < w0.heap.size := by rw [hw0]; simp
  have HE0 : Hid (Ex w.heap.size none w w0) := Lib.hid (by rw [hw0]; exact Ex.new w _)
  have HB0 : Hid (w0.heap[w.heap.size]? = some (.cells #[.int .i64 0, .int .i64 0, .string ⟨#[]⟩, .int .i64 0, .int .i64 0, .int .i64 0, .int .i64 0, .int .i64 0, .slice none 0 0, .slice none 0 0, .string ⟨#[]⟩, .int .i64 0, .string ⟨#[]⟩, .int .i64 0, .int .i64 0, .string ⟨#[]⟩, .int .i64 0, .int .i64 0, .int .i64 0, .int .i64 0, .int .i64 0, .slice none 0 0, .slice none 0 0, .string ⟨#[]⟩, .int .i64 0, .string ⟨#[]⟩] 51 (0, 0))) := Lib.hid (by rw [hw0]; exact heap_alloc_new w _)
  have HV := Lib.hid (hv.mono (P' := fun b => b < w.heap.size) (by decide) fun b _ hb => hb)
  obtain ⟨own, how⟩ : ∃ own, own = ownI a l := ⟨_, rfl⟩
  have HL : Hid (∀ (j : Nat) (s t : St), j < i → own[j]? = some s → own[j + 1]? = some t → s.number ≠ t.number) := Lib.hid (by rw [how]; exact hlt)
  have HI : Hid (own[i]? = some x ∧ own[i + 1]? = some y ∧ x.number = y.number) := Lib.hid (by rw [how]; exact ⟨hi, hj, he⟩)
  have HOW := Lib.hid how
  have hil : i + 1 < own.length := (List.getElem?_eq_some_iff.1 HI.out.2.1).1
  have hol : own.length ≤ 100000 := by have := ownI_len a l; rw [← how] at this; omega
  clear hv how hlt hi hj he
  go_enter Tryz.func16, Tryz.ntmps16
  go_upto_region 1 with (fail)
  refine wp_world (fun W => W = w0) (by rw [hw0]) (fun W hW => ?_)
  rw [hW]
  clear hW W hw0
  go_upto_region 3 with (first
    | (go_at_call 44
       refine (own04_any v l a w0 (HV.out.keep (by decide) fun b _ hb => HE0.out.block b hb (by simp)) hm ht).mono ?_
       rintro e w1 ⟨ro, rc, rfl, ho, hex⟩
       rw [← HOW.out] at ho ⊢
       obtain ⟨n, hn⟩ : ∃ n, n = own.length := ⟨_, rfl⟩
       rw [← hn]
       have HN := Lib.hid hn
       have HO1 : Hid (OwnS w1 w0.heap.size ro rc own) := Lib.hid ho
       have HE1 : Hid (Ex w0.heap.size none w0 w1) := Lib.hid hex
       clear hn ho hex)
    | fail)
  have hz1 : w0.heap.size ≤ w1.heap.size := HE1.out.size
  have hin : i + 1 < n := by rw [HN.out]; exact hil
  have hn1 : n ≤ 100000 := by rw [HN.out]; exact hol
  clear hil hol
  go_loopw [7] (fun v wr => ∃ k : Nat, k ≤ i ∧ v = .int .i64 k ∧ Ex w1.heap.size none w1 wr) (fun v _ => i + 1 - (intOf v).toNat)
  case atStart => exact ⟨0, by omega, rfl, Ex.refl _ _ _⟩
  case round =>
    obtain ⟨k, hk, rfl, hex⟩ := hrel
    have hsz := hex.size
    have HEX := Lib.hid hex
    clear hex
    have hltI : (k : Int) + 1 < (n : Int) := by omega
    have hwk : IntKind.i64.wrap ((k : Int) + 1) = (k : Int) + 1 := by rw [IntKind.wrap_i64]; omega
    have hk0 : (0 : Int) ≤ (k : Int) := by omega
    have hk1 : (k : Int) < (n : Int) := by omega
    have hk2 : (0 : Int) ≤ (k : Int) + 1 := by omega
    have hk3 : ((k : Int) + 1).toNat = k + 1 := by omega
    obtain ⟨b, off, xs, xl, xp, hao, hPb, _, hrx, HXs⟩ := st_get (HO1.out.sl.at'.keep (w' := wr) (by decide) fun q _ hq => HEX.out.block q hq (by simp)) k (by rw [← HN.out]; omega)
    obtain ⟨b', off', ys, yl, yp, hao', _, _, hry, HYs⟩ := st_get (HO1.out.sl.at'.keep (w' := wr) (by decide) fun q _ hq => HEX.out.block q hq (by simp)) (k + 1) (by rw [← HN.out]; omega)
    have HAO := Lib.hid hao
    subst hao
    cases hao'
    have hbl : b < wr.heap.size := rangeAt_lt hrx (by rw [stE_len]; decide)
    have hbw : b ≠ w.heap.size := by omega
    have HQ : Hid (∀ w', w'.heap[b]? = wr.heap[b]? → w'.cell? ⟨b, off + k * 13 + 1, none⟩ = some (.int .i64 xs.number) ∧ w'.cell? ⟨b, off + (k + 1) * 13 + 1, none⟩ = some (.int .i64 ys.number) ∧ (rowLoad 37 ⟨b, off + k * 13, none⟩).run Tryz.prog w' = .ok (stV (xs, xl, xp)) w' ∧ (rowLoad 37 ⟨b, off + (k + 1) * 13, none⟩).run Tryz.prog w' = .ok (stV (ys, yl, yp)) w') := Lib.hid (fun w' h =>
      ⟨(st_at (rangeAt_keep hrx h)).2.1, (st_at (rangeAt_keep hry h)).2.1, stV_load (rangeAt_keep hrx h), stV_load (rangeAt_keep hry h)⟩)
    clear hrx hry
    by_cases te : xs.number = ys.number
    · have HXY : Hid (xs = x ∧ ys = y) := Lib.hid (by
        have hki : k = i := by
          refine Nat.le_antisymm hk (Nat.le_of_not_lt fun hlt => ?_)
          exact HL.out k xs ys hlt HXs.out HYs.out te
        subst hki
        have h1 := HXs.out; have h2 := HYs.out
        rw [HI.out.1] at h1; rw [HI.out.2.1] at h2
        exact ⟨(Option.some.inj h1).symm, (Option.some.inj h2).symm⟩)
      have k1 : (xs.number == ys.number) = true := by simp [te]
      clear te
      have hq := fun p : ExW wr => HQ.out p.w' (p.ex.block b hbl (by simp))
      go_upto_region 5 with (fail)
      refine wp_region_quiet_ex (by kernel_rfl) (by kernel_rfl) ?_
      repeat (go_big_quiet_step (fail))
      refine wpQuiet_nil ?_
      intro _ hw'
      obtain ⟨p9, hw''⟩ := hw'
      subst hw''
      clear hq
      obtain ⟨w4, hw4⟩ : ∃ w4, w4 = p9.w' := ⟨_, rfl⟩
      have HE4 : Hid (Ex wr.heap.size none wr w4) := Lib.hid (by rw [hw4]; exact p9.ex)
      rw [← hw4]
      clear hw4
      have HB4 : Hid (w4.heap[w.heap.size]? = some (.cells #[.int .i64 0, .int .i64 0, .string ⟨#[]⟩, .int .i64 0, .int .i64 0, .int .i64 0, .int .i64 0, .int .i64 0, .slice none 0 0, .slice none 0 0, .string ⟨#[]⟩, .int .i64 0, .string ⟨#[]⟩, .int .i64 0, .int .i64 0, .string ⟨#[]⟩, .int .i64 0, .int .i64 0, .int .i64 0, .int .i64 0, .int .i64 0, .slice none 0 0, .slice none 0 0, .string ⟨#[]⟩, .int .i64 0, .string ⟨#[]⟩] 51 (0, 0))) := Lib.hid ((HE4.out.block _ (by omega) (by simp)).trans ((HEX.out.block _ (by omega) (by simp)).trans ((HE1.out.block _ hz0 (by simp)).trans HB0.out)))
      have hb4 : w4.heap[b]? = wr.heap[b]? := HE4.out.block b hbl (by simp)
      have HB4' := Lib.hid hb4
      have hbd := fun W => build_fork W (xs, xl, xp) (ys, yl, yp)
      have hq := fun p : ExW w4 => (HQ.out p.w' ((p.ex.block b (by have := HE4.out.size; omega) (by simp)).trans HB4'.out)).2.2
      clear hb4
      go_upto_region 6 with (fail)
      refine wp_region_quiet_ex_tail 9 (by kernel_rfl) (by kernel_rfl) ?_
      simp only [List.take_succ_cons, List.take_zero, List.drop_succ_cons, List.drop_zero]
      repeat (go_big_quiet_step (fail))
      refine wpQuiet_nil ?_
      intro _ hw'
      obtain ⟨p9, hw''⟩ := hw'
      subst hw''
      clear hq
      obtain ⟨w5, hw5⟩ : ∃ w5, w5 = p9.w' := ⟨_, rfl⟩
      have HE5 : Hid (Ex w4.heap.size none w4 w5) := Lib.hid (by rw [hw5]; exact p9.ex)
      rw [← hw5]
      clear hw5
      have HB5 : Hid (w5.heap[w.heap.size]? = some (.cells #[.int .i64 0, .int .i64 0, .string ⟨#[]⟩, .int .i64 0, .int .i64 0, .int .i64 0, .int .i64 0, .int .i64 0, .slice none 0 0, .slice none 0 0, .string ⟨#[]⟩, .int .i64 0, .string ⟨#[]⟩, .int .i64 0, .int .i64 0, .string ⟨#[]⟩, .int .i64 0, .int .i64 0, .int .i64 0, .int .i64 0, .int .i64 0, .slice none 0 0, .slice none 0 0, .string ⟨#[]⟩, .int .i64 0, .string ⟨#[]⟩] 51 (0, 0))) := Lib.hid ((HE5.out.block _ (by have := HE4.out.size; omega) (by simp)).trans HB4.out)
      have hst : (rowStore 51 ⟨w.heap.size, 0, none⟩ (forkV (xs, xl, xp) (ys, yl, yp))).run Tryz.prog w5 = .ok () (w5.setRow w.heap.size (forkV (xs, xl, xp) (ys, yl, yp)).cells) := run_rowStore (P := Tryz.prog) w5 w.heap.size 51 51 #[.int .i64 0, .int .i64 0, .string ⟨#[]⟩, .int .i64 0, .int .i64 0, .int .i64 0, .int .i64 0, .int .i64 0, .slice none 0 0, .slice none 0 0, .string ⟨#[]⟩, .int .i64 0, .string ⟨#[]⟩, .int .i64 0, .int .i64 0, .string ⟨#[]⟩, .int .i64 0, .int .i64 0, .int .i64 0, .int .i64 0, .int .i64 0, .slice none 0 0, .slice none 0 0, .string ⟨#[]⟩, .int .i64 0, .string ⟨#[]⟩] (forkV (xs, xl, xp) (ys, yl, yp)).cells HB5.out (by kernel_rfl) rfl (forkV_one _ _)
      go_wp2
      rename_i cs heq
      obtain rfl : cs = (forkV (xs, xl, xp) (ys, yl, yp)).cells := by rw [heq]; rfl
      have hr : (loadVar 51 ⟨w.heap.size, 0, none⟩).run Tryz.prog (w5.setRow w.heap.size (forkV (xs, xl, xp) (ys, yl, yp)).cells) = .ok (forkV (xs, xl, xp) (ys, yl, yp)) (w5.setRow w.heap.size (forkV (xs, xl, xp) (ys, yl, yp)).cells) := run_loadVar_row (P := Tryz.prog) _ w.heap.size 51 51 (forkV (xs, xl, xp) (ys, yl, yp)).cells (0, 0) _ (setRow_heap _ _ _ _ _ _ HB5.out) Tryz.underlying51 rfl (by kernel_rfl)
      refine bodyPost_ret (v := .tuple #[forkV (xs, xl, xp) (ys, yl, yp), .bool true]) (results_row2 rfl _ _ (by rfl) (by rfl) hr) rfl ?_
      exact ⟨⟨(xs, xl, xp), (ys, yl, yp), rfl, HXY.out.1, HXY.out.2⟩, ((HE0.out.trans HE1.out (by omega) (by simp)).trans (HEX.out.trans (HE4.out.trans HE5.out HE4.out.size (by simp)) hsz (by simp)) (by omega) (by simp)).setRow _ _ (.inr (Nat.le_refl _))⟩
    · have k1 : (xs.number == ys.number) = false := by simpa using te
      have hki : k < i := by
        refine Nat.lt_of_le_of_ne hk fun e => te ?_
        subst e
        have h1 := HXs.out; have h2 := HYs.out
        rw [HI.out.1] at h1; rw [HI.out.2.1] at h2
        cases h1; cases h2
        exact HI.out.2.2
      clear te
      have hq := fun p : ExW wr => HQ.out p.w' (p.ex.block b hbl (by simp))
      go_upto_region 5 with (fail)
      refine wp_region_quiet_ex (by kernel_rfl) (by kernel_rfl) ?_
      repeat (go_big_quiet_step (fail))
      refine wpQuiet_nil ?_
      intro _ hw'
      obtain ⟨p9, hw''⟩ := hw'
      subst hw''
      clear hq
      have HE9 : Hid (Ex wr.heap.size none wr p9.w') := Lib.hid p9.ex
      go_wp2
      go_roundw
      case rel => exact ⟨k + 1, hki, by go_num, HEX.out.trans HE9.out hsz (by simp)⟩
      case measure => simp [intOf] <;> omega
end Go.Proofs.YtaakacahblndcaaGreat

namespace Go.Proofs.YtaakacahblndcaaGreat
open Go.RowKit Go.Sort

/-- Two statements as a proof. -/
def proofV (kn : Int) (x y : St × Sv × Sv) : Value := .agg (.int .i64 kn :: (stE x ++ stE y)).toArray
theorem proofV_one (kn : Int) (x y : St × Sv × Sv) : (proofV kn x y).cells.all (·.oneCell') = true := by
  rw [Array.all_eq_true_iff_forall_mem]
  intro v hv
  have hv : v ∈ (.int .i64 kn :: (stE x ++ stE y)).toArray := hv
  simp only [List.mem_toArray, List.mem_cons, List.mem_append] at hv
  rcases hv with rfl | hv | hv
  · rfl
  · exact one_stE x v hv
  · exact one_stE y v hv
theorem rowStore_proof (a : Addr) (v : Value) : storeVar 61 a v = rowStore 61 a v := rfl
theorem rowLoad_proof (a : Addr) : loadVar 61 a = rowLoad 61 a := rfl
theorem make_proof (ps : Array (Nat × Value)) : Instr.build 61 ps = rowMake 61 ps := rfl
set_option maxRecDepth 100000 in
theorem build_proof (w : World) (kn : Int) (x y : St × Sv × Sv) : (rowMake 61 #[(0, .int .i64 kn), (1, stV x), (2, stV y)]).run Tryz.prog w = .ok (proofV kn x y) w := run_build w _ _ _ (by kernel_rfl)
theorem Tryz.sizePr : (Tryz.prog.info? 61).map (·.size) = some 27 := by kernel_rfl
attribute [local go_sem ↓] rowLoad_stv rowStore_stv rowLoad_proof rowStore_proof
attribute [local go_sem ↓ high] make_proof
/-- Two boxes with a statement each. -/
def TwoBox (wr : World) (x y : St × Sv × Sv) (p q : Value) (W : World) : Prop := ∃ g h, p = .pointer (some ⟨g, 0, none⟩) ∧ q = .pointer (some ⟨h, 0, none⟩) ∧ W.heap[g]? = some (.cells (stV x).cells 37 (0, 0)) ∧ W.heap[h]? = some (.cells (stV y).cells 37 (0, 0)) ∧ Ex wr.heap.size none wr W
theorem two_alloc (w : World) : ((w.alloc (.cells #[.int .i64 0, .int .i64 0, .string ⟨#[]⟩, .int .i64 0, .int .i64 0, .int .i64 0, .int .i64 0, .int .i64 0, .slice none 0 0, .slice none 0 0, .string ⟨#[]⟩, .int .i64 0, .string ⟨#[]⟩] 37)).alloc (.cells #[.int .i64 0, .int .i64 0, .string ⟨#[]⟩, .int .i64 0, .int .i64 0, .int .i64 0, .int .i64 0, .int .i64 0, .slice none 0 0, .slice none 0 0, .string ⟨#[]⟩, .int .i64 0, .string ⟨#[]⟩] 37)).heap[w.heap.size]? = some (.cells #[.int .i64 0, .int .i64 0, .string ⟨#[]⟩, .int .i64 0, .int .i64 0, .int .i64 0, .int .i64 0, .int .i64 0, .slice none 0 0, .slice none 0 0, .string ⟨#[]⟩, .int .i64 0, .string ⟨#[]⟩] 37 (0, 0)) ∧ ((w.alloc (.cells #[.int .i64 0, .int .i64 0, .string ⟨#[]⟩, .int .i64 0, .int .i64 0, .int .i64 0, .int .i64 0, .int .i64 0, .slice none 0 0, .slice none 0 0, .string ⟨#[]⟩, .int .i64 0, .string ⟨#[]⟩] 37)).alloc (.cells #[.int .i64 0, .int .i64 0, .string ⟨#[]⟩, .int .i64 0, .int .i64 0, .int .i64 0, .int .i64 0, .int .i64 0, .slice none 0 0, .slice none 0 0, .string ⟨#[]⟩, .int .i64 0, .string ⟨#[]⟩] 37)).heap[w.heap.size + 1]? = some (.cells #[.int .i64 0, .int .i64 0, .string ⟨#[]⟩, .int .i64 0, .int .i64 0, .int .i64 0, .int .i64 0, .int .i64 0, .slice none 0 0, .slice none 0 0, .string ⟨#[]⟩, .int .i64 0, .string ⟨#[]⟩] 37 (0, 0)) := by
  have e1 := heap_alloc_new w (.cells #[.int .i64 0, .int .i64 0, .string ⟨#[]⟩, .int .i64 0, .int .i64 0, .int .i64 0, .int .i64 0, .int .i64 0, .slice none 0 0, .slice none 0 0, .string ⟨#[]⟩, .int .i64 0, .string ⟨#[]⟩] 37)
  have e2 := heap_alloc_new (w.alloc (.cells #[.int .i64 0, .int .i64 0, .string ⟨#[]⟩, .int .i64 0, .int .i64 0, .int .i64 0, .int .i64 0, .int .i64 0, .slice none 0 0, .slice none 0 0, .string ⟨#[]⟩, .int .i64 0, .string ⟨#[]⟩] 37)) (.cells #[.int .i64 0, .int .i64 0, .string ⟨#[]⟩, .int .i64 0, .int .i64 0, .int .i64 0, .int .i64 0, .int .i64 0, .slice none 0 0, .slice none 0 0, .string ⟨#[]⟩, .int .i64 0, .string ⟨#[]⟩] 37)
  simp only [World.size_alloc] at e2
  exact ⟨((Ex.new (w.alloc (.cells #[.int .i64 0, .int .i64 0, .string ⟨#[]⟩, .int .i64 0, .int .i64 0, .int .i64 0, .int .i64 0, .int .i64 0, .slice none 0 0, .slice none 0 0, .string ⟨#[]⟩, .int .i64 0, .string ⟨#[]⟩] 37)) (.cells #[.int .i64 0, .int .i64 0, .string ⟨#[]⟩, .int .i64 0, .int .i64 0, .int .i64 0, .int .i64 0, .int .i64 0, .slice none 0 0, .slice none 0 0, .string ⟨#[]⟩, .int .i64 0, .string ⟨#[]⟩] 37)).block w.heap.size (by simp) (by simp)).trans e1, e2⟩
theorem two_store (W : World) (b : Nat) (x : St × Sv × Sv) (h : W.heap[b]? = some (.cells #[.int .i64 0, .int .i64 0, .string ⟨#[]⟩, .int .i64 0, .int .i64 0, .int .i64 0, .int .i64 0, .int .i64 0, .slice none 0 0, .slice none 0 0, .string ⟨#[]⟩, .int .i64 0, .string ⟨#[]⟩] 37 (0, 0))) : (rowStore 37 ⟨b, 0, none⟩ (stV x)).run Tryz.prog W = .ok () (W.setRow b (stV x).cells) :=
  run_rowStore (P := Tryz.prog) W b 37 37 #[.int .i64 0, .int .i64 0, .string ⟨#[]⟩, .int .i64 0, .int .i64 0, .int .i64 0, .int .i64 0, .int .i64 0, .slice none 0 0, .slice none 0 0, .string ⟨#[]⟩, .int .i64 0, .string ⟨#[]⟩] (stV x).cells h Tryz.sizeStv rfl (stV_one x)
theorem two_done (w W : World) (x y : St × Sv × Sv) (h0 : W.heap[w.heap.size]? = some (.cells #[.int .i64 0, .int .i64 0, .string ⟨#[]⟩, .int .i64 0, .int .i64 0, .int .i64 0, .int .i64 0, .int .i64 0, .slice none 0 0, .slice none 0 0, .string ⟨#[]⟩, .int .i64 0, .string ⟨#[]⟩] 37 (0, 0))) (h1 : W.heap[w.heap.size + 1]? = some (.cells #[.int .i64 0, .int .i64 0, .string ⟨#[]⟩, .int .i64 0, .int .i64 0, .int .i64 0, .int .i64 0, .int .i64 0, .slice none 0 0, .slice none 0 0, .string ⟨#[]⟩, .int .i64 0, .string ⟨#[]⟩] 37 (0, 0))) (hx : Ex w.heap.size none w W) : TwoBox w x y (.pointer (some ⟨w.heap.size, 0, none⟩)) (.pointer (some ⟨w.heap.size + 1, 0, none⟩)) ((W.setRow w.heap.size (stV x).cells).setRow (w.heap.size + 1) (stV y).cells) :=
  ⟨_, _, rfl, rfl, (setRow_other _ _ _ _ (by omega)).trans (setRow_heap _ _ _ _ _ _ h0), setRow_heap _ _ _ _ _ _ ((setRow_other _ _ _ _ (by omega)).trans h1), (hx.setRow _ _ (.inr (Nat.le_refl _))).setRow _ _ (.inr (by omega))⟩
theorem two_done' (w W : World) (x y : St × Sv × Sv) (h0 : W.heap[w.heap.size]? = some (.cells #[.int .i64 0, .int .i64 0, .string ⟨#[]⟩, .int .i64 0, .int .i64 0, .int .i64 0, .int .i64 0, .int .i64 0, .slice none 0 0, .slice none 0 0, .string ⟨#[]⟩, .int .i64 0, .string ⟨#[]⟩] 37 (0, 0))) (h1 : W.heap[w.heap.size + 1]? = some (.cells #[.int .i64 0, .int .i64 0, .string ⟨#[]⟩, .int .i64 0, .int .i64 0, .int .i64 0, .int .i64 0, .int .i64 0, .slice none 0 0, .slice none 0 0, .string ⟨#[]⟩, .int .i64 0, .string ⟨#[]⟩] 37 (0, 0))) (hx : Ex w.heap.size none w W) : TwoBox w x y (.pointer (some ⟨w.heap.size, 0, none⟩)) (.pointer (some ⟨w.heap.size + 1, 0, none⟩)) ((W.setRow (w.heap.size + 1) (stV y).cells).setRow w.heap.size (stV x).cells) :=
  ⟨_, _, rfl, rfl, setRow_heap _ _ _ _ _ _ ((setRow_other _ _ _ _ (by omega)).trans h0), (setRow_other _ _ _ _ (by omega)).trans (setRow_heap _ _ _ _ _ _ h1), (hx.setRow _ _ (.inr (by omega))).setRow _ _ (.inr (Nat.le_refl _))⟩
theorem TwoBox.swap {wr W : World} {x y : St × Sv × Sv} {p q : Value} (h : TwoBox wr x y p q W) : TwoBox wr y x q p W := by
  obtain ⟨g, k, h1, h2, h3, h4, h5⟩ := h
  exact ⟨k, g, h2, h1, h4, h3, h5⟩
/-- The best proof so far. -/
def BestP (a : Int) (g : Nat) (o : Bool) (W : World) : Prop := ∃ cs, W.heap[g]? = some (.cells cs 61 (0, 0)) ∧ cs.size = 27 ∧ (o = true → ∃ X Y : St × Sv × Sv, cs = (proofV 1 X Y).cells ∧ X.1.author = a)
theorem BestP.keep {a : Int} {g : Nat} {o : Bool} {W W' : World} (h : BestP a g o W) (hb : W'.heap[g]? = W.heap[g]?) : BestP a g o W' := by
  obtain ⟨cs, h1, h2⟩ := h
  exact ⟨cs, hb.trans h1, h2⟩

/-- A proof by one author, and yes. -/
def ForkP (a : Int) (e : Ending) : Prop := ∃ X Y : St × Sv × Sv, e = .returned (.tuple #[proofV 1 X Y, .bool true]) ∧ X.1.author = a

set_option maxHeartbeats 16000000 in
set_option maxRecDepth 100000 in
theorem fork36_two {P : Nat → Prop} (ao : Option Addr) (cap : Nat) (x y : St) (a : Int) (h : Nat) (w : World) (hv : SlAt stRep P w ao [x, y]) (hx : x.author = a) (hy : y.author = a) (hn : x.number = y.number) (hh : h = 1 ∨ h = 2) (hd : ∀ i k si sk, [x, y][i]? = some si → [x, y][k]? = some sk → Op.bytesLess si.dig.toList sk.dig.toList = decide (2 * i + k = h)) :
    Calls Tryz.prog 111 #[.slice ao 2 cap, .int .i64 a] w fun e w' => ForkP a e ∧ Ex w.heap.size none w w' := by
  obtain ⟨w0, hw0⟩ : ∃ w0 : World, w0 = (w.alloc (.cells #[.int .i64 0, .int .i64 0, .int .i64 0, .string ⟨#[]⟩, .int .i64 0, .int .i64 0, .int .i64 0, .int .i64 0, .int .i64 0, .slice none 0 0, .slice none 0 0, .string ⟨#[]⟩, .int .i64 0, .string ⟨#[]⟩, .int .i64 0, .int .i64 0, .string ⟨#[]⟩, .int .i64 0, .int .i64 0, .int .i64 0, .int .i64 0, .int .i64 0, .slice none 0 0, .slice none 0 0, .string ⟨#[]⟩, .int .i64 0, .string ⟨#[]⟩] 61)).alloc (.cells #[.int .i64 0, .int .i64 0, .int .i64 0, .string ⟨#[]⟩, .int .i64 0, .int .i64 0, .int .i64 0, .int .i64 0, .int .i64 0, .slice none 0 0, .slice none 0 0, .string ⟨#[]⟩, .int .i64 0, .string ⟨#[]⟩, .int .i64 0, .int .i64 0, .string ⟨#[]⟩, .int .i64 0, .int .i64 0, .int .i64 0, .int .i64 0, .int .i64 0, .slice none 0 0, .slice none 0 0, .string ⟨#[]⟩, .int .i64 0, .string ⟨#[]⟩] 61) := ⟨_, rfl⟩
  have hz0 : w0.heap.size = w.heap.size + 1 + 1 := by rw [hw0]; simp
  have HE0 : Hid (Ex w.heap.size none w w0) := Lib.hid (by rw [hw0]; exact (Ex.new w _).alloc (by simp) _)
  have HB0 : Hid (w0.heap[w.heap.size]? = some (.cells #[.int .i64 0, .int .i64 0, .int .i64 0, .string ⟨#[]⟩, .int .i64 0, .int .i64 0, .int .i64 0, .int .i64 0, .int .i64 0, .slice none 0 0, .slice none 0 0, .string ⟨#[]⟩, .int .i64 0, .string ⟨#[]⟩, .int .i64 0, .int .i64 0, .string ⟨#[]⟩, .int .i64 0, .int .i64 0, .int .i64 0, .int .i64 0, .int .i64 0, .slice none 0 0, .slice none 0 0, .string ⟨#[]⟩, .int .i64 0, .string ⟨#[]⟩] 61 (0, 0)) ∧ w0.heap[w.heap.size + 1]? = some (.cells #[.int .i64 0, .int .i64 0, .int .i64 0, .string ⟨#[]⟩, .int .i64 0, .int .i64 0, .int .i64 0, .int .i64 0, .int .i64 0, .slice none 0 0, .slice none 0 0, .string ⟨#[]⟩, .int .i64 0, .string ⟨#[]⟩, .int .i64 0, .int .i64 0, .string ⟨#[]⟩, .int .i64 0, .int .i64 0, .int .i64 0, .int .i64 0, .int .i64 0, .slice none 0 0, .slice none 0 0, .string ⟨#[]⟩, .int .i64 0, .string ⟨#[]⟩] 61 (0, 0))) := Lib.hid (by
    rw [hw0]
    have e1 := heap_alloc_new w (.cells #[.int .i64 0, .int .i64 0, .int .i64 0, .string ⟨#[]⟩, .int .i64 0, .int .i64 0, .int .i64 0, .int .i64 0, .int .i64 0, .slice none 0 0, .slice none 0 0, .string ⟨#[]⟩, .int .i64 0, .string ⟨#[]⟩, .int .i64 0, .int .i64 0, .string ⟨#[]⟩, .int .i64 0, .int .i64 0, .int .i64 0, .int .i64 0, .int .i64 0, .slice none 0 0, .slice none 0 0, .string ⟨#[]⟩, .int .i64 0, .string ⟨#[]⟩] 61)
    have e2 := heap_alloc_new (w.alloc (.cells #[.int .i64 0, .int .i64 0, .int .i64 0, .string ⟨#[]⟩, .int .i64 0, .int .i64 0, .int .i64 0, .int .i64 0, .int .i64 0, .slice none 0 0, .slice none 0 0, .string ⟨#[]⟩, .int .i64 0, .string ⟨#[]⟩, .int .i64 0, .int .i64 0, .string ⟨#[]⟩, .int .i64 0, .int .i64 0, .int .i64 0, .int .i64 0, .int .i64 0, .slice none 0 0, .slice none 0 0, .string ⟨#[]⟩, .int .i64 0, .string ⟨#[]⟩] 61)) (.cells #[.int .i64 0, .int .i64 0, .int .i64 0, .string ⟨#[]⟩, .int .i64 0, .int .i64 0, .int .i64 0, .int .i64 0, .int .i64 0, .slice none 0 0, .slice none 0 0, .string ⟨#[]⟩, .int .i64 0, .string ⟨#[]⟩, .int .i64 0, .int .i64 0, .string ⟨#[]⟩, .int .i64 0, .int .i64 0, .int .i64 0, .int .i64 0, .int .i64 0, .slice none 0 0, .slice none 0 0, .string ⟨#[]⟩, .int .i64 0, .string ⟨#[]⟩] 61)
    simp only [World.size_alloc] at e2
    exact ⟨((Ex.new (w.alloc (.cells #[.int .i64 0, .int .i64 0, .int .i64 0, .string ⟨#[]⟩, .int .i64 0, .int .i64 0, .int .i64 0, .int .i64 0, .int .i64 0, .slice none 0 0, .slice none 0 0, .string ⟨#[]⟩, .int .i64 0, .string ⟨#[]⟩, .int .i64 0, .int .i64 0, .string ⟨#[]⟩, .int .i64 0, .int .i64 0, .int .i64 0, .int .i64 0, .int .i64 0, .slice none 0 0, .slice none 0 0, .string ⟨#[]⟩, .int .i64 0, .string ⟨#[]⟩] 61)) (.cells #[.int .i64 0, .int .i64 0, .int .i64 0, .string ⟨#[]⟩, .int .i64 0, .int .i64 0, .int .i64 0, .int .i64 0, .int .i64 0, .slice none 0 0, .slice none 0 0, .string ⟨#[]⟩, .int .i64 0, .string ⟨#[]⟩, .int .i64 0, .int .i64 0, .string ⟨#[]⟩, .int .i64 0, .int .i64 0, .int .i64 0, .int .i64 0, .int .i64 0, .slice none 0 0, .slice none 0 0, .string ⟨#[]⟩, .int .i64 0, .string ⟨#[]⟩] 61)).block w.heap.size (by simp) (by simp)).trans e1, e2⟩)
  have HX : Hid (∀ w', Ex w.heap.size none w w' → SlAt stRep (fun b => b < w.heap.size) w' ao [x, y]) := Lib.hid (fun w' h => (hv.mono (P' := fun b => b < w.heap.size) (by decide) fun b _ hb => hb).keep (by decide) fun b _ hb => h.block b hb (by simp))
  have HF : Hid (x.author = a ∧ y.author = a ∧ x.number = y.number) := Lib.hid ⟨hx, hy, hn⟩
  have HD := Lib.hid hd
  have HH := Lib.hid hh
  clear hv hx hy hn hd hh
  go_enter Tryz.func111, Tryz.ntmps111
  go_upto_region 4 with (fail)
  refine wp_world (fun W => W = w0) (by rw [hw0]) (fun W hW => ?_)
  rw [hW]
  clear hW W hw0
  go_loopw [7, 8] (fun o i wr => ∃ (k : Nat) (ob : Bool), k ≤ 2 ∧ o = .bool ob ∧ i = .int .i64 k ∧ Hid (ob = decide (h < 2 * k)) ∧ Hid (BestP a (w.heap.size + 1) ob wr) ∧ Hid (wr.heap[w.heap.size]? = some (.cells #[.int .i64 0, .int .i64 0, .int .i64 0, .string ⟨#[]⟩, .int .i64 0, .int .i64 0, .int .i64 0, .int .i64 0, .int .i64 0, .slice none 0 0, .slice none 0 0, .string ⟨#[]⟩, .int .i64 0, .string ⟨#[]⟩, .int .i64 0, .int .i64 0, .string ⟨#[]⟩, .int .i64 0, .int .i64 0, .int .i64 0, .int .i64 0, .int .i64 0, .slice none 0 0, .slice none 0 0, .string ⟨#[]⟩, .int .i64 0, .string ⟨#[]⟩] 61 (0, 0))) ∧ Ex w.heap.size none w wr) (fun _ i _ => 2 - (intOf i).toNat)
  case atStart => exact ⟨0, false, by omega, rfl, rfl, Lib.hid (by simp), Lib.hid ⟨_, HB0.out.2, rfl, fun e => by cases e⟩, Lib.hid HB0.out.1, HE0.out⟩
  case round =>
    obtain ⟨i, ob, hi, rfl, rfl, HOB, HBP, HBR, hex⟩ := hrel
    obtain ⟨w1, hw1⟩ : ∃ w1, w1 = wr := ⟨_, rfl⟩
    subst hw1
    have hsz := hex.size
    have HEX := Lib.hid hex
    have hwl : w.heap.size + 1 < w1.heap.size := (by obtain ⟨cs, h1, _⟩ := HBP.out; exact (Array.getElem?_eq_some_iff.1 h1).1)
    clear hex
    by_cases hlt : i < 2
    · have hltI : (i : Int) < (2 : Int) := by omega
      go_upto_region 7 with (fail)
      go_loopw [7, 9] (fun o v wr => ∃ (k : Nat) (oc : Bool), k ≤ 2 ∧ o = .bool oc ∧ v = .int .i64 k ∧ Hid (oc = decide (h < 2 * i + k)) ∧ Hid (BestP a (w.heap.size + 1) oc wr) ∧ Hid (wr.heap[w.heap.size]? = some (.cells #[.int .i64 0, .int .i64 0, .int .i64 0, .string ⟨#[]⟩, .int .i64 0, .int .i64 0, .int .i64 0, .int .i64 0, .int .i64 0, .slice none 0 0, .slice none 0 0, .string ⟨#[]⟩, .int .i64 0, .string ⟨#[]⟩, .int .i64 0, .int .i64 0, .string ⟨#[]⟩, .int .i64 0, .int .i64 0, .int .i64 0, .int .i64 0, .int .i64 0, .slice none 0 0, .slice none 0 0, .string ⟨#[]⟩, .int .i64 0, .string ⟨#[]⟩] 61 (0, 0))) ∧ Ex w.heap.size none w wr) (fun _ v _ => 2 - (intOf v).toNat)
      case atStart => exact ⟨0, ob, by omega, rfl, rfl, HOB, HBP, HBR, HEX.out⟩
      case round =>
        obtain ⟨k, oc, hk, rfl, rfl, HOC, HBC, HBD, hex2⟩ := hrel
        have hsz2 := hex2.size
        have HEX2 := Lib.hid hex2
        have hwl2 : w.heap.size + 1 < wr.heap.size := (by obtain ⟨cs, h1, _⟩ := HBC.out; exact (Array.getElem?_eq_some_iff.1 h1).1)
        clear hex2
        by_cases hlk : k < 2
        · have hlkI : (k : Int) < (2 : Int) := by omega
          obtain ⟨b, off, X, hao, hPb, hbl, HXs, _, HLDx⟩ := stv_get (HX.out wr HEX2.out) i hlt
          obtain ⟨b', off', Y, hao', _, _, HYs, _, HLDy⟩ := stv_get (HX.out wr HEX2.out) k hlk
          have HAO := Lib.hid hao
          subst hao
          cases hao'
          have hbs : b ≠ wr.heap.size := by omega
          have hbs1 : b ≠ wr.heap.size + 1 := by omega
          have HBL : Hid (Op.bytesLess X.1.dig.toList Y.1.dig.toList = decide (2 * i + k = h)) := Lib.hid (HD.out i k _ _ HXs.out HYs.out)
          have HAU : Hid (X.1.author = a ∧ Y.1.author = a ∧ X.1.number = Y.1.number) := Lib.hid (by
            obtain ⟨f1, f2, f3⟩ := HF.out
            have G : ∀ s ∈ [x, y], s.author = a ∧ s.number = x.number := fun s hs => by
              simp only [List.mem_cons, List.not_mem_nil, or_false] at hs
              rcases hs with rfl | rfl
              · exact ⟨f1, rfl⟩
              · exact ⟨f2, f3.symm⟩
            have g1 := G _ (List.mem_of_getElem? HXs.out)
            have g2 := G _ (List.mem_of_getElem? HYs.out)
            exact ⟨g1.1, g2.1, g1.2.trans g2.2.symm⟩)
          have HQ : Hid (∀ w', w'.heap[b]? = wr.heap[b]? → (rowLoad 37 ⟨b, off + i * 13, none⟩).run Tryz.prog w' = .ok (stV X) w' ∧ (rowLoad 37 ⟨b, off + k * 13, none⟩).run Tryz.prog w' = .ok (stV Y) w') := Lib.hid (fun w' h => ⟨HLDx.out w' h, HLDy.out w' h⟩)
          obtain ⟨q1, q2⟩ := HQ.out wr rfl
          go_upto_region 9 with (fail)
          obtain ⟨t0, t1⟩ := two_alloc wr
          have hA1 : ((wr.alloc (.cells #[.int .i64 0, .int .i64 0, .string ⟨#[]⟩, .int .i64 0, .int .i64 0, .int .i64 0, .int .i64 0, .int .i64 0, .slice none 0 0, .slice none 0 0, .string ⟨#[]⟩, .int .i64 0, .string ⟨#[]⟩] 37)).alloc (.cells #[.int .i64 0, .int .i64 0, .string ⟨#[]⟩, .int .i64 0, .int .i64 0, .int .i64 0, .int .i64 0, .int .i64 0, .slice none 0 0, .slice none 0 0, .string ⟨#[]⟩, .int .i64 0, .string ⟨#[]⟩] 37)).heap[b]? = wr.heap[b]? := (((Ex.new wr _).alloc (by simp) _).block b hbl (by simp))
          have hXA : Ex wr.heap.size none wr ((wr.alloc (.cells #[.int .i64 0, .int .i64 0, .string ⟨#[]⟩, .int .i64 0, .int .i64 0, .int .i64 0, .int .i64 0, .int .i64 0, .slice none 0 0, .slice none 0 0, .string ⟨#[]⟩, .int .i64 0, .string ⟨#[]⟩] 37)).alloc (.cells #[.int .i64 0, .int .i64 0, .string ⟨#[]⟩, .int .i64 0, .int .i64 0, .int .i64 0, .int .i64 0, .int .i64 0, .slice none 0 0, .slice none 0 0, .string ⟨#[]⟩, .int .i64 0, .string ⟨#[]⟩] 37)) := (Ex.new wr _).alloc (by simp) _
          have t0d : (((wr.alloc (.cells #[.int .i64 0, .int .i64 0, .string ⟨#[]⟩, .int .i64 0, .int .i64 0, .int .i64 0, .int .i64 0, .int .i64 0, .slice none 0 0, .slice none 0 0, .string ⟨#[]⟩, .int .i64 0, .string ⟨#[]⟩] 37)).alloc (.cells #[.int .i64 0, .int .i64 0, .string ⟨#[]⟩, .int .i64 0, .int .i64 0, .int .i64 0, .int .i64 0, .int .i64 0, .slice none 0 0, .slice none 0 0, .string ⟨#[]⟩, .int .i64 0, .string ⟨#[]⟩] 37))).drew.heap[wr.heap.size]? = some (.cells #[.int .i64 0, .int .i64 0, .string ⟨#[]⟩, .int .i64 0, .int .i64 0, .int .i64 0, .int .i64 0, .int .i64 0, .slice none 0 0, .slice none 0 0, .string ⟨#[]⟩, .int .i64 0, .string ⟨#[]⟩] 37 (0, 0)) := t0
          have t1d : (((wr.alloc (.cells #[.int .i64 0, .int .i64 0, .string ⟨#[]⟩, .int .i64 0, .int .i64 0, .int .i64 0, .int .i64 0, .int .i64 0, .slice none 0 0, .slice none 0 0, .string ⟨#[]⟩, .int .i64 0, .string ⟨#[]⟩] 37)).alloc (.cells #[.int .i64 0, .int .i64 0, .string ⟨#[]⟩, .int .i64 0, .int .i64 0, .int .i64 0, .int .i64 0, .int .i64 0, .slice none 0 0, .slice none 0 0, .string ⟨#[]⟩, .int .i64 0, .string ⟨#[]⟩] 37))).drew.heap[wr.heap.size + 1]? = some (.cells #[.int .i64 0, .int .i64 0, .string ⟨#[]⟩, .int .i64 0, .int .i64 0, .int .i64 0, .int .i64 0, .int .i64 0, .slice none 0 0, .slice none 0 0, .string ⟨#[]⟩, .int .i64 0, .string ⟨#[]⟩] 37 (0, 0)) := t1
          have s1 := two_store _ _ X t0d
          have s4 := two_store _ _ X t1d
          have u5 : (((((wr.alloc (.cells #[.int .i64 0, .int .i64 0, .string ⟨#[]⟩, .int .i64 0, .int .i64 0, .int .i64 0, .int .i64 0, .int .i64 0, .slice none 0 0, .slice none 0 0, .string ⟨#[]⟩, .int .i64 0, .string ⟨#[]⟩] 37)).alloc (.cells #[.int .i64 0, .int .i64 0, .string ⟨#[]⟩, .int .i64 0, .int .i64 0, .int .i64 0, .int .i64 0, .int .i64 0, .slice none 0 0, .slice none 0 0, .string ⟨#[]⟩, .int .i64 0, .string ⟨#[]⟩] 37))).drew).setRow wr.heap.size (stV X).cells).heap[wr.heap.size + 1]? = some (.cells #[.int .i64 0, .int .i64 0, .string ⟨#[]⟩, .int .i64 0, .int .i64 0, .int .i64 0, .int .i64 0, .int .i64 0, .slice none 0 0, .slice none 0 0, .string ⟨#[]⟩, .int .i64 0, .string ⟨#[]⟩] 37 (0, 0)) := (setRow_other _ _ _ _ (by omega)).trans t1d
          have s5 := two_store _ _ Y u5
          have u8 : (((((wr.alloc (.cells #[.int .i64 0, .int .i64 0, .string ⟨#[]⟩, .int .i64 0, .int .i64 0, .int .i64 0, .int .i64 0, .int .i64 0, .slice none 0 0, .slice none 0 0, .string ⟨#[]⟩, .int .i64 0, .string ⟨#[]⟩] 37)).alloc (.cells #[.int .i64 0, .int .i64 0, .string ⟨#[]⟩, .int .i64 0, .int .i64 0, .int .i64 0, .int .i64 0, .int .i64 0, .slice none 0 0, .slice none 0 0, .string ⟨#[]⟩, .int .i64 0, .string ⟨#[]⟩] 37))).drew).setRow (wr.heap.size + 1) (stV X).cells).heap[wr.heap.size]? = some (.cells #[.int .i64 0, .int .i64 0, .string ⟨#[]⟩, .int .i64 0, .int .i64 0, .int .i64 0, .int .i64 0, .int .i64 0, .slice none 0 0, .slice none 0 0, .string ⟨#[]⟩, .int .i64 0, .string ⟨#[]⟩] 37 (0, 0)) := (setRow_other _ _ _ _ (by omega)).trans t0d
          have s8 := two_store _ _ Y u8
          have HTB := two_done wr _ X Y t0d t1d hXA.drew
          have HTD := (two_done' wr _ Y X t0d t1d hXA.drew).swap
          obtain ⟨wa, hwa⟩ : ∃ wa : World, wa = (((wr.alloc (.cells #[.int .i64 0, .int .i64 0, .string ⟨#[]⟩, .int .i64 0, .int .i64 0, .int .i64 0, .int .i64 0, .int .i64 0, .slice none 0 0, .slice none 0 0, .string ⟨#[]⟩, .int .i64 0, .string ⟨#[]⟩] 37)).alloc (.cells #[.int .i64 0, .int .i64 0, .string ⟨#[]⟩, .int .i64 0, .int .i64 0, .int .i64 0, .int .i64 0, .int .i64 0, .slice none 0 0, .slice none 0 0, .string ⟨#[]⟩, .int .i64 0, .string ⟨#[]⟩] 37))).drew.setRow wr.heap.size (stV X).cells := ⟨_, rfl⟩
          obtain ⟨wc, hwc⟩ : ∃ wc : World, wc = (((wr.alloc (.cells #[.int .i64 0, .int .i64 0, .string ⟨#[]⟩, .int .i64 0, .int .i64 0, .int .i64 0, .int .i64 0, .int .i64 0, .slice none 0 0, .slice none 0 0, .string ⟨#[]⟩, .int .i64 0, .string ⟨#[]⟩] 37)).alloc (.cells #[.int .i64 0, .int .i64 0, .string ⟨#[]⟩, .int .i64 0, .int .i64 0, .int .i64 0, .int .i64 0, .int .i64 0, .slice none 0 0, .slice none 0 0, .string ⟨#[]⟩, .int .i64 0, .string ⟨#[]⟩] 37))).drew.setRow (wr.heap.size + 1) (stV X).cells := ⟨_, rfl⟩
          have hka : wa.heap[b]? = wr.heap[b]? := by rw [hwa]; exact (setRow_other _ _ _ _ hbs).trans hA1
          have hkc : wc.heap[b]? = wr.heap[b]? := by rw [hwc]; exact (setRow_other _ _ _ _ hbs1).trans hA1
          rw [← hwa] at s1 s5 HTB
          rw [← hwc] at s4 s8 HTD
          obtain ⟨wb, hwb⟩ : ∃ wb : World, wb = wa.setRow (wr.heap.size + 1) (stV Y).cells := ⟨_, rfl⟩
          obtain ⟨wd, hwd⟩ : ∃ wd : World, wd = wc.setRow wr.heap.size (stV Y).cells := ⟨_, rfl⟩
          have hkb : wb.heap[b]? = wr.heap[b]? := by rw [hwb]; exact (setRow_other _ _ _ _ hbs1).trans hka
          have hkd : wd.heap[b]? = wr.heap[b]? := by rw [hwd]; exact (setRow_other _ _ _ _ hbs).trans hkc
          rw [← hwb] at s5 HTB
          rw [← hwd] at s8 HTD
          have HTB := Lib.hid HTB
          have HTD := Lib.hid HTD
          clear u5 u8 t0 t1 t0d t1d hwa hwb hwc hwd
          go_cut [10, 11] from 24 to 31 (fun p q W => TwoBox wr X Y p q W)
          case first =>
            go_region_held3 (fun w' => (rowLoad 37 ⟨b, off + i * 13, none⟩).run Tryz.prog w' = .ok (stV X) w' ∧ (rowLoad 37 ⟨b, off + k * 13, none⟩).run Tryz.prog w' = .ok (stV Y) w') (exact HQ.out _ (by first | rfl | exact hka | exact hkb | exact hkc | exact hkd | exact hA1 | exact (Ex.new wr _).block b hbl (by simp))) (fail)
            all_goals go_wp2_with (fail)
            all_goals go_meet
            all_goals first
              | exact HTB.out
              | exact HTB.out.drew
              | exact HTD.out
              | exact HTD.out.drew
          case rest =>
          rename World => w5
          obtain ⟨g1, g2, rfl, rfl, hb1, hb2, hex5⟩ := hcut
          have HE5 := Lib.hid hex5
          have HB1 := Lib.hid hb1
          have HB2 := Lib.hid hb2
          have hz5 := hex5.size
          have r1 := stV_box hb1
          have r2 := stV_box hb2
          obtain ⟨nn, hnn⟩ : ∃ nn, nn = X.1.number := ⟨_, rfl⟩
          obtain ⟨d1, hd1⟩ : ∃ d, d = X.1.dig := ⟨_, rfl⟩
          obtain ⟨d2, hd2⟩ : ∃ d, d = Y.1.dig := ⟨_, rfl⟩
          have c0 : w5.cell? ⟨g1, 0, none⟩ = some (.int .i64 a) := by rw [cell_of_row _ _ _ _ _ _ hb1, ← HAU.out.1]; rfl
          have c1 : w5.cell? ⟨g1, 1, none⟩ = some (.int .i64 nn) := by rw [cell_of_row _ _ _ _ _ _ hb1, hnn]; rfl
          have c2 : w5.cell? ⟨g1, 12, none⟩ = some (.string d1) := by rw [cell_of_row _ _ _ _ _ _ hb1, hd1]; rfl
          have e0 : w5.cell? ⟨g2, 0, none⟩ = some (.int .i64 a) := by rw [cell_of_row _ _ _ _ _ _ hb2, ← HAU.out.2.1]; rfl
          have e1 : w5.cell? ⟨g2, 1, none⟩ = some (.int .i64 nn) := by rw [cell_of_row _ _ _ _ _ _ hb2, hnn, HAU.out.2.2]; rfl
          have e2 : w5.cell? ⟨g2, 12, none⟩ = some (.string d2) := by rw [cell_of_row _ _ _ _ _ _ hb2, hd2]; rfl
          have HLS : Hid (Op.bytesLess d1.toList d2.toList = decide (2 * i + k = h)) := Lib.hid (by rw [hd1, hd2]; exact HBL.out)
          have HB5 : Hid (BestP a (w.heap.size + 1) oc w5) := Lib.hid (HBC.out.keep (HE5.out.block _ hwl2 (by simp)))
          have HR5 : Hid (w5.heap[w.heap.size]? = some (.cells #[.int .i64 0, .int .i64 0, .int .i64 0, .string ⟨#[]⟩, .int .i64 0, .int .i64 0, .int .i64 0, .int .i64 0, .int .i64 0, .slice none 0 0, .slice none 0 0, .string ⟨#[]⟩, .int .i64 0, .string ⟨#[]⟩, .int .i64 0, .int .i64 0, .string ⟨#[]⟩, .int .i64 0, .int .i64 0, .int .i64 0, .int .i64 0, .int .i64 0, .slice none 0 0, .slice none 0 0, .string ⟨#[]⟩, .int .i64 0, .string ⟨#[]⟩] 61 (0, 0))) := Lib.hid ((HE5.out.block _ (by omega) (by simp)).trans HBD.out)
          have HX5 : Hid (Ex w.heap.size none w w5) := Lib.hid (HEX2.out.trans HE5.out hsz2 (by simp))
          clear hb1 hb2 hex5 hd1 hd2 hnn
          by_cases hit : 2 * i + k = h
          · have hls : Op.bytesLess d1.toList d2.toList = true := HLS.out.trans (decide_eq_true hit)
            have hoc : oc = false := by rw [HOC.out]; exact decide_eq_false (by omega)
            subst hoc
            have HIT : Hid (true = decide (h < 2 * i + (k + 1))) := Lib.hid (decide_eq_true (by omega)).symm
            clear hit
            obtain ⟨cs, hcs, hsz27, _⟩ := HB5.out
            have hbd := build_proof w5 1 X Y
            have hst : (rowStore 61 ⟨w.heap.size + 1, 0, none⟩ (proofV 1 X Y)).run Tryz.prog w5 = .ok () (w5.setRow (w.heap.size + 1) (proofV 1 X Y).cells) := run_rowStore (P := Tryz.prog) w5 (w.heap.size + 1) 61 61 cs (proofV 1 X Y).cells hcs Tryz.sizePr (hsz27.trans rfl) (proofV_one _ _ _)
            obtain ⟨w6, hw6⟩ : ∃ w6 : World, w6 = w5.setRow (w.heap.size + 1) (proofV 1 X Y).cells := ⟨_, rfl⟩
            rw [← hw6] at hst
            have HB6 : Hid (BestP a (w.heap.size + 1) true w6) := Lib.hid ⟨_, by rw [hw6]; exact setRow_heap _ _ _ _ _ _ hcs, rfl, fun _ => ⟨X, Y, rfl, HAU.out.1⟩⟩
            have HR6 : Hid (w6.heap[w.heap.size]? = some (.cells #[.int .i64 0, .int .i64 0, .int .i64 0, .string ⟨#[]⟩, .int .i64 0, .int .i64 0, .int .i64 0, .int .i64 0, .int .i64 0, .slice none 0 0, .slice none 0 0, .string ⟨#[]⟩, .int .i64 0, .string ⟨#[]⟩, .int .i64 0, .int .i64 0, .string ⟨#[]⟩, .int .i64 0, .int .i64 0, .int .i64 0, .int .i64 0, .int .i64 0, .slice none 0 0, .slice none 0 0, .string ⟨#[]⟩, .int .i64 0, .string ⟨#[]⟩] 61 (0, 0))) := Lib.hid (by rw [hw6]; exact (setRow_other _ _ _ _ (by omega)).trans HR5.out)
            have HX6 : Hid (Ex w.heap.size none w w6) := Lib.hid (by rw [hw6]; exact HX5.out.setRow _ _ (.inr (by omega)))
            clear hcs hsz27 hw6
            go_wp2
            go_roundw
            case rel => exact ⟨k + 1, true, by omega, rfl, by go_num, HIT, HB6, HR6, HX6.out⟩
            case measure => simp [intOf] <;> omega
          · have hls : Op.bytesLess d1.toList d2.toList = false := HLS.out.trans (decide_eq_false hit)
            have HIT : Hid (oc = decide (h < 2 * i + (k + 1))) := Lib.hid (by
              rw [HOC.out]
              by_cases hq : h < 2 * i + k
              · rw [decide_eq_true hq, decide_eq_true (by omega)]
              · rw [decide_eq_false hq, decide_eq_false (by omega)])
            clear hit
            go_wp2
            go_roundw
            case rel => exact ⟨k + 1, oc, by omega, rfl, by go_num, HIT, HB5, HR5, HX5.out⟩
            case measure => simp [intOf] <;> omega
        · have hlkI : ¬ (k : Int) < (2 : Int) := by omega
          have HIT : Hid (oc = decide (h < 2 * (i + 1))) := Lib.hid (by rw [HOC.out]; congr 1; apply propext; constructor <;> intro <;> omega)
          go_wp2
          go_roundw
          case rel => exact ⟨i + 1, oc, by omega, rfl, by go_num, HIT, HBC, HBD, HEX2.out⟩
          case measure => simp [intOf] <;> omega
    · have hltI : ¬ (i : Int) < (2 : Int) := by omega
      have hob : ob = true := by rw [HOB.out]; exact decide_eq_true (by have := HH.out; omega)
      subst hob
      obtain ⟨cs, hcs, _, hXY⟩ := HBP.out
      obtain ⟨X, Y, rfl, hau⟩ := hXY rfl
      have HAU := Lib.hid hau
      have r1 : (rowLoad 61 ⟨w.heap.size + 1, 0, none⟩).run Tryz.prog w1 = .ok (proofV 1 X Y) w1 := run_rowLoad (P := Tryz.prog) w1 (w.heap.size + 1) 61 61 (proofV 1 X Y).cells (0, 0) _ hcs Tryz.underlying61 rfl Tryz.sizePr
      have hst : (rowStore 61 ⟨w.heap.size, 0, none⟩ (proofV 1 X Y)).run Tryz.prog w1 = .ok () (w1.setRow w.heap.size (proofV 1 X Y).cells) := run_rowStore (P := Tryz.prog) w1 w.heap.size 61 61 #[.int .i64 0, .int .i64 0, .int .i64 0, .string ⟨#[]⟩, .int .i64 0, .int .i64 0, .int .i64 0, .int .i64 0, .int .i64 0, .slice none 0 0, .slice none 0 0, .string ⟨#[]⟩, .int .i64 0, .string ⟨#[]⟩, .int .i64 0, .int .i64 0, .string ⟨#[]⟩, .int .i64 0, .int .i64 0, .int .i64 0, .int .i64 0, .int .i64 0, .slice none 0 0, .slice none 0 0, .string ⟨#[]⟩, .int .i64 0, .string ⟨#[]⟩] (proofV 1 X Y).cells HBR.out Tryz.sizePr rfl (proofV_one _ _ _)
      obtain ⟨w6, hw6⟩ : ∃ w6 : World, w6 = w1.setRow w.heap.size (proofV 1 X Y).cells := ⟨_, rfl⟩
      rw [← hw6] at hst
      have HX6 : Hid (Ex w.heap.size none w w6) := Lib.hid (by rw [hw6]; exact HEX.out.setRow _ _ (.inr (Nat.le_refl _)))
      have HB6 : Hid (w6.heap[w.heap.size]? = some (.cells (proofV 1 X Y).cells 61 (0, 0))) := Lib.hid (by rw [hw6]; exact setRow_heap _ _ _ _ _ _ HBR.out)
      clear hcs hXY hau hw6
      go_wp2
      have hr : (loadVar 61 ⟨w.heap.size, 0, none⟩).run Tryz.prog w6 = .ok (proofV 1 X Y) w6 := run_loadVar_row (P := Tryz.prog) _ w.heap.size 61 61 (proofV 1 X Y).cells (0, 0) _ HB6.out Tryz.underlying61 rfl Tryz.sizePr
      refine bodyPost_ret (v := .tuple #[proofV 1 X Y, .bool true]) (results_row2 rfl _ _ (by rfl) (by rfl) hr) rfl ?_
      exact ⟨⟨X, Y, rfl, HAU.out⟩, HX6.out⟩
end Go.Proofs.YtaakacahblndcaaGreat

namespace Go.Proofs.YtaakacahblndcaaGreat
open Go.RowKit Go.Sort
attribute [local go_sem ↓] rowLoad_stv rowStore_stv
attribute [local go_sem ↓ high] builtin_appR

set_option maxRecDepth 100000 in
theorem run_app_zero {P : Program} (w : World) (t ty e : TypeId) (i : TypeInfo) (ht : P.underlying t = some (.slice e)) (hi : P.info? e = some i) (ao : Option Addr) (n cap : Nat) (hn : n ≤ cap) (so : Option Addr) (sc : Nat) :
    (appR #[t, t] ty #[.slice ao n cap, .slice so 0 sc]).run P w = .ok (.slice ao n cap) w := by
  unfold appR
  cases so <;> cases ao <;> simp [Builtin.append_, run_underlying ht, sizeOf, typeInfo, hi, Builtin.lenOf, Builtin.firstCells, storeCells, loadCells, loadCellsFrom, hn]
/-- A right statement that is no vote, its lists empty. -/
structure NoVote (x : St × Sv × Sv) : Prop where
  check : checkI x.1 = 0
  kind : x.1.kind ≠ 10
  list : x.2.1.n = 0
  pins : x.2.2.n = 0
  b : x.1.b = 0

set_option maxHeartbeats 8000000 in
set_option maxRecDepth 100000 in
theorem of23_no {P : Nat → Prop} (x : St × Sv × Sv) (w : World) (hx : Lies P w x) (hn : NoVote x) :
    Calls Tryz.prog 165 #[stV x] w fun e w' => e = .returned (.tuple #[.agg #[.int .i64 0, .int .i64 0, .int .i64 0, .int .i64 0, .int .i64 0, .slice none 0 0, .slice none 0 0], .int .i64 42]) ∧ Ex w.heap.size none w w' := by
  obtain ⟨s, ⟨la, ln, lc⟩, ⟨pa, pn, pc⟩⟩ := x
  have hln : ln = 0 := hn.list
  have hpn : pn = 0 := hn.pins
  subst hln hpn
  have HCK0 := Lib.hid hn.check
  have hkd : s.kind ≠ 10 := hn.kind
  have hb0 : s.b = 0 := hn.b
  have kd : (s.kind == 10) = false := by simpa using hkd
  have kd2 : (s.kind != 10) = true := by simpa using hkd
  obtain ⟨ws, hws⟩ : ∃ ws : World, ws = (w.alloc (.cells (stV (s, ⟨la, 0, lc⟩, ⟨pa, 0, pc⟩)).cells 37)).alloc (.cells #[.int .i64 0, .int .i64 0, .int .i64 0, .int .i64 0, .int .i64 0, .slice none 0 0, .slice none 0 0] 132) := ⟨_, rfl⟩
  have HEs : Hid (Ex w.heap.size none w ws) := Lib.hid (by rw [hws]; exact (Ex.new w _).alloc (by simp) _)
  have hzs : ws.heap.size = w.heap.size + 1 + 1 := by rw [hws]; simp
  have HBs : Hid (ws.heap[w.heap.size]? = some (.cells (stV (s, ⟨la, 0, lc⟩, ⟨pa, 0, pc⟩)).cells 37 (0, 0)) ∧ ws.heap[w.heap.size + 1]? = some (.cells #[.int .i64 0, .int .i64 0, .int .i64 0, .int .i64 0, .int .i64 0, .slice none 0 0, .slice none 0 0] 132 (0, 0))) := Lib.hid (by
    rw [hws]
    have e1 := heap_alloc_new w (.cells (stV (s, ⟨la, 0, lc⟩, ⟨pa, 0, pc⟩)).cells 37)
    have e2 := heap_alloc_new (w.alloc (.cells (stV (s, ⟨la, 0, lc⟩, ⟨pa, 0, pc⟩)).cells 37)) (.cells #[.int .i64 0, .int .i64 0, .int .i64 0, .int .i64 0, .int .i64 0, .slice none 0 0, .slice none 0 0] 132)
    have f1 := (Ex.new (w.alloc (.cells (stV (s, ⟨la, 0, lc⟩, ⟨pa, 0, pc⟩)).cells 37)) (.cells #[.int .i64 0, .int .i64 0, .int .i64 0, .int .i64 0, .int .i64 0, .slice none 0 0, .slice none 0 0] 132)).block w.heap.size (by simp) (by simp)
    simp only [World.size_alloc] at e2
    exact ⟨f1.trans e1, e2⟩)
  have HQ : Hid (∀ w', Ex ws.heap.size none ws w' → (rowLoad 37 ⟨w.heap.size, 0, none⟩).run Tryz.prog w' = .ok (stV (s, ⟨la, 0, lc⟩, ⟨pa, 0, pc⟩)) w' ∧ w'.cell? ⟨w.heap.size, 5, none⟩ = some (.int .i64 s.a) ∧ w'.cell? ⟨w.heap.size, 6, none⟩ = some (.int .i64 s.b) ∧ w'.cell? ⟨w.heap.size, 7, none⟩ = some (.int .i64 s.c) ∧ w'.cell? ⟨w.heap.size, 4, none⟩ = some (.int .i64 s.kind) ∧ w'.cell? ⟨w.heap.size, 8, none⟩ = some (.slice la 0 lc) ∧ w'.cell? ⟨w.heap.size, 9, none⟩ = some (.slice pa 0 pc)) := Lib.hid (fun w' h => by
    have k0 := (h.block w.heap.size (by omega) (by simp)).trans HBs.out.1
    exact ⟨stV_box k0, by rw [cell_of_row _ _ _ _ _ _ k0]; rfl, by rw [cell_of_row _ _ _ _ _ _ k0]; rfl, by rw [cell_of_row _ _ _ _ _ _ k0]; rfl, by rw [cell_of_row _ _ _ _ _ _ k0]; rfl, by rw [cell_of_row _ _ _ _ _ _ k0]; rfl, by rw [cell_of_row _ _ _ _ _ _ k0]; rfl⟩)
  have HLX : Hid (∀ w', Ex ws.heap.size none ws w' → Lies P w' (s, ⟨la, 0, lc⟩, ⟨pa, 0, pc⟩)) := Lib.hid (fun w' h => hx.keep fun b _ hb => (h.block b (by omega) (by simp)).trans (HEs.out.block b hb (by simp)))
  have HLM : Hid (s.list.length ≤ 9223372036854775807 ∧ s.pins.length ≤ 9223372036854775807) := Lib.hid (by have h := checkI_tame HCK0.out; have h1 : s.list.length ≤ 10000 := h.list; have h2 : s.pins.length ≤ 1000 := h.pins; omega)
  clear hx hn hkd
  go_enter Tryz.func165, Tryz.ntmps165
  go_upto_region 1 with (fail)
  refine wp_world (fun W => W = ws) (by rw [hws]; rfl) (fun W hW => ?_)
  rw [hW]
  clear hW W hws
  obtain ⟨r0, c5, c6, c7, c4, c8, c9⟩ := HQ.out _ (Ex.refl _ _ ws)
  go_upto_region 5 with (first
    | (go_at_call 86
       refine (check03_v (P := P) (s, ⟨la, 0, lc⟩, ⟨pa, 0, pc⟩) ws (HLX.out _ (Ex.refl _ _ ws)) HLM.out).mono ?_
       rintro e w1 ⟨he, hex⟩
       rw [HCK0.out] at he
       subst he
       have HE1 : Hid (Ex ws.heap.size none ws w1) := Lib.hid hex
       clear hex r0 c5 c6 c7 c4 c8 c9
       obtain ⟨r0, c5, c6, c7, c4, c8, c9⟩ := HQ.out _ HE1.out)
    | fail)
  refine wp_world (fun W => W = w1.alloc (.cells #[.int .i64 s.a, .int .i64 0, .int .i64 s.c, .int .i64 0] 66)) rfl (fun w2 hw2 => ?_)
  have HE2 : Hid (Ex ws.heap.size none ws w2) := Lib.hid (HE1.out.trans (by rw [hw2]; exact Ex.new w1 _) HE1.out.size (by simp))
  clear hw2 r0 c5 c6 c7 c4 c8 c9
  have hA1 : ∀ W g, (appR #[22, 22] 22 #[.slice g 0 0, .slice la 0 lc]).run Tryz.prog W = .ok (.slice g 0 0) W := fun W g => by
    obtain ⟨i0, hi, _⟩ := info_parts Tryz.infoInt
    exact run_app_zero W _ _ _ i0 Tryz.underlying22 hi g 0 0 (Nat.le_refl _) la lc
  have hA2 : ∀ W g, (appR #[33, 33] 33 #[.slice g 0 0, .slice pa 0 pc]).run Tryz.prog W = .ok (.slice g 0 0) W := fun W g => by
    obtain ⟨i0, hi, _⟩ := info_parts Tryz.infoPin
    exact run_app_zero W _ _ _ i0 Tryz.underlying33 hi g 0 0 (Nat.le_refl _) pa pc
  obtain ⟨r0, c5, c6, c7, c4, c8, c9⟩ := HQ.out _ HE2.out
  go_cut [6] from 24 to 32 (fun p W => (∃ g, p = .pointer (some ⟨g, 0, none⟩)) ∧ Ex ws.heap.size none ws W)
  case first =>
    go_region_held3 (fun w' => w'.cell? ⟨w.heap.size, 8, none⟩ = some (.slice la 0 lc) ∧ w'.cell? ⟨w.heap.size, 9, none⟩ = some (.slice pa 0 pc)) (exact (HQ.out _ (by repeat (first | with_reducible exact HE2.out | with_reducible refine Ex.alloc ?_ (by first | exact HE2.out.size | (simp; done) | (simp; have := HE2.out.size; omega)) _ | with_reducible refine Ex.drew ?_ | with_reducible refine Ex.setCell ?_ _ none _ (.inr (by first | exact HE2.out.size | (simp; have := HE2.out.size; omega)))))).2.2.2.2.2) (fail)
    all_goals go_wp2_with (fail)
    all_goals go_meet
    all_goals exact ⟨⟨_, rfl⟩, (by repeat (first | with_reducible exact HE2.out | with_reducible refine Ex.alloc ?_ (by first | exact HE2.out.size | (simp; done) | (simp; have := HE2.out.size; omega)) _ | with_reducible refine Ex.drew ?_ | with_reducible refine Ex.setCell ?_ _ none _ (.inr (by first | exact HE2.out.size | (simp; have := HE2.out.size; omega)))))⟩
  case rest =>
  rename World => w3
  obtain ⟨⟨g6, rfl⟩, hex3⟩ := hcut
  have HE3 := Lib.hid hex3
  clear hex3 r0 c5 c6 c7 c4 c8 c9 hA1 hA2
  obtain ⟨r0, c5, c6, c7, c4, c8, c9⟩ := HQ.out _ HE3.out
  have hb3 : w3.heap[w.heap.size + 1]? = some (.cells #[.int .i64 0, .int .i64 0, .int .i64 0, .int .i64 0, .int .i64 0, .slice none 0 0, .slice none 0 0] 132 (0, 0)) := (HE3.out.block (w.heap.size + 1) (by omega) (by simp)).trans HBs.out.2
  have m0 : w3.cell? ⟨w.heap.size + 1, 0, none⟩ = some (.int .i64 0) := by rw [cell_of_row _ _ _ _ _ _ hb3]; rfl
  have f0 : w3.frozen? ⟨w.heap.size + 1, 0, none⟩ = false := by simp [World.frozen?, hb3]
  have m1 : w3.cell? ⟨w.heap.size + 1, 1, none⟩ = some (.int .i64 0) := by rw [cell_of_row _ _ _ _ _ _ hb3]; rfl
  have f1 : w3.frozen? ⟨w.heap.size + 1, 1, none⟩ = false := by simp [World.frozen?, hb3]
  have m2 : w3.cell? ⟨w.heap.size + 1, 2, none⟩ = some (.int .i64 0) := by rw [cell_of_row _ _ _ _ _ _ hb3]; rfl
  have f2 : w3.frozen? ⟨w.heap.size + 1, 2, none⟩ = false := by simp [World.frozen?, hb3]
  have m3 : w3.cell? ⟨w.heap.size + 1, 3, none⟩ = some (.int .i64 0) := by rw [cell_of_row _ _ _ _ _ _ hb3]; rfl
  have f3 : w3.frozen? ⟨w.heap.size + 1, 3, none⟩ = false := by simp [World.frozen?, hb3]
  have m4 : w3.cell? ⟨w.heap.size + 1, 4, none⟩ = some (.int .i64 0) := by rw [cell_of_row _ _ _ _ _ _ hb3]; rfl
  have f4 : w3.frozen? ⟨w.heap.size + 1, 4, none⟩ = false := by simp [World.frozen?, hb3]
  have m5 : w3.cell? ⟨w.heap.size + 1, 5, none⟩ = some (.slice none 0 0) := by rw [cell_of_row _ _ _ _ _ _ hb3]; rfl
  have f5 : w3.frozen? ⟨w.heap.size + 1, 5, none⟩ = false := by simp [World.frozen?, hb3]
  have m6 : w3.cell? ⟨w.heap.size + 1, 6, none⟩ = some (.slice none 0 0) := by rw [cell_of_row _ _ _ _ _ _ hb3]; rfl
  have f6 : w3.frozen? ⟨w.heap.size + 1, 6, none⟩ = false := by simp [World.frozen?, hb3]
  clear hb3
  go_wp2
  refine bodyPost_ret (v := .tuple #[.agg #[.int .i64 0, .int .i64 0, .int .i64 0, .int .i64 0, .int .i64 0, .slice none 0 0, .slice none 0 0], .int .i64 42]) (by simp [results, Tryz.results165, go_sem, m0, m1, m2, m3, m4, m5, m6]) rfl ?_
  refine ⟨rfl, ?_⟩
  iterate 7 refine Ex.setCell ?_ _ none _ (.inr (by omega))
  exact HEs.out.trans HE3.out (by omega) (by simp)
end Go.Proofs.YtaakacahblndcaaGreat

namespace Go.Proofs.YtaakacahblndcaaGreat
open Go.RowKit Go.Sort
attribute [local go_sem ↓] rowLoad_stv rowStore_stv

/-- The next operation of the text is taken first. -/
theorem tkV {P : Program} {md : Region.Mode} {ops : Array Oper} {Q : Exit → Act → World → Prop} {S : World → Prop} {oi : Oper} {k fuel : Nat} {listed : Array Bool} {a : Act} {w : World} (h : ∃ v, (∀ w', S w' → (execOp a.eval oi).run P w' = .ok (.value v) w') ∧ wpAnyH P md ops Q S fuel (listed.setIfInBounds (ops.size - 1 - fuel) true) (a.put (some k) v) w)
    (hi : ops[ops.size - 1 - fuel]? = some oi := by rfl) (hd : oi.dst = some k := by rfl) (hs : Region.noSelect ops = true := by kernel_rfl) (hf : Region.free md ops listed (ops.size - 1 - fuel) = true := by kernel_rfl) (hr : (Region.ready md ops listed).contains (ops.size - 1 - fuel) = true := by kernel_rfl)
    (hQ : ∀ v c a w, Q (.panic c) (a.put (some k) v) w → Q (.panic c) a w := by exact fun _ _ _ _ h => h) (hw : Region.wanted oi (yielded ops a.tmps) = true := by rfl) (hS : S w := by assumption) : wpAnyH P md ops Q S (fuel + 1) listed a w := by
  obtain ⟨v, h1, h2⟩ := h
  rw [← hd] at h2
  exact wpAnyH_take hi hs hf hr (by rw [hd]; exact hQ v) (.inl ⟨hw, h1⟩) hS h2
/-- The next operation of the text is not wanted. -/
theorem skV {P : Program} {md : Region.Mode} {ops : Array Oper} {Q : Exit → Act → World → Prop} {S : World → Prop} {oi : Oper} {k fuel : Nat} {listed : Array Bool} {a : Act} {w : World} (h : wpAnyH P md ops Q S fuel (listed.setIfInBounds (ops.size - 1 - fuel) true) (a.put (some k) undef) w)
    (hi : ops[ops.size - 1 - fuel]? = some oi := by rfl) (hd : oi.dst = some k := by rfl) (hs : Region.noSelect ops = true := by kernel_rfl) (hf : Region.free md ops listed (ops.size - 1 - fuel) = true := by kernel_rfl) (hr : (Region.ready md ops listed).contains (ops.size - 1 - fuel) = true := by kernel_rfl)
    (hQ : ∀ v c a w, Q (.panic c) (a.put (some k) v) w → Q (.panic c) a w := by exact fun _ _ _ _ h => h) (hw : Region.wanted oi (yielded ops a.tmps) = false := by rfl) (hS : S w := by assumption) : wpAnyH P md ops Q S (fuel + 1) listed a w := by
  rw [← hd] at h
  exact wpAnyH_take hi hs hf hr (by rw [hd]; exact hQ undef) (.inr ⟨hw, rfl⟩) hS h
/-- A store of what is there. -/
theorem set_same {w : World} {g o : Nat} {v : Value} {cs : Array Value} {t : TypeId} (h : w.heap[g]? = some (.cells cs t (0, 0))) (hc : cs.setIfInBounds o v = cs) : (w.setCell ⟨g, o, none⟩ v).heap[g]? = some (.cells cs t (0, 0)) := by
  rw [heap_setCell_same _ _ _ _ _ _ h, hc]
theorem drew_heap (w : World) (b : Nat) : w.drew.heap[b]? = w.heap[b]? := rfl
/-- What the region reads: no vote, at g. -/
def QV (g : Nat) (w' : World) : Prop := w'.cell? ⟨g, 0, none⟩ = some (.int .i64 0) ∧ w'.cell? ⟨g, 1, none⟩ = some (.int .i64 0) ∧ w'.cell? ⟨g, 2, none⟩ = some (.int .i64 0) ∧ w'.cell? ⟨g, 3, none⟩ = some (.int .i64 0) ∧ w'.cell? ⟨g, 4, none⟩ = some (.int .i64 0) ∧ w'.cell? ⟨g, 5, none⟩ = some (.slice none 0 0) ∧ w'.cell? ⟨g, 6, none⟩ = some (.slice none 0 0)
set_option maxHeartbeats 8000000 in
set_option maxRecDepth 100000 in
theorem vote27_no {P : Nat → Prop} (x : St × Sv × Sv) (w : World) (hx : Lies P w x) (hn : NoVote x) :
    Calls Tryz.prog 162 #[stV x] w fun e w' => e = .returned (.tuple #[.agg #[.int .i64 0, .int .i64 0, .int .i64 0, .int .i64 0, .int .i64 0, .slice none 0 0, .slice none 0 0], .bool false]) ∧ Ex w.heap.size none w w' := by
  obtain ⟨ws, hws⟩ : ∃ ws : World, ws = (w.alloc (.cells (stV x).cells 37)).alloc (.cells #[.int .i64 0, .int .i64 0, .int .i64 0, .int .i64 0, .int .i64 0, .slice none 0 0, .slice none 0 0] 132) := ⟨_, rfl⟩
  have HEs : Hid (Ex w.heap.size none w ws) := Lib.hid (by rw [hws]; exact (Ex.new w _).alloc (by simp) _)
  have hzs : ws.heap.size = w.heap.size + 1 + 1 := by rw [hws]; simp
  have HBs : Hid (ws.heap[w.heap.size]? = some (.cells (stV x).cells 37 (0, 0)) ∧ ws.heap[w.heap.size + 1]? = some (.cells #[.int .i64 0, .int .i64 0, .int .i64 0, .int .i64 0, .int .i64 0, .slice none 0 0, .slice none 0 0] 132 (0, 0))) := Lib.hid (by
    rw [hws]
    have e1 := heap_alloc_new w (.cells (stV x).cells 37)
    have e2 := heap_alloc_new (w.alloc (.cells (stV x).cells 37)) (.cells #[.int .i64 0, .int .i64 0, .int .i64 0, .int .i64 0, .int .i64 0, .slice none 0 0, .slice none 0 0] 132)
    have f1 := (Ex.new (w.alloc (.cells (stV x).cells 37)) (.cells #[.int .i64 0, .int .i64 0, .int .i64 0, .int .i64 0, .int .i64 0, .slice none 0 0, .slice none 0 0] 132)).block w.heap.size (by simp) (by simp)
    simp only [World.size_alloc] at e2
    exact ⟨f1.trans e1, e2⟩)
  have HR : Hid (∀ w', Ex ws.heap.size none ws w' → (rowLoad 37 ⟨w.heap.size, 0, none⟩).run Tryz.prog w' = .ok (stV x) w') := Lib.hid (fun w' h => stV_box ((h.block w.heap.size (by omega) (by simp)).trans HBs.out.1))
  have HLX : Hid (Lies P ws x) := Lib.hid (hx.keep fun b _ hb => HEs.out.block b hb (by simp))
  have HNV := Lib.hid hn
  clear hx hn
  go_enter Tryz.func162, Tryz.ntmps162
  go_upto_region 1 with (fail)
  refine wp_world (fun W => W = ws) (by rw [hws]; rfl) (fun W hW => ?_)
  rw [hW]
  clear hW W hws
  have r0 := HR.out _ (Ex.refl _ _ ws)
  go_upto_region 2 with (first
    | (go_at_call 165
       refine (of23_no (P := P) x ws HLX.out HNV.out).mono ?_
       rintro e w1 ⟨rfl, hex⟩
       have HE1 : Hid (Ex ws.heap.size none ws w1) := Lib.hid hex
       clear hex r0)
    | fail)
  refine wp_world (fun W => W = w1.alloc (.cells #[.int .i64 0, .int .i64 0, .int .i64 0, .int .i64 0, .int .i64 0, .slice none 0 0, .slice none 0 0] 132)) rfl (fun w2 hw2 => ?_)
  have HE2 : Hid (Ex ws.heap.size none ws w2) := Lib.hid (HE1.out.trans (by rw [hw2]; exact Ex.new w1 _) HE1.out.size (by simp))
  have HB2 : Hid (w2.heap[w1.heap.size]? = some (.cells #[.int .i64 0, .int .i64 0, .int .i64 0, .int .i64 0, .int .i64 0, .slice none 0 0, .slice none 0 0] 132 (0, 0))) := Lib.hid (by rw [hw2]; exact heap_alloc_new w1 _)
  have hz2 : w1.heap.size < w2.heap.size := by rw [hw2]; simp
  clear hw2
  have HC : Hid (∀ w', Ex w2.heap.size none w2 w' → w'.cell? ⟨w1.heap.size, 0, none⟩ = some (.int .i64 0) ∧ w'.cell? ⟨w1.heap.size, 1, none⟩ = some (.int .i64 0) ∧ w'.cell? ⟨w1.heap.size, 2, none⟩ = some (.int .i64 0) ∧ w'.cell? ⟨w1.heap.size, 3, none⟩ = some (.int .i64 0) ∧ w'.cell? ⟨w1.heap.size, 4, none⟩ = some (.int .i64 0) ∧ w'.cell? ⟨w1.heap.size, 5, none⟩ = some (.slice none 0 0) ∧ w'.cell? ⟨w1.heap.size, 6, none⟩ = some (.slice none 0 0)) := Lib.hid (fun w' h => by
    have hb := (h.block w1.heap.size hz2 (by simp)).trans HB2.out
    exact ⟨by rw [cell_of_row _ _ _ _ _ _ hb]; rfl, by rw [cell_of_row _ _ _ _ _ _ hb]; rfl, by rw [cell_of_row _ _ _ _ _ _ hb]; rfl, by rw [cell_of_row _ _ _ _ _ _ hb]; rfl, by rw [cell_of_row _ _ _ _ _ _ hb]; rfl, by rw [cell_of_row _ _ _ _ _ _ hb]; rfl, by rw [cell_of_row _ _ _ _ _ _ hb]; rfl⟩)
  have hne : w1.heap.size ≠ w.heap.size + 1 := by have := HE1.out.size; omega
  have HC2 : Hid (∀ w' : World, w'.heap[w1.heap.size]? = some (.cells #[.int .i64 0, .int .i64 0, .int .i64 0, .int .i64 0, .int .i64 0, .slice none 0 0, .slice none 0 0] 132 (0, 0)) → QV w1.heap.size w') := Lib.hid (fun w' hb => ⟨by rw [cell_of_row _ _ _ _ _ _ hb]; rfl, by rw [cell_of_row _ _ _ _ _ _ hb]; rfl, by rw [cell_of_row _ _ _ _ _ _ hb]; rfl, by rw [cell_of_row _ _ _ _ _ _ hb]; rfl, by rw [cell_of_row _ _ _ _ _ _ hb]; rfl, by rw [cell_of_row _ _ _ _ _ _ hb]; rfl, by rw [cell_of_row _ _ _ _ _ _ hb]; rfl⟩)
  have hb : w2.heap[w.heap.size + 1]? = some (.cells #[.int .i64 0, .int .i64 0, .int .i64 0, .int .i64 0, .int .i64 0, .slice none 0 0, .slice none 0 0] 132 (0, 0)) := (HE2.out.block (w.heap.size + 1) (by omega) (by simp)).trans HBs.out.2
  have HBR := Lib.hid hb
  have m0 : w2.cell? ⟨w.heap.size + 1, 0, none⟩ = some (.int .i64 0) := by rw [cell_of_row _ _ _ _ _ _ hb]; rfl
  have f0 : w2.frozen? ⟨w.heap.size + 1, 0, none⟩ = false := by simp [World.frozen?, hb]
  have m1 : w2.cell? ⟨w.heap.size + 1, 1, none⟩ = some (.int .i64 0) := by rw [cell_of_row _ _ _ _ _ _ hb]; rfl
  have f1 : w2.frozen? ⟨w.heap.size + 1, 1, none⟩ = false := by simp [World.frozen?, hb]
  have m2 : w2.cell? ⟨w.heap.size + 1, 2, none⟩ = some (.int .i64 0) := by rw [cell_of_row _ _ _ _ _ _ hb]; rfl
  have f2 : w2.frozen? ⟨w.heap.size + 1, 2, none⟩ = false := by simp [World.frozen?, hb]
  have m3 : w2.cell? ⟨w.heap.size + 1, 3, none⟩ = some (.int .i64 0) := by rw [cell_of_row _ _ _ _ _ _ hb]; rfl
  have f3 : w2.frozen? ⟨w.heap.size + 1, 3, none⟩ = false := by simp [World.frozen?, hb]
  have m4 : w2.cell? ⟨w.heap.size + 1, 4, none⟩ = some (.int .i64 0) := by rw [cell_of_row _ _ _ _ _ _ hb]; rfl
  have f4 : w2.frozen? ⟨w.heap.size + 1, 4, none⟩ = false := by simp [World.frozen?, hb]
  have m5 : w2.cell? ⟨w.heap.size + 1, 5, none⟩ = some (.slice none 0 0) := by rw [cell_of_row _ _ _ _ _ _ hb]; rfl
  have f5 : w2.frozen? ⟨w.heap.size + 1, 5, none⟩ = false := by simp [World.frozen?, hb]
  have m6 : w2.cell? ⟨w.heap.size + 1, 6, none⟩ = some (.slice none 0 0) := by rw [cell_of_row _ _ _ _ _ _ hb]; rfl
  have f6 : w2.frozen? ⟨w.heap.size + 1, 6, none⟩ = false := by simp [World.frozen?, hb]
  clear hb
  refine wp_region_held_drew (S := QV w1.heap.size) (by kernel_rfl) ?_ (fun hHeld => ?_)
  · exact HC2.out _ HB2.out
  iterate 4 (refine tkV ⟨?_, fun w' hSw => ?_, ?_⟩; rotate_left; focus (unfold QV at hSw; go_simp <;> with_reducible rfl); (try simp only [Act.put, List.setIfInBounds_toArray, List.set_cons_zero, List.set_cons_succ]))
  iterate 2 (refine skV ?_; (try simp only [Act.put, List.setIfInBounds_toArray, List.set_cons_zero, List.set_cons_succ]))
  iterate 1 (refine tkV ⟨?_, fun w' hSw => ?_, ?_⟩; rotate_left; focus (unfold QV at hSw; go_simp <;> with_reducible rfl); (try simp only [Act.put, List.setIfInBounds_toArray, List.set_cons_zero, List.set_cons_succ]))
  refine wpAnyH_ready (rs := [7]) (by kernel_rfl) (by simp) ?_
  refine AllReadyH.cons (o := _) rfl (fun K hK => ?_) AllReadyH.nil
  go_simp
  refine hK.out _ _ (HC2.out _ (by repeat (first | with_reducible exact HB2.out | with_reducible refine (drew_heap _ _).trans ?_ | with_reducible refine (Below.heap_setCell _ _ _ _ hne).trans ?_))) (fun hHeld => ?_)
  clear hK K
  (try simp only [Act.put, List.setIfInBounds_toArray, List.set_cons_zero, List.set_cons_succ])
  iterate 1 (refine tkV ⟨?_, fun w' hSw => ?_, ?_⟩; rotate_left; focus (unfold QV at hSw; go_simp <;> with_reducible rfl); (try simp only [Act.put, List.setIfInBounds_toArray, List.set_cons_zero, List.set_cons_succ]))
  refine wpAnyH_done (by kernel_rfl) ?_ _
  obtain ⟨w5, hw5⟩ : ∃ w5 : World, w5 = ((((((((w2.setCell ⟨w.heap.size + 1, 0, none⟩ (.int .i64 0)).setCell ⟨w.heap.size + 1, 1, none⟩ (.int .i64 0)).setCell ⟨w.heap.size + 1, 2, none⟩ (.int .i64 0)).setCell ⟨w.heap.size + 1, 3, none⟩ (.int .i64 0)).setCell ⟨w.heap.size + 1, 4, none⟩ (.int .i64 0)).setCell ⟨w.heap.size + 1, 5, none⟩ (.slice none 0 0)).setCell ⟨w.heap.size + 1, 6, none⟩ (.slice none 0 0))).drew := ⟨_, rfl⟩
  have hb : w5.heap[w.heap.size + 1]? = some (.cells #[.int .i64 0, .int .i64 0, .int .i64 0, .int .i64 0, .int .i64 0, .slice none 0 0, .slice none 0 0] 132 (0, 0)) := by
    rw [hw5, drew_heap]
    iterate 7 refine set_same ?_ rfl
    exact HBR.out
  have HE5 : Hid (Ex w.heap.size none w w5) := Lib.hid (by
    rw [hw5]
    refine Ex.drew ?_
    iterate 7 refine Ex.setCell ?_ _ none _ (.inr (by omega))
    exact HEs.out.trans HE2.out (by omega) (by simp))
  rw [← hw5]
  clear hw5 hHeld m0 m1 m2 m3 m4 m5 m6 f0 f1 f2 f3 f4 f5 f6
  have m0 : w5.cell? ⟨w.heap.size + 1, 0, none⟩ = some (.int .i64 0) := by rw [cell_of_row _ _ _ _ _ _ hb]; rfl
  have m1 : w5.cell? ⟨w.heap.size + 1, 1, none⟩ = some (.int .i64 0) := by rw [cell_of_row _ _ _ _ _ _ hb]; rfl
  have m2 : w5.cell? ⟨w.heap.size + 1, 2, none⟩ = some (.int .i64 0) := by rw [cell_of_row _ _ _ _ _ _ hb]; rfl
  have m3 : w5.cell? ⟨w.heap.size + 1, 3, none⟩ = some (.int .i64 0) := by rw [cell_of_row _ _ _ _ _ _ hb]; rfl
  have m4 : w5.cell? ⟨w.heap.size + 1, 4, none⟩ = some (.int .i64 0) := by rw [cell_of_row _ _ _ _ _ _ hb]; rfl
  have m5 : w5.cell? ⟨w.heap.size + 1, 5, none⟩ = some (.slice none 0 0) := by rw [cell_of_row _ _ _ _ _ _ hb]; rfl
  have m6 : w5.cell? ⟨w.heap.size + 1, 6, none⟩ = some (.slice none 0 0) := by rw [cell_of_row _ _ _ _ _ _ hb]; rfl
  go_wp2
  refine bodyPost_ret (v := .tuple #[.agg #[.int .i64 0, .int .i64 0, .int .i64 0, .int .i64 0, .int .i64 0, .slice none 0 0, .slice none 0 0], .bool false]) (by simp [results, Tryz.results162, go_sem, m0, m1, m2, m3, m4, m5, m6]) rfl ?_
  exact ⟨rfl, HE5.out⟩

/-- Statements that are right, no votes, and without lists. -/
def NoVotes (l : List St) : Prop := ∀ s ∈ l, checkI s = 0 ∧ s.kind ≠ 10 ∧ s.list = [] ∧ s.pins = [] ∧ s.b = 0
theorem NoVotes.at' {l : List St} (h : NoVotes l) {P : Nat → Prop} {w : World} {x : St × Sv × Sv} (hx : x.1 ∈ l) (hl : Lies P w x) : NoVote x := by
  obtain ⟨h1, h2, h3, h4, h5⟩ := h x.1 hx
  have := lies_len hl
  exact ⟨h1, h2, by rw [this.1, h3]; rfl, by rw [this.2, h4]; rfl, h5⟩

set_option maxHeartbeats 8000000 in
set_option maxRecDepth 100000 in
theorem cases27_no {P : Nat → Prop} (v : Value) (l : List St) (w : World) (hv : Sl stRep P w v l) (hm : l.length ≤ 100000) (hn : NoVotes l) :
    Calls Tryz.prog 110 #[v] w fun e w' => e = .returned (.slice none 0 0) ∧ Ex w.heap.size none w w' := by
  obtain ⟨ao, cap, rfl, hx⟩ := hv
  have HX : Hid (∀ w', Ex w.heap.size none w w' → SlAt stRep P w' ao l) := Lib.hid (fun w' h => hx.keep (by decide) fun b _ hb => h.block b hb (by simp))
  have HNV := Lib.hid hn
  clear hx hn
  go_enter Tryz.func110, Tryz.ntmps110
  go_upto_region 3 with (fail)
  go_loopw [3, 4] (fun v i wr => ∃ k : Nat, k ≤ l.length ∧ v = .slice none 0 0 ∧ i = .int .i64 k ∧ Ex w.heap.size none w wr) (fun _ i _ => l.length - (intOf i).toNat)
  case atStart => exact ⟨0, by omega, rfl, rfl, Ex.refl _ _ _⟩
  case round =>
    obtain ⟨k, hk, rfl, rfl, hex⟩ := hrel
    have hsz := hex.size
    have HEX := Lib.hid hex
    clear hex
    by_cases hlt : k < l.length
    · have hltI : (k : Int) < (l.length : Int) := by omega
      obtain ⟨b, off, x, hao, hPb, hbl, HXs, hls, HLD⟩ := stv_get (HX.out wr HEX.out) k hlt
      have HAO := Lib.hid hao
      subst hao
      have HLS := Lib.hid hls
      have hld := HLD.out wr rfl
      clear hls
      go_upto_region 6 with (first
        | (go_at_call 162
           refine (vote27_no (P := P) x wr HLS.out (HNV.out.at' (List.mem_of_getElem? HXs.out) HLS.out)).mono ?_
           rintro e w1 ⟨rfl, hex⟩
           have HE1 : Hid (Ex wr.heap.size none wr w1) := Lib.hid hex
           clear hex hld)
        | fail)
      refine wp_world (fun W => W = w1.alloc (.cells #[.int .i64 0, .int .i64 0, .int .i64 0, .int .i64 0, .int .i64 0, .slice none 0 0, .slice none 0 0] 132)) rfl (fun w2 hw2 => ?_)
      have HE2 : Hid (Ex wr.heap.size none wr w2) := Lib.hid (HE1.out.trans (by rw [hw2]; exact Ex.new w1 _) HE1.out.size (by simp))
      clear hw2
      go_wp2
      go_roundw
      case rel => exact ⟨k + 1, by omega, rfl, by go_num, HEX.out.trans HE2.out hsz (by simp)⟩
      case measure => simp [intOf] <;> omega
    · obtain hkl : k = l.length := by omega
      have hltI : ¬ (k : Int) < (l.length : Int) := by omega
      go_wp2
      go_ret
      exact ⟨rfl, HEX.out⟩
end Go.Proofs.YtaakacahblndcaaGreat

namespace Go.Proofs.YtaakacahblndcaaGreat
open Go.RowKit Go.Sort
theorem rowBuild_proof (n : Nat) (ps : Array (Nat × Value)) : Instr.buildSlice 57 n ps = rowBuild 57 n ps := rfl
attribute [local go_sem ↓] rowLoad_stv rowStore_stv rowBuild_stv rowLoad_proof rowStore_proof rowBuild_proof
attribute [local go_sem ↓ high] builtin_appR
set_option maxRecDepth 100000 in
theorem Tryz.infoPr : (Tryz.prog.info? 61).map (fun i => (i.zero, i.size, i.bytes)) = some (some (.agg #[.int .i64 0, .int .i64 0, .int .i64 0, .string ⟨#[]⟩, .int .i64 0, .int .i64 0, .int .i64 0, .int .i64 0, .int .i64 0, .slice none 0 0, .slice none 0 0, .string ⟨#[]⟩, .int .i64 0, .string ⟨#[]⟩, .int .i64 0, .int .i64 0, .string ⟨#[]⟩, .int .i64 0, .int .i64 0, .int .i64 0, .int .i64 0, .int .i64 0, .slice none 0 0, .slice none 0 0, .string ⟨#[]⟩, .int .i64 0, .string ⟨#[]⟩]), 27, 328) := by kernel_rfl
theorem proofV_lit (w : World) (x y : St × Sv × Sv) : (rowBuild 57 1 #[(0, proofV 1 x y)]).run Tryz.prog w = .ok (.slice (some ⟨w.heap.size, 0, none⟩) 1 1) (w.alloc (.cells (proofV 1 x y).cells 61)) :=
  run_rowBuild w 57 61 (proofV 1 x y).cells 27 328 _ Tryz.underlying57 Tryz.infoPr (by decide) (by decide) rfl
/-- A proof's cells. -/
def prE (x : (St × Sv × Sv) × (St × Sv × Sv)) : List Value := .int .i64 1 :: (stE x.1 ++ stE x.2)
theorem prE_len (x : (St × Sv × Sv) × (St × Sv × Sv)) : (prE x).length = 27 := rfl
theorem one_prE (x : (St × Sv × Sv) × (St × Sv × Sv)) : ∀ v ∈ prE x, v.oneCell' = true := by
  intro v hv
  simp only [prE, List.mem_cons, List.mem_append] at hv
  rcases hv with rfl | hv | hv
  · rfl
  · exact one_stE x.1 v hv
  · exact one_stE x.2 v hv
/-- A row of one proof. -/
def ProofIn (a : Int) (base : Nat) (v : Value) (W : World) : Prop := ∃ b cap, ∃ z : (St × Sv × Sv) × (St × Sv × Sv), v = .slice (some ⟨b, 0, none⟩) 1 cap ∧ base ≤ b ∧ b < W.heap.size ∧ z.1.1.author = a ∧ ∀ (j : Nat) (u : Value), (prE z)[j]? = some u → W.cell? ⟨b, j, none⟩ = some u
theorem ProofIn.load {a : Int} {base : Nat} {v : Value} {W : World} (h : ProofIn a base v W) : ∃ b cap, ∃ z : (St × Sv × Sv) × (St × Sv × Sv), v = .slice (some ⟨b, 0, none⟩) 1 cap ∧ base ≤ b ∧ b < W.heap.size ∧ z.1.1.author = a ∧ Hid (∀ w', w'.heap[b]? = W.heap[b]? → (rowLoad 61 ⟨b, 0, none⟩).run Tryz.prog w' = .ok (proofV 1 z.1 z.2) w') := by
  obtain ⟨b, cap, z, h1, h2, h3, h4, h5⟩ := h
  refine ⟨b, cap, z, h1, h2, h3, h4, Lib.hid fun w' hw => ?_⟩
  exact run_loadVar_mid w' b 0 61 (prE z) _ (fun j u hu => by
    rw [Nat.zero_add]
    have := h5 j u hu
    unfold World.cell? at this ⊢
    simp only at this ⊢
    rw [hw]; exact this) Tryz.underlying61 rfl Tryz.sizePr
theorem ProofIn.low {a : Int} {base base' : Nat} {v : Value} {W : World} (h : ProofIn a base v W) (hb : base' ≤ base) : ProofIn a base' v W := by
  obtain ⟨b, cap, z, h1, h2, h3⟩ := h
  exact ⟨b, cap, z, h1, Nat.le_trans hb h2, h3⟩
theorem run_appProof {w : World} (rb : Nat) (x y : St × Sv × Sv) (a : Int) (g : Nat) (hc : w.heap[g]? = some (.cells (proofV 1 x y).cells 61 (0, 0))) (hrb : rb ≤ w.heap.size) (ha : x.1.author = a) :
    ∃ ao cap w', (appR #[57, 57] 57 #[.slice none 0 0, .slice (some ⟨g, 0, none⟩) 1 1]).run Tryz.prog w = .ok (.slice ao 1 cap) w' ∧ Hid (ProofIn a rb (.slice ao 1 cap) w') ∧ Ex rb none w w' := by
  obtain ⟨i0, hi, hz0, hz1, hz2⟩ := info_parts Tryz.infoPr
  have hc' : ∀ (j : Nat) (v : Value), (flatL prE [(x, y)])[j]? = some v → w.cell? ((⟨g, 0, none⟩ : Addr).add j) = some v := fun j v hj => by
    have h3 : (prE (x, y))[j]? = some v := by simpa [flatL] using hj
    rw [Addr.add_lit, Nat.zero_add, cell_of_row _ _ _ _ _ _ hc]
    have : (proofV 1 x y).cells = (prE (x, y)).toArray := rfl
    rw [this]; simpa using h3
  obtain ⟨v', w', hr, ho', hg, _, hnew⟩ := run_append_own_at (P := Tryz.prog) w rb 57 57 61 i0 _ 27 328 Tryz.underlying57 hi hz0 hz1 hz2 rfl (by decide) _ _ _ (OwnE.nil prE 27 61 w rb) ⟨g, 0, none⟩ 1 1 (flatL prE [(x, y)]) (flatL_len prE_len _) hc' (flatL_one one_prE _) (by simp only [maxLen, List.length_nil]; omega) (by simp) hrb
  obtain ⟨ao', cap', rfl⟩ := own_shape ho'
  have hgr : Ex rb none w w' := ⟨hg.os, hg.tape, hg.output, hg.size, fun k hk _ => hg.block k (by omega) (fun e => by cases e)⟩
  rcases ho'.2 with ⟨_, h2⟩ | ⟨b, cap, cur, hv, _⟩
  · cases h2
  · simp only [Value.slice.injEq] at hv
    obtain ⟨rfl, _, _⟩ := hv
    obtain ⟨_, h1, h2, _, h3, _⟩ := own_there ho'
    refine ⟨_, cap', w', hr, Lib.hid ⟨b, cap', (x, y), rfl, h1, h2, ha, fun j u hu => h3 j u (by simpa [flatL] using hu)⟩, hgr⟩
/-- What has been found so far. -/
def FoundA (a k : Nat) (base : Nat) (v : Value) (W : World) : Prop := (k ≤ a → v = .slice none 0 0) ∧ (a < k → ProofIn a base v W)
/-- One proof, and nothing else. -/
def FindE (a : Int) (base : Nat) (e : Ending) (W : World) : Prop := ∃ v, e = .returned v ∧ ProofIn a base v W

set_option maxHeartbeats 16000000 in
set_option maxRecDepth 100000 in
theorem find36_two {P : Nat → Prop} (v : Value) (x y : St) (au h : Nat) (w : World) (hv : Sl stRep P w v [x, y]) (hx : x.author = au) (hy : y.author = au) (hau : au < 64) (hn : x.number = y.number) (hh : h = 1 ∨ h = 2) (hd : ∀ i k si sk, [x, y][i]? = some si → [x, y][k]? = some sk → Op.bytesLess si.dig.toList sk.dig.toList = decide (2 * i + k = h)) (hok : ∀ s ∈ [x, y], checkI s = 0 ∧ sealedB s = true) (hno : NoVotes [x, y]) :
    Calls Tryz.prog 70 #[v] w fun e w' => FindE au w.heap.size e w' ∧ Ex w.heap.size none w w' := by
  have HV := Lib.hid hv
  have HXY : Hid (x.author = au ∧ y.author = au ∧ x.number = y.number) := Lib.hid ⟨hx, hy, hn⟩
  have HD := Lib.hid hd
  have HH := Lib.hid hh
  have HOK := Lib.hid hok
  have HNO := Lib.hid hno
  clear hv hx hy hn hh hd hok hno
  go_enter Tryz.func70, Tryz.ntmps70
  go_upto_region 5 with (first
    | (go_at_call 110
       refine (cases27_no (P := fun _ => True) (.slice ro0 2 rc0) [x, y] w1 ⟨ro0, rc0, rfl, HO1.out.at0⟩ (by simp) HNO.out).mono ?_
       rintro e w2 ⟨rfl, hex⟩
       have HE2 : Hid (Ex w1.heap.size none w1 w2) := Lib.hid hex
       clear hex)
    | (go_at_call 109
       refine (right36_any v [x, y] w HV.out (by simp) HOK.out).mono ?_
       rintro e w1 ⟨ro0, rc0, he, ho, hex⟩
       rw [show ([x, y] : List St).length = 2 from rfl] at he
       subst he
       have HO1 := Lib.hid ho
       have HE1 : Hid (Ex w.heap.size none w w1) := Lib.hid hex
       clear ho hex)
    | fail)
  have HX : Hid (SlAt stRep (fun b => b < w2.heap.size) w2 ro0 [x, y]) := Lib.hid ((HO1.out.at0.keep (by decide) fun b _ hb => HE2.out.block b hb (by simp)).mono (by decide) fun b _ hb => hb)
  have HEX0 : Hid (Ex w.heap.size none w w2) := Lib.hid (HE1.out.trans HE2.out HE1.out.size (by simp))
  clear HV
  go_loopw [5, 6] (fun o i wr => ∃ (k : Nat) (ao : Option Addr) (nn cc : Nat), k ≤ 64 ∧ o = .slice ao nn cc ∧ i = .int .i64 k ∧ Hid (FoundA au k w.heap.size (.slice ao nn cc) wr) ∧ Hid (Ex w2.heap.size none w2 wr) ∧ Ex w.heap.size none w wr) (fun _ i _ => 64 - (intOf i).toNat)
  case atStart => exact ⟨0, none, 0, 0, by omega, rfl, rfl, Lib.hid ⟨fun _ => rfl, fun h => by omega⟩, Lib.hid (Ex.refl _ _ _), HEX0.out⟩
  case round =>
    obtain ⟨k, ao, nn, cc, hk, rfl, rfl, HF, HE2r, hex⟩ := hrel
    have hsz := hex.size
    have hsz2 := HE2r.out.size
    have HEX := Lib.hid hex
    clear hex
    obtain ⟨w3, hw3⟩ : ∃ w3 : World, w3 = wr := ⟨_, rfl⟩
    subst hw3
    by_cases hlt : k < 64
    · have hltI : (k : Int) < (64 : Int) := by omega
      by_cases hka : k = au
      · have ho := HF.out.1 (by omega)
        simp only [Value.slice.injEq] at ho
        obtain ⟨rfl, rfl, rfl⟩ := ho
        have HKA := Lib.hid hka
        clear hka
        go_upto_region 9 with (fail)
        go_loopw [7, 8] (fun o v wr => ∃ (j : Nat) (ro : Option Addr) (rc : Nat), j ≤ 2 ∧ o = .slice ro j rc ∧ v = .int .i64 j ∧ Hid (OwnT wr w3.heap.size 0 ro rc ([x, y].take j)) ∧ Ex w3.heap.size none w3 wr) (fun _ v _ => 2 - (intOf v).toNat)
        case atStart => exact ⟨0, none, 0, by omega, rfl, rfl, Lib.hid (OwnT.nil _ _ _), Ex.refl _ _ _⟩
        case round =>
          obtain ⟨j, ro, rc, hj, rfl, rfl, HO, hex⟩ := hrel
          have hszj := hex.size
          have HEJ := Lib.hid hex
          clear hex
          by_cases hlj : j < 2
          · have hljI : (j : Int) < (2 : Int) := by omega
            have HXW : Hid (SlAt stRep (fun b => b < w3.heap.size) wr ro0 [x, y]) := Lib.hid ((HX.out.keep (by decide) fun b _ hb => (HEJ.out.block b (by omega) (by simp)).trans (HE2r.out.block b hb (by simp))).mono (by decide) fun b hb _ => by omega)
            obtain ⟨b, off, z, hao, hPb, hbl, HXs, hls, HLD⟩ := stv_get HXW.out j hlj
            obtain ⟨b', off', s', l', p', hao', _, _, hrg, HXs'⟩ := st_get HXW.out j hlj
            subst hao
            simp only [Option.some.injEq, Addr.mk.injEq, and_true] at hao'
            obtain ⟨rfl, rfl⟩ := hao'
            have hsx : s' = z.1 := Option.some.inj (HXs'.out.symm.trans HXs.out)
            have HZA : Hid (z.1.author = k) := Lib.hid (by
              rw [HKA.out]
              rcases List.mem_cons.1 (List.mem_of_getElem? HXs.out) with h | h
              · rw [h]; exact HXY.out.1
              · rw [List.mem_singleton.1 h]; exact HXY.out.2.1)
            have hc0 : wr.cell? ⟨b, off + j * 13, none⟩ = some (.int .i64 (k : Int)) := by rw [← HZA.out, ← hsx]; exact (st_at hrg).1
            have HLS := Lib.hid hls
            have hld := HLD.out wr rfl
            clear hls hrg hsx
            have hlit := stV_lit wr z
            obtain ⟨ro2, rc2, w4, hr4, ho4, hx4⟩ := step_app1 (w := wr) (x := z) (k := j) HO.out HXs.out HLS.out (by omega) (by omega)
            obtain ⟨w5, hw5⟩ : ∃ w5 : World, w5 = wr.alloc (.cells (stV z).cells 37) := ⟨_, rfl⟩
            rw [← hw5] at hlit hr4
            have HO4 := Lib.hid ho4
            have HE4 : Hid (Ex w3.heap.size none w3 w4) := Lib.hid (HEJ.out.trans hx4 (Nat.le_refl _) (by simp))
            clear ho4 hx4 hw5
            go_wp2
            go_roundw
            case rel => exact ⟨j + 1, ro2, rc2, by omega, rfl, by go_num, HO4, HE4.out⟩
            case measure => simp [intOf] <;> omega
          · have hljI : ¬ (j : Int) < (2 : Int) := by omega
            have hj2 : j = 2 := by omega
            subst hj2
            have HOT : Hid (SlAt stRep (fun _ => True) wr ro [x, y]) := Lib.hid HO.out.at0
            go_upto_region 15 with (first
              | (go_at_call 111
                 refine (fork36_two (P := fun _ => True) ro rc x y (k : Int) h wr HOT.out (HXY.out.1.trans (by rw [HKA.out])) (HXY.out.2.1.trans (by rw [HKA.out])) HXY.out.2.2 HH.out HD.out).mono ?_
                 rintro e w4 ⟨⟨X, Y, rfl, hXa⟩, hex⟩
                 have HXA := Lib.hid hXa
                 have HE4 : Hid (Ex wr.heap.size none wr w4) := Lib.hid hex
                 obtain ⟨w5, hw5⟩ : ∃ w5 : World, w5 = w4.alloc (.cells #[.int .i64 0, .int .i64 0, .int .i64 0, .string ⟨#[]⟩, .int .i64 0, .int .i64 0, .int .i64 0, .int .i64 0, .int .i64 0, .slice none 0 0, .slice none 0 0, .string ⟨#[]⟩, .int .i64 0, .string ⟨#[]⟩, .int .i64 0, .int .i64 0, .string ⟨#[]⟩, .int .i64 0, .int .i64 0, .int .i64 0, .int .i64 0, .int .i64 0, .slice none 0 0, .slice none 0 0, .string ⟨#[]⟩, .int .i64 0, .string ⟨#[]⟩] 61) := ⟨_, rfl⟩
                 have hst : (rowStore 61 ⟨w4.heap.size, 0, none⟩ (proofV 1 X Y)).run Tryz.prog (w4.alloc (.cells #[.int .i64 0, .int .i64 0, .int .i64 0, .string ⟨#[]⟩, .int .i64 0, .int .i64 0, .int .i64 0, .int .i64 0, .int .i64 0, .slice none 0 0, .slice none 0 0, .string ⟨#[]⟩, .int .i64 0, .string ⟨#[]⟩, .int .i64 0, .int .i64 0, .string ⟨#[]⟩, .int .i64 0, .int .i64 0, .int .i64 0, .int .i64 0, .int .i64 0, .slice none 0 0, .slice none 0 0, .string ⟨#[]⟩, .int .i64 0, .string ⟨#[]⟩] 61)) = .ok () (w5.setRow w4.heap.size (proofV 1 X Y).cells) := by
                   rw [← hw5]; exact run_rowStore (P := Tryz.prog) w5 w4.heap.size 61 61 #[.int .i64 0, .int .i64 0, .int .i64 0, .string ⟨#[]⟩, .int .i64 0, .int .i64 0, .int .i64 0, .int .i64 0, .int .i64 0, .slice none 0 0, .slice none 0 0, .string ⟨#[]⟩, .int .i64 0, .string ⟨#[]⟩, .int .i64 0, .int .i64 0, .string ⟨#[]⟩, .int .i64 0, .int .i64 0, .int .i64 0, .int .i64 0, .int .i64 0, .slice none 0 0, .slice none 0 0, .string ⟨#[]⟩, .int .i64 0, .string ⟨#[]⟩] (proofV 1 X Y).cells (by rw [hw5]; exact heap_alloc_new w4 _) Tryz.sizePr rfl (proofV_one _ _ _)
                 obtain ⟨w6, hw6⟩ : ∃ w6 : World, w6 = w5.setRow w4.heap.size (proofV 1 X Y).cells := ⟨_, rfl⟩
                 rw [← hw6] at hst
                 have HB6 : Hid (w6.heap[w4.heap.size]? = some (.cells (proofV 1 X Y).cells 61 (0, 0))) := Lib.hid (by rw [hw6, hw5]; exact setRow_heap _ _ _ _ _ _ (heap_alloc_new w4 _))
                 have HE6 : Hid (Ex wr.heap.size none wr w6) := Lib.hid (by rw [hw6, hw5]; exact (HE4.out.alloc HE4.out.size _).setRow _ _ (.inr HE4.out.size))
                 clear hXa hex hw5 hw6)
              | fail)
            clear hst
            have hz6 := HE6.out.size
            have hld : (rowLoad 61 ⟨w4.heap.size, 0, none⟩).run Tryz.prog w6 = .ok (proofV 1 X Y) w6 := run_rowLoad (P := Tryz.prog) w6 w4.heap.size 61 61 (proofV 1 X Y).cells (0, 0) _ HB6.out Tryz.underlying61 rfl Tryz.sizePr
            have hlit := proofV_lit w6 X Y
            obtain ⟨ao7, cap7, w7, hr7, HP7, hx7⟩ := run_appProof (w := w6.alloc (.cells (proofV 1 X Y).cells 61)) w2.heap.size X Y (au : Int) w6.heap.size (heap_alloc_new w6 _) (by simp; omega) (HXA.out.trans (by rw [HKA.out]))
            have HEN : Hid (Ex w.heap.size none w w7) := Lib.hid (((HEX.out.trans HEJ.out hsz (by simp)).trans HE6.out (by omega) (by simp)).trans ((Ex.mono (Ex.new w6 _) (by omega)).trans hx7 (Nat.le_refl _) (by simp)) HEX0.out.size (by simp))
            have HEN2 : Hid (Ex w2.heap.size none w2 w7) := Lib.hid (((HE2r.out.trans HEJ.out hsz2 (by simp)).trans HE6.out (by omega) (by simp)).trans ((Ex.mono (Ex.new w6 _) (by omega)).trans hx7 (Nat.le_refl _) (by simp)) (Nat.le_refl _) (by simp))
            obtain ⟨w8, hw8⟩ : ∃ w8 : World, w8 = w6.alloc (.cells (proofV 1 X Y).cells 61) := ⟨_, rfl⟩
            rw [← hw8] at hlit hr7
            clear hx7 hw8
            go_upto_region 18 with (fail)
            go_loopw [5, 11] (fun o i wr => o = .slice ao7 1 cap7 ∧ i = .int .i64 0 ∧ wr = w7) (fun _ _ _ => 0)
            case atStart => exact ⟨rfl, rfl, rfl⟩
            case round =>
              obtain ⟨rfl, rfl, rfl⟩ := hrel
              go_wp2
              go_roundw
              case rel => exact ⟨k + 1, _, _, _, by omega, rfl, by go_num, Lib.hid ⟨fun h => absurd h (by have := HKA.out; omega), fun _ => HP7.out.low HEX0.out.size⟩, HEN2, HEN.out⟩
              case measure => simp [intOf] <;> omega
      · have HF2 : Hid (FoundA au (k + 1) w.heap.size (.slice ao nn cc) w3) := Lib.hid ⟨fun h => HF.out.1 (by omega), fun h => HF.out.2 (by omega)⟩
        have hne : ¬ (au : Int) = (k : Int) := by omega
        clear hka
        go_upto_region 9 with (fail)
        go_loopw [7, 8] (fun o v wr => ∃ (j : Nat), j ≤ 2 ∧ o = .slice none 0 0 ∧ v = .int .i64 j ∧ wr = w3) (fun _ v _ => 2 - (intOf v).toNat)
        case atStart => exact ⟨0, by omega, rfl, rfl, rfl⟩
        case round =>
          obtain ⟨j, hj, rfl, rfl, rfl⟩ := hrel
          by_cases hlj : j < 2
          · have hljI : (j : Int) < (2 : Int) := by omega
            have HXW : Hid (SlAt stRep (fun b => b < wr.heap.size) wr ro0 [x, y]) := Lib.hid ((HX.out.keep (by decide) fun b _ hb => HE2r.out.block b hb (by simp)).mono (by decide) fun b hb _ => by omega)
            obtain ⟨b, off, s', l', p', hao, _, _, hrg, HXs⟩ := st_get HXW.out j hlj
            subst hao
            have hc0 : wr.cell? ⟨b, off + j * 13, none⟩ = some (.int .i64 (au : Int)) := by
              rw [(st_at hrg).1]
              rcases List.mem_cons.1 (List.mem_of_getElem? HXs.out) with h | h
              · rw [h, HXY.out.1]
              · rw [List.mem_singleton.1 h, HXY.out.2.1]
            clear hrg
            go_wp2
            go_roundw
            case rel => exact ⟨j + 1, by omega, rfl, by go_num, (by first | rfl | trivial)⟩
            case measure => simp [intOf] <;> omega
          · have hljI : ¬ (j : Int) < (2 : Int) := by omega
            go_wp2
            go_roundw
            case rel => exact ⟨k + 1, ao, nn, cc, by omega, rfl, by go_num, HF2, HE2r, HEX.out⟩
            case measure => simp [intOf] <;> omega
    · have hltI : ¬ (k : Int) < (64 : Int) := by omega
      have hp := HF.out.2 (by omega)
      have HP := Lib.hid hp
      clear hp
      go_wp2
      go_ret
      exact ⟨⟨_, rfl, HP.out⟩, HEX.out⟩
end Go.Proofs.YtaakacahblndcaaGreat
