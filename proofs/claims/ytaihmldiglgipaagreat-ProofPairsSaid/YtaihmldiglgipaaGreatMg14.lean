/- Proofs as values that the walk does not open; rows of them. No statement of the seat. | proof.forks: a contract. No statement of the seat. | ballot.Cases: a contract. No statement of the seat. | proof.doubles: a contract. No statement of the seat. | proof.Find: a contract. No statement of the seat. | proof.none, fork, votes, Check: contracts. No statement of the seat. | proof.votes: a contract. No statement of the seat. | proof.Check at two right statements of one author: a contract. No statement of the seat. -/
import Derived.Test.YtaihmldiglgipaaGreatMg13
import Derived.Test.YtaihmldiglgipaaGreatMg12
import Derived.Test.YtaihmldiglgipaaGreatMg05
import Derived.Test.YtaihmldiglgipaaGreatMg00
import Derived.Test.YtaihmldiglgipaaGreatMg02
import Derived.Deep.RegionHeld3
import Derived.Laws.EntriesVeiled
namespace Go.Proofs.YtaihmldiglgipaaGreat
open Go.RowKit Go.Sort

def prV (x : PrX) : Value := .agg (prE x).toArray
theorem prV_one (x : PrX) : (prV x).cells.all (·.oneCell') = true := by
  rw [Array.all_eq_true_iff_forall_mem]
  intro v hv
  exact one_prE x v (by simpa using (show v ∈ (prE x).toArray from hv))
theorem rowStore_prf (a : Addr) (v : Value) : storeVar 37 a v = rowStore 37 a v := rfl
theorem rowLoad_prf (a : Addr) : loadVar 37 a = rowLoad 37 a := rfl
/-- A proof built, as a word that the walk does not open. -/
def prMake (t : TypeId) (ps : Array (Nat × Value)) : Sem Value := Instr.build t ps
theorem make_prf (ps : Array (Nat × Value)) : Instr.build 37 ps = prMake 37 ps := rfl
theorem make_prs (n : Nat) (ps : Array (Nat × Value)) : Instr.buildSlice 27 n ps = rowBuild 27 n ps := rfl
set_option maxRecDepth 100000 in
theorem build_prf (w : World) (kn : Int) (x y : St × Sv × Sv) : (prMake 37 #[(0, .int .i64 kn), (1, stV x), (2, stV y)]).run Tryz.prog w = .ok (prV (kn, x, y)) w := run_build w _ _ _ (by kernel_rfl)
theorem Tryz.sizePrf : (Tryz.prog.info? 37).map (·.size) = some 27 := by kernel_rfl
theorem Tryz.infoPrf : ∃ z, (Tryz.prog.info? 37).map (fun i => (i.zero, i.size, i.bytes)) = some (some z, 27, 328) ∧ z.cells.size = 27 := ⟨.agg #[.int .i64 0, .int .i64 0, .int .i64 0, .string ⟨#[]⟩, .int .i64 0, .int .i64 0, .int .i64 0, .int .i64 0, .int .i64 0, .slice none 0 0, .slice none 0 0, .string ⟨#[]⟩, .int .i64 0, .string ⟨#[]⟩, .int .i64 0, .int .i64 0, .string ⟨#[]⟩, .int .i64 0, .int .i64 0, .int .i64 0, .int .i64 0, .int .i64 0, .slice none 0 0, .slice none 0 0, .string ⟨#[]⟩, .int .i64 0, .string ⟨#[]⟩], by kernel_rfl, rfl⟩
theorem rows_prf (w : World) (x : PrX) : (rowBuild 27 1 #[(0, prV x)]).run Tryz.prog w = .ok (.slice (some ⟨w.heap.size, 0, none⟩) 1 1) (w.alloc (.cells (prE x).toArray 37)) := by
  obtain ⟨z, hz, hc⟩ := Tryz.infoPrf
  exact run_rowBuild w 27 37 (prE x).toArray 27 328 z Tryz.underlying27 hz (by decide) (by decide) rfl
theorem prV_load {w : World} {b o : Nat} {x : PrX} (h : w.rangeAt b o (prE x)) : (rowLoad 37 ⟨b, o, none⟩).run Tryz.prog w = .ok (prV x) w :=
  run_loadVar_mid w b o 37 (prE x) _ h Tryz.underlying37 rfl Tryz.sizePrf
theorem prV_box {w : World} {g : Nat} {x : PrX} {t : TypeId} {fr : Nat × Nat} (h : w.heap[g]? = some (.cells (prV x).cells t fr)) : (rowLoad 37 ⟨g, 0, none⟩).run Tryz.prog w = .ok (prV x) w :=
  run_rowLoad (P := Tryz.prog) w g t 37 (prE x).toArray fr _ h Tryz.underlying37 rfl Tryz.sizePrf
theorem prV_set {w : World} {g : Nat} {old : Array Value} (x : PrX) (h : w.heap[g]? = some (.cells old 37 (0, 0))) (ho : old.size = 27) : (rowStore 37 ⟨g, 0, none⟩ (prV x)).run Tryz.prog w = .ok () (w.setRow g (prE x).toArray) :=
  run_rowStore (P := Tryz.prog) w g 37 37 old (prV x).cells h Tryz.sizePrf (by rw [ho]; rfl) (prV_one x)
theorem prV_new (w : World) (old : Array Value) (x : PrX) (ho : old.size = 27) : (rowStore 37 ⟨w.heap.size, 0, none⟩ (prV x)).run Tryz.prog (w.alloc (.cells old 37)) = .ok () (w.alloc (.cells (prE x).toArray 37)) := by
  have h := prV_set (w := w.alloc (.cells old 37)) (g := w.heap.size) (old := old) x (heap_alloc_new w _) ho
  rw [alloc_setRow] at h
  exact h
/-- The statements of a proof in a block of its own, and its kind. -/
theorem prV_cell {w : World} {g : Nat} {x : PrX} {t : TypeId} {fr : Nat × Nat} (h : w.heap[g]? = some (.cells (prE x).toArray t fr)) (j : Nat) : w.cell? ⟨g, j, none⟩ = (prE x)[j]? := by
  rw [cell_of_row _ _ _ _ _ _ h]
  simp
theorem prV_first {w : World} {g : Nat} {x : PrX} {t : TypeId} {fr : Nat × Nat} (h : w.heap[g]? = some (.cells (prE x).toArray t fr)) : (rowLoad 35 ⟨g, 1, none⟩).run Tryz.prog w = .ok (stV x.2.1) w :=
  stV_load fun j v hj => by
    show w.cell? ⟨g, 1 + j, none⟩ = _
    rw [prV_cell h, Nat.add_comm]
    have hl := (List.getElem?_eq_some_iff.1 hj).1
    show (stE x.2.1 ++ stE x.2.2)[j]? = _
    rw [List.getElem?_append_left hl]
    exact hj
theorem prV_second {w : World} {g : Nat} {x : PrX} {t : TypeId} {fr : Nat × Nat} (h : w.heap[g]? = some (.cells (prE x).toArray t fr)) : (rowLoad 35 ⟨g, 14, none⟩).run Tryz.prog w = .ok (stV x.2.2) w :=
  stV_load fun j v hj => by
    show w.cell? ⟨g, 14 + j, none⟩ = _
    rw [prV_cell h, show 14 + j = (13 + j) + 1 by omega]
    show (stE x.2.1 ++ stE x.2.2)[13 + j]? = _
    rw [List.getElem?_append_right (by rw [stE_len]; omega), stE_len, Nat.add_sub_cancel_left]
    exact hj
/-- Cells of proofs, to be appended. -/
def SrcP (w : World) (so : Option Addr) (ys : List PrX) : Prop := ys.length = 0 ∨ ∃ ad, so = some ad ∧ ∀ (j : Nat) (v : Value), (flatL prE ys)[j]? = some v → w.cell? (ad.add j) = some v
theorem pr_sl {P : Nat → Prop} {w : World} {g : Nat} {xs : List PrX} (hP : P g) (h : HoldsK prE 27 w g 0 xs.toArray) (hl : ∀ x ∈ xs, LiesP P w x) : SlAt prRep P w (some ⟨g, 0, none⟩) (xs.map PrX.d) := fun i hi => by
  have hi' : i < xs.length := by simpa using hi
  refine ⟨g, 0, prE xs[i], rfl, hP, ?_, xs[i], by simp, rfl, by simpa using hl _ (List.getElem_mem hi')⟩
  have := holdsK_range prE_len h i (by simpa using hi')
  rwa [getElem!_pos xs.toArray i hi', List.getElem_toArray] at this
theorem own_pr {P : Nat → Prop} {w : World} {base cap : Nat} {ao : Option Addr} {xs : List PrX} (h : OwnE prE 27 37 w base ao cap xs) (hP : ∀ g, base ≤ g → P g) (hl : ∀ x ∈ xs, LiesP P w x) : SlAt prRep P w ao (xs.map PrX.d) := by
  rcases h.cases with ⟨_, _, rfl⟩ | ⟨g, rfl, hg, _, _⟩
  · exact SlAt.nil _ _ _
  · exact pr_sl (hP g hg) (h.holds prE_len) hl
theorem own_src {w : World} {base cap : Nat} {ao : Option Addr} {xs : List PrX} (h : OwnE prE 27 37 w base ao cap xs) : SrcP w ao xs := by
  rcases h.cases with ⟨_, _, rfl⟩ | ⟨g, rfl, hg, _, _⟩
  · exact .inl rfl
  · refine .inr ⟨_, rfl, fun i v hv => ?_⟩
    obtain ⟨_, _, _, _, hc, _⟩ := own_there h
    rw [Addr.add_lit, Nat.zero_add]
    exact hc i v hv
/-- An element of a slice of proofs, known whole. -/
theorem prv_get {P : Nat → Prop} {w : World} {ao : Option Addr} {l : List PrD} (h : SlAt prRep P w ao l) (k : Nat) (hk : k < l.length) :
    ∃ b off x, ao = some ⟨b, off, none⟩ ∧ P b ∧ b < w.heap.size ∧ Hid (l[k]? = some x.d) ∧ LiesP P w x ∧ Hid (∀ w', w'.heap[b]? = w.heap[b]? → (rowLoad 37 ⟨b, off + k * 27, none⟩).run Tryz.prog w' = .ok (prV x) w') := by
  obtain ⟨b, off, cs, p, e, hp, hr, ⟨x, hx, rfl, hl⟩, hk2⟩ := h.get k hk
  subst hx
  exact ⟨b, off, x, e, hp, rangeAt_lt hr (by rw [prE_len]; decide), hk2, hl, Lib.hid fun w' hw => prV_load (rangeAt_keep hr hw)⟩
end Go.Proofs.YtaihmldiglgipaaGreat

namespace Go.Proofs.YtaihmldiglgipaaGreat
open Go.RowKit Go.Sort
attribute [local go_sem ↓] rowLoad_stv rowStore_stv rowLoad_prf rowStore_prf
attribute [local go_sem ↓ high] make_prf make_prs

/-- A slice of proofs that one may read and append. -/
def PsE (R : List PrD → Prop) (P : Nat → Prop) (e : Ending) (w' : World) : Prop := ∃ (ro : Option Addr) (m rc : Nat) (ys : List PrX), e = .returned (.slice ro m rc) ∧ ys.length = m ∧ R (ys.map PrX.d) ∧ SrcP w' ro ys ∧ ∀ y ∈ ys, LiesP P w' y
theorem forkF_hd {ls : List St} {k : Nat} {s t : St} (hno : ∀ j x y, j < k → ls[j]? = some x → ls[j + 1]? = some y → ¬ x.number = y.number) (hs : ls[k]? = some s) (ht : ls[k + 1]? = some t) (h : ¬ s.number = t.number) : ∀ j x y, j < k + 1 → ls[j]? = some x → ls[j + 1]? = some y → ¬ x.number = y.number := fun j x y hj hx hy => by
  by_cases e : j = k
  · subst e
    rw [hs] at hx; rw [ht] at hy
    cases hx; cases hy
    exact h
  · exact hno j x y (by omega) hx hy
theorem num_cell {w : World} {b o : Nat} {x : St × Sv × Sv} (h : w.rangeAt b o (stE x)) : w.cell? ⟨b, o + 1, none⟩ = some (.int .i64 x.1.number) := h 1 _ rfl
set_option maxHeartbeats 16000000 in
set_option maxRecDepth 100000 in
theorem forks_any {P : Nat → Prop} (v : Value) (ls : List St) (w : World) (hv : Sl stRep P w v ls) (hm : ls.length ≤ 100000) :
    Calls Tryz.prog 26 #[v] w fun e w' => PsE (ForksR ls) P e w' ∧ Ex w.heap.size none w w' := by
  obtain ⟨ao, cap, rfl, hx⟩ := hv
  have HX := Lib.hid hx
  clear hx
  obtain ⟨n, hn⟩ : ∃ n, n = ls.length := ⟨_, rfl⟩
  have HN := Lib.hid hn
  rw [← hn] at hm ⊢
  clear hn
  go_enter Tryz.func26, Tryz.ntmps26
  go_wp2
  go_loopw [3] (fun i wr => ∃ kp : Nat, i = .int .i64 ((kp : Int) + 1) ∧ (kp + 1 ≤ n ∨ kp = 0) ∧ Hid (∀ j x y, j < kp → ls[j]? = some x → ls[j + 1]? = some y → ¬ x.number = y.number) ∧ Ex w.heap.size none w wr) (fun i _ => n + 1 - (intOf i).toNat)
  case atStart => exact ⟨0, by go_num, .inr rfl, Lib.hid (fun j x y hj => by omega), Ex.refl _ _ _⟩
  case round =>
    obtain ⟨kp, rfl, hkp, HNO, hex⟩ := hrel
    have hsz := hex.size
    have HRX := Lib.hid hex
    clear hex
    by_cases hlt : kp + 1 < n
    · have hltI : (kp : Int) + 1 < (n : Int) := by omega
      have p0 : (0 : Int) ≤ (kp : Int) + 1 := by omega
      have e0 : ((kp : Int) + 1).toNat = kp + 1 := by omega
      have hwp : IntKind.i64.wrap ((kp : Int) + 1 - 1) = (kp : Int) := by rw [IntKind.wrap_i64]; omega
      have hwp2 : IntKind.i64.wrap ((kp : Int) + 1 + 1) = (kp : Int) + 1 + 1 := by rw [IntKind.wrap_i64]; omega
      have hkl : (kp : Int) < (n : Int) := by omega
      have hk0 : (0 : Int) ≤ (kp : Int) := by omega
      have hwp3 : IntKind.i64.wrap (kp : Int) = (kp : Int) := by rw [IntKind.wrap_i64]; omega
      have hkn : kp < n := by omega
      obtain ⟨b, off, s, l1, p1, hao, hPb, hls, hrs, HXs⟩ := st_get HX.out kp (by rw [← HN.out]; omega)
      have HAO := Lib.hid hao
      subst hao
      obtain ⟨b', off', t, l2, p2, hao, _, hlt', hrt, HXt⟩ := st_get HX.out (kp + 1) (by rw [← HN.out]; omega)
      cases hao
      have hbl := rangeAt_lt hrs (by rw [stE_len]; omega)
      have HQ : Hid (∀ w', Ex w.heap.size none w w' → w'.cell? ⟨b, off + kp * 13 + 1, none⟩ = some (.int .i64 s.number) ∧ w'.cell? ⟨b, off + (kp + 1) * 13 + 1, none⟩ = some (.int .i64 t.number)) := Lib.hid (fun w' h =>
        ⟨num_cell (x := (s, l1, p1)) (rangeAt_keep hrs (h.block b hbl (by simp))), num_cell (x := (t, l2, p2)) (rangeAt_keep hrt (h.block b hbl (by simp)))⟩)
      have HLD : Hid (∀ w', Ex w.heap.size none w w' → (rowLoad 35 ⟨b, off + kp * 13, none⟩).run Tryz.prog w' = .ok (stV (s, l1, p1)) w' ∧ (rowLoad 35 ⟨b, off + (kp + 1) * 13, none⟩).run Tryz.prog w' = .ok (stV (t, l2, p2)) w') := Lib.hid (fun w' h =>
        ⟨stV_load (rangeAt_keep hrs (h.block b hbl (by simp))), stV_load (rangeAt_keep hrt (h.block b hbl (by simp)))⟩)
      have HLS : Hid (Lies P w (s, l1, p1) ∧ Lies P w (t, l2, p2)) := Lib.hid ⟨hls, hlt'⟩
      clear hls hrs hlt' hrt hPb
      by_cases te : s.number = t.number
      · have k1 : (t.number == s.number) = true := by simp [te]
        have HF : Hid (forkF ls = some (s, t)) := Lib.hid (forkF_some HNO.out HXs.out HXt.out te)
        clear te
        have hq := fun p : ExW wr => HQ.out p.w' (HRX.out.trans p.ex hsz (by simp))
        go_upto_region 4 with (fail)
        refine wp_region_quiet_ex (by kernel_rfl) (by kernel_rfl) ?_
        repeat (go_big_quiet_step (fail))
        refine wpQuiet_nil ?_
        intro _ hw'
        obtain ⟨p9, hw''⟩ := hw'
        subst hw''
        clear hq
        obtain ⟨w4, hw4⟩ : ∃ w4, w4 = p9.w' := ⟨_, rfl⟩
        have HX4 : Hid (Ex w.heap.size none w w4) := Lib.hid (by rw [hw4]; exact HRX.out.trans p9.ex hsz (by simp))
        have hz4 : w.heap.size ≤ w4.heap.size := HX4.out.size
        rw [← hw4]
        clear hw4
        obtain ⟨q1, q2⟩ := HLD.out w4.drew HX4.out.drew
        have hb := fun W => build_prf W 1 (s, l1, p1) (t, l2, p2)
        have hr := fun W => rows_prf W (1, (s, l1, p1), (t, l2, p2))
        go_upto_region 5 with (fail)
        go_region_with (fail)
        all_goals go_wp2
        all_goals go_ret
        all_goals exact ⟨⟨_, 1, 1, [(1, (s, l1, p1), (t, l2, p2))], rfl, rfl, .inr ⟨s, t, HF.out, rfl⟩, lit_cells (by rfl), fun y hy => by
          rw [List.mem_singleton.1 hy]
          exact LiesP.keep HLS.out fun c _ hc => (HX4.out.drew.thenW (Ex.new w4.drew _)).block c hc (by simp)⟩, HX4.out.drew.thenW (Ex.new w4.drew _)⟩
      · have k1 : (t.number == s.number) = false := by simpa using fun e => te e.symm
        have HNN : Hid (∀ j x y, j < kp + 1 → ls[j]? = some x → ls[j + 1]? = some y → ¬ x.number = y.number) := Lib.hid (forkF_hd HNO.out HXs.out HXt.out te)
        clear te
        have hq := fun p : ExW wr => HQ.out p.w' (HRX.out.trans p.ex hsz (by simp))
        go_upto_region 4 with (fail)
        refine wp_region_quiet_ex (by kernel_rfl) (by kernel_rfl) ?_
        repeat (go_big_quiet_step (fail))
        refine wpQuiet_nil ?_
        intro _ hw'
        obtain ⟨p9, hw''⟩ := hw'
        subst hw''
        clear hq
        go_wp2
        go_roundw
        case rel => exact ⟨kp + 1, by go_num, .inl (by omega), HNN, HRX.out.trans p9.ex hsz (by simp)⟩
        case measure => simp [intOf] <;> omega
    · have hltI : ¬ ((kp : Int) + 1 < (n : Int)) := by omega
      have HF : Hid (forkF ls = none) := Lib.hid (forkF_none fun j x y hx hy => by
        have := (List.getElem?_eq_some_iff.1 hy).1
        have hn := HN.out
        exact HNO.out j x y (by omega) hx hy)
      go_wp2
      go_ret
      exact ⟨⟨none, 0, 0, [], rfl, rfl, .inl ⟨HF.out, rfl⟩, .inl rfl, fun y hy => by cases hy⟩, HRX.out⟩
end Go.Proofs.YtaihmldiglgipaaGreat

namespace Go.Proofs.YtaihmldiglgipaaGreat
open Go.RowKit Go.Sort
attribute [local go_sem ↓] rowLoad_stv rowStore_stv

/-- How cases are held. -/
def caRep : Rep CaD := valRep caE 4 caE_len one_caE
theorem case_eql (x y : CaD) : ∀ w, (binOp .eql 50 (.agg (caE x).toArray) (.agg (caE y).toArray)).run Tryz.prog w = .ok (.bool (decide (x = y))) w := fun w => by
  obtain ⟨a, b, c, d⟩ := x
  obtain ⟨e, f, g, h⟩ := y
  simp [go_sem, caE]
  by_cases h1 : a = e <;> by_cases h2 : b = f <;> by_cases h3 : c = g <;> by_cases h4 : d = h <;> simp [h1, h2, h3, h4]
theorem case_neq (x y : CaD) : ∀ w, (binOp .neq 50 (.agg (caE x).toArray) (.agg (caE y).toArray)).run Tryz.prog w = .ok (.bool (!decide (x = y))) w := fun w => by
  obtain ⟨a, b, c, d⟩ := x
  obtain ⟨e, f, g, h⟩ := y
  simp [go_sem, caE]
  by_cases h1 : a = e <;> by_cases h2 : b = f <;> by_cases h3 : c = g <;> by_cases h4 : d = h <;> simp [h1, h2, h3, h4]
theorem Tryz.infoCa : (Tryz.prog.info? 50).map (fun i => (i.zero, i.size, i.bytes)) = some (some (.agg #[.int .i64 0, .int .i64 0, .int .i64 0, .int .i64 0]), 4, 32) := by kernel_rfl
theorem compactCases_none (p : Option Addr) (cap : Nat) (w : World) : Calls Tryz.prog 85 #[.slice p 0 cap] w fun e w' => e = .returned (.slice p 0 cap) ∧ w' = w := by
  go_enter Tryz.func85, Tryz.ntmps85
  go_wp2
  go_ret
  exact ⟨rfl, rfl⟩
theorem compactCases_any (g off cap s : Nat) (d : Array CaD) (w : World) (hH : HoldsK caE 4 w g off d) (hg : g < w.heap.size) (hsz : d.size < 1000000000000) (hcap : d.size ≤ cap) (hs : d.size = s) :
    Calls Tryz.prog 85 #[.slice (some ⟨g, off, none⟩) s cap] w fun e w' =>
      e = .returned (.slice (some ⟨g, off, none⟩) (cpt (fun x y : CaD => decide (x = y)) d s).length cap) ∧ HoldsK caE 4 w' g off (cpt (fun x y : CaD => decide (x = y)) d s).toArray ∧ Ex w.heap.size (some g) w w' :=
  compactECs_any clayCs caE caE_len one_caE (fun x y : CaD => decide (x = y)) (fun w x y => case_eql x y w) (fun w x y => case_neq x y w) (by kernel_rfl) (by kernel_rfl) #[.int .i64 0, .int .i64 0, .int .i64 0, .int .i64 0] Tryz.zeroValue50 rfl (by intro v hv; simp at hv; subst hv; rfl) g off cap s d w hH hg hsz hcap hs
set_option maxHeartbeats 16000000 in
set_option maxRecDepth 100000 in
theorem cases_any {P : Nat → Prop} (v : Value) (l : List St) (w : World) (hv : Sl stRep P w v l) (hm : l.length ≤ 100000) (hL : ∀ s ∈ l, LightS s) :
    Calls Tryz.prog 55 #[v] w fun q w' => ∃ u cs, q = .returned u ∧ Sl caRep (fun b => w.heap.size ≤ b) w' u cs ∧ cs.length ≤ l.length ∧ Ex w.heap.size none w w' := by
  obtain ⟨ao, cap, rfl, hx⟩ := hv
  have HLL := Lib.hid hL
  have HX := Lib.hid hx
  have HXB : Hid (∀ w', Ex w.heap.size none w w' → SlAt stRep P w' ao l) := Lib.hid (fun w' h => hx.keep (by decide) fun b _ hb => h.block b hb (by simp))
  clear hx hL
  go_enter Tryz.func55, Tryz.ntmps55
  go_wp2
  go_loopw [3, 10] (fun v i wr => ∃ (k n : Nat) (ro : Option Addr) (rc : Nat) (acc : List CaD), k ≤ l.length ∧ i = .int .i64 k ∧ v = .slice ro n rc ∧ Hid (acc.length = n ∧ n ≤ k) ∧ OwnE caE 4 50 wr w.heap.size ro rc acc ∧ Ex w.heap.size none w wr) (fun _ i _ => l.length - (intOf i).toNat)
  case atStart => exact ⟨0, 0, none, 0, [], by omega, rfl, rfl, Lib.hid ⟨rfl, by omega⟩, OwnE.nil _ _ _ _ _, Ex.refl _ _ _⟩
  case round =>
    obtain ⟨k, n, ro, rc, acc, hk, rfl, rfl, HA, hown, hex⟩ := hrel
    have hsz := hex.size
    have HEX := Lib.hid hex
    have HO := Lib.hid hown
    clear hown
    by_cases hlt : k < l.length
    · have hltI : (k : Int) < (l.length : Int) := by omega
      have hnk : n ≤ k := HA.out.2
      have HAL : Hid (acc.length = n) := Lib.hid HA.out.1
      obtain ⟨b, off, x, rfl, _, hbl, HXs, hlx, HR⟩ := stv_get (HXB.out wr HEX.out) k hlt
      have HLG : Hid (x.1.list.length ≤ 100000 ∧ x.1.pins.length ≤ 100000) := Lib.hid (HLL.out x.1 (List.mem_of_getElem? HXs.out))
      have r0 := HR.out wr rfl
      have hn1 := stV_new wr #[.int .i64 0, .int .i64 0, .string ⟨#[]⟩, .int .i64 0, .int .i64 0, .int .i64 0, .int .i64 0, .int .i64 0, .slice none 0 0, .slice none 0 0, .string ⟨#[]⟩, .int .i64 0, .string ⟨#[]⟩] x rfl
      go_upto_region 5 with (fail)
      obtain ⟨ws, hws⟩ : ∃ ws : World, ws = wr.alloc (.cells (stV x).cells 35) := ⟨_, rfl⟩
      have HEs : Hid (Ex wr.heap.size none wr ws) := Lib.hid (by rw [hws]; exact Ex.new wr _)
      have hzs : ws.heap.size = wr.heap.size + 1 := by rw [hws]; simp
      have r1 : (rowLoad 35 ⟨wr.heap.size, 0, none⟩).run Tryz.prog ws = .ok (stV x) ws := stV_box (by rw [hws]; exact heap_alloc_new wr _)
      have HLS : Hid (∀ w', Ex ws.heap.size none ws w' → Lies P w' x) := Lib.hid (fun w' h => hlx.keep fun b _ hb => (h.block b (by omega) (by simp)).trans (HEs.out.block b hb (by simp)))
      clear r0 hn1 hlx HR hex
      refine wp_world (fun W => W = ws) (by rw [hws]; rfl) (fun W hW => ?_)
      rw [hW]
      clear hW W hws
      obtain ⟨sb, hsb⟩ : ∃ sb, sb = voteSB x.1 := ⟨_, rfl⟩
      have HB : Hid (voteSB x.1 = sb) := Lib.hid hsb.symm
      clear hsb
      cases sb with
      | false =>
        go_wp2_with (first
          | (go_at_call 82
             refine (vote_any (P := P) x ws (HLS.out ws (Ex.refl _ _ ws)) HLG.out).mono ?_
             rintro e4 w4 ⟨⟨⟨t, ⟨la, n1, ca⟩, ⟨pa, n2, cp⟩⟩, he4, hy1, hy2, hly⟩, hex4⟩
             rw [HB.out] at he4
             have he5 : e4 = .returned (.tuple #[.agg #[.int .i64 t.author, .int .i64 t.a, .int .i64 (t.b % 16), .int .i64 t.c, .int .i64 (t.b / 16), .slice la n1 ca, .slice pa n2 cp], .bool false]) := he4
             subst he5
             have HE4 : Hid (Ex ws.heap.size none ws w4) := Lib.hid hex4
             clear he4 hy1 hy2 hly hex4 r1)
          | fail)
        have HEY : Hid (Ex wr.heap.size none wr (w4.alloc (.cells #[.int .i64 t.author, .int .i64 t.a, .int .i64 (t.b % 16), .int .i64 t.c, .int .i64 (t.b / 16), .slice la n1 ca, .slice pa n2 cp] 100))) := Lib.hid ((HEs.out.trans HE4.out (by omega) (by simp)).trans (Ex.new w4 _) (by have := HE4.out.size; omega) (by simp))
        go_roundw
        case rel => exact ⟨k + 1, n, ro, rc, acc, by omega, by go_num, rfl, Lib.hid ⟨HA.out.1, by omega⟩, HO.out.keep HEY.out (Nat.le_refl _) (by simp), HEX.out.trans HEY.out hsz (by simp)⟩
        case measure => simp [intOf] <;> omega
      | true =>
        go_upto_region 7 with (first
          | (go_at_call 82
             refine (vote_any (P := P) x ws (HLS.out ws (Ex.refl _ _ ws)) HLG.out).mono ?_
             rintro e4 w4 ⟨⟨⟨t, ⟨la, n1, ca⟩, ⟨pa, n2, cp⟩⟩, he4, hy1, hy2, hly⟩, hex4⟩
             rw [HB.out] at he4
             have he5 : e4 = .returned (.tuple #[.agg #[.int .i64 t.author, .int .i64 t.a, .int .i64 (t.b % 16), .int .i64 t.c, .int .i64 (t.b / 16), .slice la n1 ca, .slice pa n2 cp], .bool true]) := he4
             subst he5
             have HE4 : Hid (Ex ws.heap.size none ws w4) := Lib.hid hex4
             clear he4 hy1 hy2 hly hex4 r1)
          | fail)
        obtain ⟨w5, hw5⟩ : ∃ w5 : World, w5 = w4.alloc (.cells #[.int .i64 t.author, .int .i64 t.a, .int .i64 (t.b % 16), .int .i64 t.c, .int .i64 (t.b / 16), .slice la n1 ca, .slice pa n2 cp] 100) := ⟨_, rfl⟩
        have HEY : Hid (Ex wr.heap.size none wr w5) := Lib.hid (by rw [hw5]; exact (HEs.out.trans HE4.out (by omega) (by simp)).trans (Ex.new w4 _) (by have := HE4.out.size; omega) (by simp))
        have hz5 : wr.heap.size < w5.heap.size := by rw [hw5]; have := HE4.out.size; simp; omega
        have hb5 : w5.heap[w4.heap.size]? = some (.cells #[.int .i64 t.author, .int .i64 t.a, .int .i64 (t.b % 16), .int .i64 t.c, .int .i64 (t.b / 16), .slice la n1 ca, .slice pa n2 cp] 100 (0, 0)) := by rw [hw5]; exact heap_alloc_new _ _
        have m1 : w5.cell? ⟨w4.heap.size, 1, none⟩ = some (.int .i64 t.a) := by rw [cell_of_row _ _ _ _ _ _ hb5]; rfl
        have m2 : w5.cell? ⟨w4.heap.size, 2, none⟩ = some (.int .i64 (t.b % 16)) := by rw [cell_of_row _ _ _ _ _ _ hb5]; rfl
        have m3 : w5.cell? ⟨w4.heap.size, 3, none⟩ = some (.int .i64 t.c) := by rw [cell_of_row _ _ _ _ _ _ hb5]; rfl
        have m4 : w5.cell? ⟨w4.heap.size, 4, none⟩ = some (.int .i64 (t.b / 16)) := by rw [cell_of_row _ _ _ _ _ _ hb5]; rfl
        refine wp_world (fun W => W = w5) (by rw [hw5]) (fun W hW => ?_)
        rw [hW]
        clear hW W hw5 hb5
        go_wp2_with (first
          | (at_builtin; refine wpList_appE2 rfl (.tmp 20) (.tmp 23) _ 50 (by rfl) Tryz.underlying45 _ 4 32 Tryz.infoCa rfl (by decide) (by decide) caE caE_len one_caE w.heap.size ro rc n acc HAL.out (by rfl) (some ⟨w5.heap.size, 0, none⟩) 1 1 (by rfl) [(t.a, t.b % 16, t.c, t.b / 16)] rfl ((HO.out.keep HEY.out (Nat.le_refl _) (by simp)).keep (Ex.new w5 _) (Nat.le_refl _) (by simp)) (lit_cells (by rfl)) (by omega) (by simp; omega) (n + 1) rfl ?_; intro ro2 rc2 w6 hown6 hex6 hk6 hr6)
          | fail)
        have HO6 := Lib.hid hown6
        have HE6 : Hid (Ex w.heap.size none w w6) := Lib.hid (((HEX.out.trans HEY.out hsz (by simp)).trans (Ex.new w5 _) (by omega) (by simp)).trans hex6 (Nat.le_refl _) (by simp))
        clear hown6 hex6 hk6 hr6
        go_roundw
        case rel => exact ⟨k + 1, n + 1, ro2, rc2, acc ++ [(t.a, t.b % 16, t.c, t.b / 16)], by omega, by go_num, rfl, Lib.hid ⟨by rw [List.length_append, HAL.out]; rfl, by omega⟩, HO6.out, HE6.out⟩
        case measure => simp [intOf] <;> omega
    · obtain rfl : k = l.length := by omega
      have hnk : n ≤ l.length := HA.out.2
      have HAL : Hid (acc.length = n) := Lib.hid HA.out.1
      clear hex
      rcases HO.out.cases with ⟨e1, e2, e3⟩ | ⟨g, e1, hg1, hg2, hg3⟩
      · subst e1 e2
        have hn0 : n = 0 := by rw [← HAL.out, e3]; rfl
        clear e3
        subst hn0
        go_wp2_with (first
          | (go_at_call 83; refine (sortCases_none _ _ _ _).mono ?_; rintro e w' ⟨rfl, rfl⟩)
          | (go_at_call 85; refine (compactCases_none _ _ _).mono ?_; rintro e w' ⟨rfl, rfl⟩)
          | fail)
        go_ret
        exact ⟨_, [], rfl, Sl.nil _ _, by simp, HEX.out⟩
      · subst e1
        have HH : Hid (HoldsK caE 4 wr g 0 (acc.toArray : Array CaD)) := Lib.hid (HO.out.holds caE_len)
        have hcap : n ≤ rc := by rw [← HAL.out]; exact hg3
        have HSZ : Hid ((acc.toArray : Array CaD).size = n) := Lib.hid (by rw [← HAL.out]; simp)
        go_wp2_with (first
          | (go_at_call 83
             refine (sortCases_any g 0 rc n acc.toArray wr HH.out (by omega) HSZ.out (by omega)).mono ?_
             rintro e w1 ⟨rfl, d', hH1, hd1, hp1, hex1⟩
             have HD : Hid (HoldsK caE 4 w1 g 0 d' ∧ d'.size = n ∧ Ex wr.heap.size (some g) wr w1) := Lib.hid ⟨hH1, hd1, hex1⟩
             have hz1 : wr.heap.size ≤ w1.heap.size := hex1.size
             clear hH1 hd1 hp1 hex1)
          | (go_at_call 85
             refine (compactCases_any g 0 rc n d' w1 HD.out.1 (by omega) (by rw [HD.out.2.1]; omega) (by rw [HD.out.2.1]; exact hcap) HD.out.2.1).mono ?_
             rintro e w2 ⟨rfl, hH2, hex2⟩
             have HC : Hid (HoldsK caE 4 w2 g 0 (cpt (fun x y : CaD => decide (x = y)) d' n).toArray ∧ Ex w1.heap.size (some g) w1 w2) := Lib.hid ⟨hH2, hex2⟩
             clear hH2 hex2)
          | fail)
        go_ret
        have hE1 : Ex wr.heap.size (some g) wr w2 := HD.out.2.2.trans HC.out.2 hz1 (fun q h _ => h)
        have hE : Ex w.heap.size none w w2 := HEX.out.trans hE1 hsz (fun q h hq => by cases h; omega)
        have hlen : (cpt (fun x y : CaD => decide (x = y)) d' n).length ≤ n := cpt_le _ d' n
        exact ⟨_, cpt (fun x y : CaD => decide (x = y)) d' n, rfl, ⟨some ⟨g, 0, none⟩, rc, rfl, val_sl hg1 HC.out.1⟩, by omega, hE⟩
end Go.Proofs.YtaihmldiglgipaaGreat

namespace Go.Proofs.YtaihmldiglgipaaGreat
open Go.RowKit Go.Sort

theorem rowStore_ca (a : Addr) (v : Value) : storeVar 50 a v = rowStore 50 a v := rfl
theorem rowLoad_ca (a : Addr) : loadVar 50 a = rowLoad 50 a := rfl
theorem Tryz.sizeCa : (Tryz.prog.info? 50).map (·.size) = some 4 := by kernel_rfl
/-- A case as a value. -/
def caV (x : CaD) : Value := .agg (caE x).toArray
theorem caV_one (x : CaD) : (caE x).toArray.all (·.oneCell') = true := by
  rw [Array.all_eq_true_iff_forall_mem]
  intro v hv
  exact one_caE x v (by simpa using hv)
theorem caV_load {w : World} {b o : Nat} {x : CaD} (h : w.rangeAt b o (caE x)) : (rowLoad 50 ⟨b, o, none⟩).run Tryz.prog w = .ok (caV x) w :=
  run_loadVar_mid w b o 50 (caE x) _ h Tryz.underlying50 rfl Tryz.sizeCa
theorem caV_box {w : World} {g : Nat} {x : CaD} {t : TypeId} {fr : Nat × Nat} (h : w.heap[g]? = some (.cells (caE x).toArray t fr)) : (rowLoad 50 ⟨g, 0, none⟩).run Tryz.prog w = .ok (caV x) w :=
  run_rowLoad (P := Tryz.prog) w g t 50 (caE x).toArray fr _ h Tryz.underlying50 rfl Tryz.sizeCa
theorem caV_set {w : World} {g : Nat} {old : Array Value} (x : CaD) (h : w.heap[g]? = some (.cells old 50 (0, 0))) (ho : old.size = 4) : (rowStore 50 ⟨g, 0, none⟩ (caV x)).run Tryz.prog w = .ok () (w.setRow g (caE x).toArray) :=
  run_rowStore (P := Tryz.prog) w g 50 50 old (caE x).toArray h Tryz.sizeCa (by rw [ho]; rfl) (caV_one x)
theorem caV_new (w : World) (old : Array Value) (x : CaD) (ho : old.size = 4) : (rowStore 50 ⟨w.heap.size, 0, none⟩ (caV x)).run Tryz.prog (w.alloc (.cells old 50)) = .ok () (w.alloc (.cells (caE x).toArray 50)) := by
  have h := caV_set (w := w.alloc (.cells old 50)) (g := w.heap.size) (old := old) x (heap_alloc_new w _) ho
  rw [alloc_setRow] at h
  exact h
theorem vo_load {w : World} {b o : Nat} {x : St × Sv × Sv} (h : w.rangeAt b o (voE x)) : (rowLoad 100 ⟨b, o, none⟩).run Tryz.prog w = .ok (voV x) w :=
  run_loadVar_mid w b o 100 (voE x) _ h Tryz.underlying100 rfl Tryz.sizeVo
theorem case_parts {e kd sl rd : Int} {s : St} (h : caseB e kd sl rd s = true) : s.a = e ∧ s.b % 16 = kd ∧ s.c = sl ∧ s.b / 16 = rd := by
  unfold caseB at h
  simp only [Bool.and_eq_true, decide_eq_true_eq] at h
  exact ⟨h.1.1.1, h.1.1.2, h.1.2, h.2⟩
theorem first_parts {t s : St} (h : firstB t s = true) : voteB s = true ∧ (s.a = t.a ∧ s.b % 16 = t.b % 16 ∧ s.c = t.c ∧ s.b / 16 = t.b / 16) ∧ ordC s t = 0 := by
  unfold firstB at h
  simp only [Bool.and_eq_true, decide_eq_true_eq] at h
  exact ⟨h.1.1, case_parts h.1.2, h.2⟩
theorem in_parts {e kd sl rd : Int} {s : St} (h : inCase e kd sl rd s = true) : voteB s = true ∧ sealedB s = true ∧ s.a = e ∧ s.b % 16 = kd ∧ s.c = sl ∧ s.b / 16 = rd := by
  unfold inCase voteSB at h
  simp only [Bool.and_eq_true] at h
  exact ⟨h.1.1, h.1.2, case_parts h.2⟩
theorem first_self {e kd sl rd : Int} {s : St} (h : inCase e kd sl rd s = true) : firstB s s = true := by
  obtain ⟨h1, _⟩ := in_parts h
  unfold firstB caseB
  rw [h1, good_ordC.refl]
  simp
/-- Two first votes of one case show that their author has voted twice. -/
theorem double_of {l : List St} {e kd sl rd : Int} {y0 y1 x1 x2 : St} (ha : y0.author = y1.author) (i0 : inCase e kd sl rd y0 = true) (i1 : inCase e kd sl rd y1 = true) (hlt : ordV y0 y1 < 0) (m1 : x1 ∈ l) (m2 : x2 ∈ l) (f1 : firstB y0 x1 = true) (f2 : firstB y1 x2 = true) : DoubleOf l (2, x1, x2) := by
  obtain ⟨v1, ⟨a1, b1, c1, d1⟩, o1⟩ := first_parts f1
  obtain ⟨v2, ⟨a2, b2, c2, d2⟩, o2⟩ := first_parts f2
  obtain ⟨_, _, p0, p1, p2, p3⟩ := in_parts i0
  obtain ⟨_, _, q0, q1, q2, q3⟩ := in_parts i1
  refine ⟨rfl, m1, m2, v1, v2, ?_, ?_⟩
  · show caseB x1.a (x1.b % 16) x1.c (x1.b / 16) x2 = true
    unfold caseB
    simp only [Bool.and_eq_true, decide_eq_true_eq]
    exact ⟨⟨⟨by rw [a2, a1, p0, q0], by rw [b2, b1, p1, q1]⟩, by rw [c2, c1, p2, q2]⟩, by rw [d2, d1, p3, q3]⟩
  · show ordC x1 x2 < 0
    have h0 : cmpI y0.author y1.author = 0 := by rw [ha]; exact good_cmpI.refl _
    unfold ordV lexC at hlt
    rw [if_neg (by simp only [ne_eq, Decidable.not_not]; exact h0)] at hlt
    have h3 : ordC x1 y1 < 0 := good_ordC.le_lt (by rw [o1]; exact Int.le_refl _) hlt
    exact good_ordC.lt_le h3 (by rw [good_ordC.zero o2]; exact Int.le_refl _)
attribute [local go_sem ↓] rowLoad_stv rowStore_stv rowLoad_prf rowStore_prf rowLoad_ca rowStore_ca rowLoad_vo rowStore_vo
attribute [local go_sem ↓ high] make_prf make_prs

set_option maxHeartbeats 16000000 in
set_option maxRecDepth 100000 in
theorem doubles_any {P : Nat → Prop} (v : Value) (ls : List St) (a : Int) (w : World) (hv : Sl stRep P w v ls) (hm : ls.length ≤ 100000) (hL : ∀ s ∈ ls, LightS s) (ha : ∀ s ∈ ls, s.author = a) :
    Calls Tryz.prog 27 #[v] w fun e w' => PsE (DoublesR ls) P e w' ∧ Ex w.heap.size none w w' := by
  obtain ⟨ao, cap, rfl, hx⟩ := hv
  have HX : Hid (∀ w', Ex w.heap.size none w w' → SlAt stRep (fun b => P b ∧ b < w.heap.size) w' ao ls) := Lib.hid (fun w' h => (hx.mono (P' := fun b => P b ∧ b < w.heap.size) (by decide) fun b hb hlt => ⟨hb, hlt⟩).keep (by decide) fun b hb _ => h.block b hb.2 (by simp))
  have HLL := Lib.hid hL
  have HAU := Lib.hid ha
  obtain ⟨n, hn⟩ : ∃ n, n = ls.length := ⟨_, rfl⟩
  have HN := Lib.hid hn
  rw [← hn] at hm ⊢
  clear hn hx hL ha
  obtain ⟨zp, hz⟩ := Tryz.infoPrf
  have HZ := Lib.hid hz
  clear hz
  go_enter Tryz.func27, Tryz.ntmps27
  go_wp2_with (first
    | (go_at_call 55
       refine (cases_any (P := fun b => P b ∧ b < w.heap.size) (.slice ao n cap) ls w ⟨ao, cap, by rw [HN.out], HX.out w (Ex.refl _ _ _)⟩ (by rw [← HN.out]; exact hm) HLL.out).mono ?_
       rintro e w1 ⟨u, cs, rfl, ⟨ca, cc, rfl, hcs⟩, hll, hex1⟩
       have H1 : Hid (SlAt caRep (fun b => w.heap.size ≤ b) w1 ca cs ∧ Ex w.heap.size none w w1) := Lib.hid ⟨hcs, hex1⟩
       have hz1 : w.heap.size ≤ w1.heap.size := hex1.size
       clear hcs hex1)
    | fail)
  obtain ⟨m, hmc⟩ : ∃ m, m = cs.length := ⟨_, rfl⟩
  have HM := Lib.hid hmc
  rw [← hmc] at hll ⊢
  rw [← HN.out] at hll
  clear hmc
  go_loopw [3, 10] (fun v i wr => ∃ (k q : Nat) (ro : Option Addr) (rc : Nat) (acc : List PrX), k ≤ m ∧ i = .int .i64 k ∧ v = .slice ro q rc ∧ Hid (acc.length = q ∧ q ≤ k ∧ (∀ p ∈ acc.map PrX.d, DoubleOf ls p) ∧ ∀ x ∈ acc, LiesP (fun b => P b ∧ b < w.heap.size) wr x) ∧ OwnE prE 27 37 wr w1.heap.size ro rc acc ∧ Ex w1.heap.size none w1 wr) (fun _ i _ => m - (intOf i).toNat)
  case atStart => exact ⟨0, 0, none, 0, [], by omega, rfl, rfl, Lib.hid ⟨rfl, by omega, by simp, by simp⟩, OwnE.nil _ _ _ _ _, Ex.refl _ _ _⟩
  case round =>
    obtain ⟨k, q, ro, rc, acc, hk, rfl, rfl, HA, hown, hex⟩ := hrel
    have hsz := hex.size
    have HEX := Lib.hid hex
    have HO := Lib.hid hown
    have hqk : q ≤ k := HA.out.2.1
    have HAL : Hid (acc.length = q) := Lib.hid HA.out.1
    have HEW : Hid (Ex w.heap.size none w wr) := Lib.hid (H1.out.2.trans HEX.out hz1 (by simp))
    have HRO : Hid (∀ b, rowOf ro = some b → b < wr.heap.size) := Lib.hid (fun b e => by
      cases ro with
      | none => cases e
      | some ad => have h := hown.lt ad rfl; have e2 : ad.block = b := Option.some.inj e; omega)
    clear hown hex
    by_cases hlt : k < m
    · have hltI : (k : Int) < (m : Int) := by omega
      obtain ⟨b, off, cells, c, rfl, hPb, hr, hR, HXc⟩ := H1.out.1.get k (by rw [← HM.out]; exact hlt)
      have hR' : cells = caE c := hR
      subst hR'
      have hbl : b < w1.heap.size := rangeAt_lt hr (by rw [caE_len]; omega)
      have r0 : (rowLoad 50 ⟨b, off + k * 4, none⟩).run Tryz.prog wr = .ok (caV c) wr := caV_load (rangeAt_keep hr (HEX.out.block b hbl (by simp)))
      have hn1 := caV_new wr #[.int .i64 0, .int .i64 0, .int .i64 0, .int .i64 0] c rfl
      clear hr hR
      go_upto_region 5 with (fail)
      obtain ⟨ws, hws⟩ : ∃ ws : World, ws = wr.alloc (.cells (caE c).toArray 50) := ⟨_, rfl⟩
      have HEs : Hid (Ex wr.heap.size none wr ws) := Lib.hid (by rw [hws]; exact Ex.new wr _)
      have hzs : ws.heap.size = wr.heap.size + 1 := by rw [hws]; simp
      have r1 : (rowLoad 50 ⟨wr.heap.size, 0, none⟩).run Tryz.prog ws = .ok (caV c) ws := caV_box (by rw [hws]; exact heap_alloc_new wr _)
      clear r0 hn1
      refine wp_world (fun W => W = ws) (by rw [hws]) (fun W hW => ?_)
      rw [hW]
      clear hW W hws
      go_upto_region 6 with (first
        | (go_at_call 56
           refine (votes_any (P := fun b => P b ∧ b < w.heap.size) (.slice ao n cap) ls c.1 c.2.1 c.2.2.1 c.2.2.2 ws ⟨ao, cap, by rw [HN.out], HX.out ws (HEW.out.thenW HEs.out)⟩ (by rw [← HN.out]; exact hm) HLL.out).mono ?_
           rintro e2 w2 ⟨u2, vs, rfl, hvr, ⟨va, vc, rfl, hvs⟩, hvl, hex2⟩
           have H2 : Hid (VotesR ls c.1 c.2.1 c.2.2.1 c.2.2.2 vs ∧ SlAt voRep (fun b => ws.heap.size ≤ b) w2 va vs ∧ Ex ws.heap.size none ws w2) := Lib.hid ⟨hvr, hvs, hex2⟩
           have hz2 : ws.heap.size ≤ w2.heap.size := hex2.size
           clear hvr hvs hvl hex2 r1)
        | fail)
      have HE2 : Hid (Ex wr.heap.size none wr w2) := Lib.hid (HEs.out.trans H2.out.2.2 (by omega) (by simp))
      obtain ⟨lv, hlv⟩ : ∃ lv, lv = vs.length := ⟨_, rfl⟩
      have HLV := Lib.hid hlv
      rw [← hlv]
      clear hlv
      by_cases h2 : 1 < lv
      · have h2I : (1 : Int) < (lv : Int) := by omega
        have h0 : 0 < lv := by omega
        have h0I : (0 : Int) < (lv : Int) := by omega
        obtain ⟨vb, vo, cs0, y0, rfl, hvP, hr0, ⟨l0, p0, rfl, hl0⟩, HY0⟩ := H2.out.2.1.get 0 (by rw [← HLV.out]; omega)
        obtain ⟨vb', vo', cs1, y1, hva, _, hr1, ⟨l1, p1, rfl, hl1⟩, HY1⟩ := H2.out.2.1.get 1 (by rw [← HLV.out]; omega)
        cases hva
        have hvb : vb < w2.heap.size := rangeAt_lt hr0 (by rw [voE_len]; omega)
        have HLO : Hid (∀ w', w'.heap[vb]? = w2.heap[vb]? → (rowLoad 100 ⟨vb, vo, none⟩).run Tryz.prog w' = .ok (voV (y0, l0, p0)) w' ∧ (rowLoad 100 ⟨vb, vo + 7, none⟩).run Tryz.prog w' = .ok (voV (y1, l1, p1)) w') := Lib.hid (fun w' e => by
          have g0 := vo_load (rangeAt_keep hr0 e)
          have g1 := vo_load (rangeAt_keep hr1 e)
          rw [show vo + 0 * voRep.k = vo by omega] at g0
          rw [show vo + 1 * voRep.k = vo + 7 from rfl] at g1
          exact ⟨g0, g1⟩)
        have HLS : Hid (∀ w', Ex w2.heap.size none w2 w' → SlAt stRep (fun b => P b ∧ b < w.heap.size) w' ao ls ∧ Lies (fun b => ws.heap.size ≤ b) w' (y0, l0, p0) ∧ Lies (fun b => ws.heap.size ≤ b) w' (y1, l1, p1)) := Lib.hid (fun w' h =>
          ⟨HX.out w' ((HEW.out.thenW HE2.out).trans h (HEW.out.thenW HE2.out).size (by simp)), hl0.keep fun b _ hb => h.block b hb (by simp), hl1.keep fun b _ hb => h.block b hb (by simp)⟩)
        have HYM : Hid ((y0 ∈ ls ∧ inCase c.1 c.2.1 c.2.2.1 c.2.2.2 y0 = true) ∧ (y1 ∈ ls ∧ inCase c.1 c.2.1 c.2.2.1 c.2.2.2 y1 = true) ∧ ordV y0 y1 < 0) := Lib.hid (by
          have hp := H2.out.1
          obtain ⟨i0, e0⟩ := List.getElem?_eq_some_iff.1 HY0.out
          obtain ⟨i1, e1⟩ := List.getElem?_eq_some_iff.1 HY1.out
          exact ⟨hp.1 y0 (List.mem_of_getElem? HY0.out), hp.1 y1 (List.mem_of_getElem? HY1.out), by have := List.pairwise_iff_getElem.1 hp.2 0 1 i0 i1 (by omega); rwa [e0, e1] at this⟩)
        clear hr0 hr1 hl0 hl1
        go_upto_region 7 with (fail)
        obtain ⟨q0, q1⟩ := HLO.out w2 rfl
        go_region_held3 (fun w' => (rowLoad 100 ⟨vb, vo, none⟩).run Tryz.prog w' = .ok (voV (y0, l0, p0)) w' ∧ (rowLoad 100 ⟨vb, vo + 7, none⟩).run Tryz.prog w' = .ok (voV (y1, l1, p1)) w') (exact HLO.out _ (by first | with_reducible exact HS5.out | exact (by repeat (first | with_reducible exact HE4.out | with_reducible exact HE3.out | with_reducible exact Ex.refl _ _ _ | with_reducible refine Ex.allocX ?_ _ | with_reducible refine Ex.drew ?_) : Ex w2.heap.size none w2 _).block vb hvb (by simp)))
          (first
            | (go_at_call 57
               fail_if_success (have _x := HF3)
               refine (first_any (P := fun b => P b ∧ b < w.heap.size) (Q := fun b => ws.heap.size ≤ b) ao n cap ls (y0, l0, p0) _ HN.out.symm (HLS.out _ (by repeat (first | with_reducible exact Ex.refl _ _ _ | with_reducible refine Ex.drew ?_))).1 hm HLL.out (HLS.out _ (by repeat (first | with_reducible exact Ex.refl _ _ _ | with_reducible refine Ex.drew ?_))).2.1 (HLL.out y0 HYM.out.1.1) ⟨y0, HYM.out.1.1, first_self HYM.out.1.2⟩).mono ?_
               rintro e w3 ⟨⟨x1, rfl, hm1, hf1, hl1⟩, hex3⟩
               have HE3 : Hid (Ex w2.heap.size none w2 w3) := Lib.hid ((by repeat (first | with_reducible exact Ex.refl _ _ _ | with_reducible refine Ex.drew ?_) : Ex w2.heap.size none w2 _).thenW hex3)
               have HF3 : Hid (x1.1 ∈ ls ∧ firstB y0 x1.1 = true ∧ Lies (fun b => P b ∧ b < w.heap.size) w3 x1) := Lib.hid ⟨hm1, hf1, hl1⟩
               clear hm1 hf1 hl1 hex3)
            | (go_at_call 57
               refine (first_any (P := fun b => P b ∧ b < w.heap.size) (Q := fun b => ws.heap.size ≤ b) ao n cap ls (y1, l1, p1) _ HN.out.symm (HLS.out _ (by repeat (first | with_reducible exact HE3.out | with_reducible refine Ex.drew ?_))).1 hm HLL.out (HLS.out _ (by repeat (first | with_reducible exact HE3.out | with_reducible refine Ex.drew ?_))).2.2 (HLL.out y1 HYM.out.2.1.1) ⟨y1, HYM.out.2.1.1, first_self HYM.out.2.1.2⟩).mono ?_
               rintro e w4 ⟨⟨x2, rfl, hm2, hf2, hl2⟩, hex4⟩
               have HE4 : Hid (Ex w2.heap.size none w2 w4) := Lib.hid ((by repeat (first | with_reducible exact HE3.out | with_reducible refine Ex.drew ?_) : Ex w2.heap.size none w2 _).thenW hex4)
               have HF4 : Hid (x2.1 ∈ ls ∧ firstB y1 x2.1 = true ∧ Lies (fun b => P b ∧ b < w.heap.size) w4 x2) := Lib.hid ⟨hm2, hf2, hl2⟩
               have hz4 : w2.heap.size ≤ w4.heap.size := HE4.out.size
               have HX34 : Hid (Ex w3.heap.size none w3 w4) := Lib.hid (Ex.thenW (by repeat (first | with_reducible exact Ex.refl _ _ _ | with_reducible refine Ex.drew ?_)) hex4)
               clear hm2 hf2 hl2 hex4
               have hbd := fun W => build_prf W 2 x1 x2
               have hrs := fun W => rows_prf W (2, x1, x2))
            | (refine step_appE rfl (.tmp 20) (.tmp 32) _ 37 (by rfl) Tryz.underlying27 zp 27 328 HZ.out.1 HZ.out.2 (by decide) (by decide) prE prE_len one_prE w1.heap.size ro rc q acc HAL.out (by rfl) _ 1 1 (by rfl) [(2, x1, x2)] rfl (HO.out.keep (HE2.out.thenW (by repeat (first | with_reducible exact HE4.out | with_reducible refine Ex.allocX ?_ _ | with_reducible refine Ex.drew ?_) : Ex w2.heap.size none w2 _)) (Nat.le_refl _) (by simp)) (lit_cells (by rfl)) (by omega) (by first | omega | (simp; omega)) (q + 1) rfl ?_
               intro ro2 rc2 w5 hown5 hex5 hk5 hr5
               have HO5 := Lib.hid hown5
               have HX5 : Hid (Ex w1.heap.size none wr w5) := Lib.hid ((HE2.out.mono hsz).thenBX (((by repeat (first | with_reducible exact HE4.out | with_reducible refine Ex.allocX ?_ _ | with_reducible refine Ex.drew ?_) : Ex w2.heap.size none w2 _).mono (by omega)).thenBX hex5))
               have HS5 : Hid (w5.heap[vb]? = w2.heap[vb]?) := Lib.hid ((hk5 vb (by first | omega | (simp only [World.size_alloc]; omega) | (simp; omega)) (fun e => by have := HRO.out vb e; omega)).trans ((by repeat (first | with_reducible exact HE4.out | with_reducible refine Ex.allocX ?_ _ | with_reducible refine Ex.drew ?_) : Ex w2.heap.size none w2 _).block vb hvb (by simp)))
               have HL5 : Hid (LiesP (fun b => P b ∧ b < w.heap.size) w5 (2, x1, x2)) := Lib.hid (by
                 have h4 : LiesP (fun b => P b ∧ b < w.heap.size) w4 (2, x1, x2) := ⟨HF3.out.2.2.keep fun b _ hb => HX34.out.block b hb (by simp), HF4.out.2.2⟩
                 exact (h4.keep fun b _ hb => (by repeat (first | with_reducible exact Ex.refl _ _ _ | with_reducible refine Ex.allocX ?_ _ | with_reducible refine Ex.drew ?_) : Ex w4.heap.size none w4 _).block b hb (by simp)).keep fun b hb _ => hex5.block b (by have := hb.2; omega) (by simp))
               clear hown5 hex5 hk5 hr5)
            | fail)
        have HDB : Hid (DoubleOf ls (2, x1.1, x2.1)) := Lib.hid (double_of (by rw [HAU.out y0 HYM.out.1.1, HAU.out y1 HYM.out.2.1.1]) HYM.out.1.2 HYM.out.2.1.2 HYM.out.2.2 HF3.out.1 HF4.out.1 HF3.out.2.1 HF4.out.2.1)
        go_wp2
        go_roundw
        case rel => exact ⟨k + 1, q + 1, ro2, rc2, acc ++ [(2, x1, x2)], by omega, by go_num, rfl, Lib.hid ⟨by rw [List.length_append, HAL.out]; rfl, by omega, fun p hp => by
          rw [List.map_append] at hp
          rcases List.mem_append.1 hp with h | h
          · exact HA.out.2.2.1 p h
          · rw [List.mem_singleton.1 h]; exact HDB.out, fun x hx => by
          rcases List.mem_append.1 hx with h | h
          · exact (HA.out.2.2.2 x h).keep fun b hb _ => HX5.out.block b (by have := hb.2; omega) (by simp)
          · rw [List.mem_singleton.1 h]; exact HL5.out⟩, HO5.out, HEX.out.thenBX HX5.out⟩
        case measure => simp [intOf] <;> omega
      · have h2I : ¬ (1 : Int) < (lv : Int) := by omega
        go_wp2
        go_roundw
        case rel => exact ⟨k + 1, q, ro, rc, acc, by omega, by go_num, rfl, Lib.hid ⟨HA.out.1, by omega, HA.out.2.2.1, fun x hx => (HA.out.2.2.2 x hx).keep fun b hb hlt => HE2.out.block b hlt (by simp)⟩, HO.out.keep HE2.out (Nat.le_refl _) (by simp), HEX.out.trans HE2.out hsz (by simp)⟩
        case measure => simp [intOf] <;> omega
    · obtain rfl : k = m := by omega
      go_wp2
      go_ret
      exact ⟨⟨ro, q, rc, acc, rfl, HAL.out, ⟨by rw [List.length_map, HAL.out, ← HN.out]; omega, HA.out.2.2.1⟩, own_src HO.out, fun y hy => (HA.out.2.2.2 y hy).mono fun b hb _ => hb.1⟩, HEW.out⟩
end Go.Proofs.YtaihmldiglgipaaGreat

namespace Go.Proofs.YtaihmldiglgipaaGreat
open Go.RowKit Go.Sort

theorem accKeepP {w w' : World} {ao ao' : Option Addr} {x : PrX} (h : LiesP (fun b => rowOf ao ≠ some b) w x) (hk : ∀ b, b < w.heap.size → rowOf ao ≠ some b → w'.heap[b]? = w.heap[b]?) (hr : rowOf ao' = rowOf ao ∨ rowOf ao' = some w.heap.size) : LiesP (fun b => rowOf ao' ≠ some b) w' x := by
  have h1 : LiesP (fun b => rowOf ao' ≠ some b ∧ rowOf ao ≠ some b) w x := h.mono fun b hb hlt => ⟨by
    rcases hr with e | e
    · rw [e]; exact hb
    · rw [e]; intro e2; have := Option.some.inj e2; omega, hb⟩
  have h2 := h1.keep (w' := w') fun b hb hlt => hk b hlt hb.2
  exact h2.mono fun b hb _ => hb.1
theorem FindR.le {l : List St} {k : Nat} {ps : List PrD} (h : FindR l k ps) (hk : k ≤ 63) (hl : l.length ≤ 100000) : ps.length ≤ 6300063 := by
  have h1 := h.len
  have h2 := Nat.mul_le_mul hk (show l.length + 1 ≤ 100001 by omega)
  omega
/-- What proof.Find answers, in memory. -/
def FindE (l : List St) (e : Ending) (w' : World) : Prop := ∃ (ro : Option Addr) (rc : Nat) (ps : List PrD), e = .returned (.slice ro ps.length rc) ∧ FindR l 64 ps ∧ SlAt prRep (fun _ => True) w' ro ps
set_option maxHeartbeats 16000000 in
set_option maxRecDepth 100000 in
theorem findV_any {P : Nat → Prop} (v : Value) (l : List St) (w : World) (hv : Sl stRep P w v l) (hm : l.length ≤ 100000) (hL : ∀ s ∈ l, LightS s) :
    Calls Tryz.prog 8 #[v] w fun e w' => FindE l e w' ∧ Ex w.heap.size none w w' := by
  obtain ⟨ao, cap, rfl, hx⟩ := hv
  have HX : Hid (∀ w', Ex w.heap.size none w w' → SlAt stRep (fun b => P b ∧ b < w.heap.size) w' ao l) := Lib.hid (fun w' h => (hx.mono (P' := fun b => P b ∧ b < w.heap.size) (by decide) fun b hb hlt => ⟨hb, hlt⟩).keep (by decide) fun b hb _ => h.block b hb.2 (by simp))
  have HLL : Hid ((∀ s ∈ l, LightS s) ∧ LightL 9223372036854775807 l) := Lib.hid ⟨hL, fun s hs => by have := hL s hs; exact ⟨by have := this.1; omega, by have := this.2; omega⟩⟩
  obtain ⟨n, hn⟩ : ∃ n, n = l.length := ⟨_, rfl⟩
  have HN := Lib.hid hn
  rw [← hn] at hm ⊢
  clear hn hx hL
  obtain ⟨zp, hz⟩ := Tryz.infoPrf
  have HZ := Lib.hid hz
  clear hz
  go_enter Tryz.func8, Tryz.ntmps8
  go_wp2
  go_loopw [3, 6] (fun v i wr => ∃ (k q : Nat) (ro : Option Addr) (rc : Nat) (acc : List PrX), k ≤ 64 ∧ i = .int .i64 k ∧ v = .slice ro q rc ∧ Hid (acc.length = q ∧ FindR l k (acc.map PrX.d) ∧ ∀ x ∈ acc, LiesP (fun b => rowOf ro ≠ some b) wr x) ∧ OwnE prE 27 37 wr w.heap.size ro rc acc ∧ Ex w.heap.size none w wr) (fun _ i _ => 64 - (intOf i).toNat)
  case atStart => exact ⟨0, 0, none, 0, [], by omega, rfl, rfl, Lib.hid ⟨rfl, .zero, by simp⟩, OwnE.nil _ _ _ _ _, Ex.refl _ _ _⟩
  case round =>
    obtain ⟨k, q, ro, rc, acc, hk, rfl, rfl, HA, hown, hex⟩ := hrel
    have hsz := hex.size
    have HEX := Lib.hid hex
    have HO := Lib.hid hown
    have HAL : Hid (acc.length = q) := Lib.hid HA.out.1
    have HRO : Hid (∀ b, rowOf ro = some b → w.heap.size ≤ b ∧ b < wr.heap.size) := Lib.hid (fun b e => by
      cases ro with
      | none => cases e
      | some ad => have h := hown.lt ad rfl; have e2 : ad.block = b := Option.some.inj e; omega)
    clear hown hex
    by_cases hlt : k < 64
    · have hltI : (k : Int) < 64 := by omega
      have hq : q ≤ 6300063 := by have h := HA.out.2.1.le (by omega) (by rw [← HN.out]; exact hm); rwa [List.length_map, HAL.out] at h
      go_upto_region 6 with (first
        | (go_at_call 25
           refine (own_any (P := fun b => P b ∧ b < w.heap.size) (.slice ao n cap) l ((k : Nat) : Int) wr ⟨ao, cap, by rw [HN.out], HX.out wr HEX.out⟩ (by rw [← HN.out]; exact hm) HLL.out.2).mono ?_
           rintro e w1 ⟨u, ls, rfl, hor, ⟨mo, mc, rfl, hms⟩, hle, hex1⟩
           have H1 : Hid (OwnR ((k : Nat) : Int) l ls ∧ SlAt stRep (fun b => ((P b ∧ b < w.heap.size) ∨ wr.heap.size ≤ b) ∧ b < w1.heap.size) w1 mo ls ∧ Ex wr.heap.size none wr w1) := Lib.hid ⟨hor, hms.mono (by decide) fun b hb hlt => ⟨hb, hlt⟩, hex1⟩
           have hz1 : wr.heap.size ≤ w1.heap.size := hex1.size
           clear hor hms hex1)
        | fail)
      obtain ⟨m, hmc⟩ : ∃ m, m = ls.length := ⟨_, rfl⟩
      have HM := Lib.hid hmc
      rw [← hmc] at hle ⊢
      rw [← HN.out] at hle
      clear hmc
      by_cases h2 : 1 < m
      · have h2I : (1 : Int) < (m : Int) := by omega
        have HLS : Hid ((∀ s ∈ ls, LightS s) ∧ ∀ s ∈ ls, s.author = ((k : Nat) : Int)) := Lib.hid ⟨fun s hs => HLL.out.1 s (H1.out.1.mem s hs), fun s hs => (okB_parts (H1.out.1.ok s hs)).1⟩
        have HP2 : Hid (∀ b, (((P b ∧ b < w.heap.size) ∨ wr.heap.size ≤ b) ∧ b < w1.heap.size) → rowOf ro ≠ some b) := Lib.hid (fun b hb e => by have := HRO.out b e; rcases hb.1 with h | h <;> omega)
        go_wp2_with (first
          | (go_at_call 26
             refine (forks_any (P := fun b => ((P b ∧ b < w.heap.size) ∨ wr.heap.size ≤ b) ∧ b < w1.heap.size) (.slice mo m mc) ls w1 ⟨mo, mc, by rw [HM.out], H1.out.2.1⟩ (by rw [← HM.out]; omega)).mono ?_
             rintro e w2 ⟨⟨fo, fm, fc, fs, rfl, hfl, hfr, hfs, hfL⟩, hex2⟩
             have H2 : Hid (fs.length = fm ∧ ForksR ls (fs.map PrX.d) ∧ SrcP w2 fo fs ∧ (∀ y ∈ fs, LiesP (fun b => ((P b ∧ b < w.heap.size) ∨ wr.heap.size ≤ b) ∧ b < w1.heap.size) w2 y) ∧ Ex w1.heap.size none w1 w2) := Lib.hid ⟨hfl, hfr, hfs, hfL, hex2⟩
             have hz2 : w1.heap.size ≤ w2.heap.size := hex2.size
             have hfm : fm ≤ 1 := by have := hfr.len; rwa [List.length_map, hfl] at this
             have HE2 : Hid (Ex wr.heap.size none wr w2) := Lib.hid (H1.out.2.2.trans hex2 hz1 (by simp))
             clear hfl hfr hfs hfL hex2)
          | (go_at_call 27
             refine (doubles_any (P := fun b => ((P b ∧ b < w.heap.size) ∨ wr.heap.size ≤ b) ∧ b < w1.heap.size) (.slice mo m mc) ls ((k : Nat) : Int) w3 ⟨mo, mc, by rw [HM.out], H3.out.2.2.2.1⟩ (by rw [← HM.out]; omega) HLS.out.1 HLS.out.2).mono ?_
             rintro e w4 ⟨⟨go, gm, gc, ds, rfl, hdl, hdr, hds, hdL⟩, hex4⟩
             have H4 : Hid (ds.length = gm ∧ DoublesR ls (ds.map PrX.d) ∧ SrcP w4 go ds ∧ (∀ y ∈ ds, LiesP (fun b => ((P b ∧ b < w.heap.size) ∨ wr.heap.size ≤ b) ∧ b < w1.heap.size) w4 y) ∧ Ex w3.heap.size none w3 w4) := Lib.hid ⟨hdl, hdr, hds, hdL, hex4⟩
             have hz4 : w3.heap.size ≤ w4.heap.size := hex4.size
             have hgm : gm ≤ m := by have := hdr.1; rwa [List.length_map, hdl, ← HM.out] at this
             clear hdl hdr hds hdL hex4)
          | (at_builtin
             refine wpList_appE2 rfl (.tmp 18) (.tmp 20) _ 37 (by rfl) Tryz.underlying27 zp 27 328 HZ.out.1 HZ.out.2 (by decide) (by decide) prE prE_len one_prE w.heap.size ro2 rc2 (q + fm) (acc ++ fs) (by rw [List.length_append, HAL.out, H2.out.1]) (by rfl) go gm gc (by rfl) ds H4.out.1 (H3.out.1.keep H4.out.2.2.2.2 (Nat.le_refl _) (by simp)) H4.out.2.2.1 (by omega) (by omega) (q + fm + gm) rfl ?_
             intro ro3 rc3 w5 hown5 hex5 hk5 hr5
             have H5 : Hid (OwnE prE 27 37 w5 w.heap.size ro3 rc3 (acc ++ fs ++ ds) ∧ Ex w.heap.size none w4 w5 ∧ ∀ x ∈ acc ++ fs ++ ds, LiesP (fun b => rowOf ro3 ≠ some b) w5 x) := Lib.hid ⟨hown5, hex5, fun x hx => by
               refine accKeepP (ao := ro2) (w := w4) ?_ hk5 hr5
               rcases List.mem_append.1 hx with h | h
               · exact (H3.out.2.2.1 x h).keep fun b _ hb => H4.out.2.2.2.2.block b hb (by simp)
               · exact (H4.out.2.2.2.1 x h).mono fun b hb _ => H3.out.2.2.2.2 b hb⟩
             clear hown5 hex5 hk5 hr5)
          | (at_builtin
             refine wpList_appE2 rfl (.tmp 15) (.tmp 17) _ 37 (by rfl) Tryz.underlying27 zp 27 328 HZ.out.1 HZ.out.2 (by decide) (by decide) prE prE_len one_prE w.heap.size ro rc q acc HAL.out (by rfl) fo fm fc (by rfl) fs H2.out.1 (HO.out.keep HE2.out (Nat.le_refl _) (by simp)) H2.out.2.2.1 (by omega) (by omega) (q + fm) rfl ?_
             intro ro2 rc2 w3 hown3 hex3 hk3 hr3
             have H3 : Hid (OwnE prE 27 37 w3 w.heap.size ro2 rc2 (acc ++ fs) ∧ Ex w.heap.size none w2 w3 ∧ (∀ x ∈ acc ++ fs, LiesP (fun b => rowOf ro2 ≠ some b) w3 x) ∧ SlAt stRep (fun b => ((P b ∧ b < w.heap.size) ∨ wr.heap.size ≤ b) ∧ b < w1.heap.size) w3 mo ls ∧ (∀ b, (((P b ∧ b < w.heap.size) ∨ wr.heap.size ≤ b) ∧ b < w1.heap.size) → rowOf ro2 ≠ some b)) := Lib.hid ⟨hown3, hex3, fun x hx => by
               refine accKeepP (ao := ro) (w := w2) ?_ hk3 hr3
               rcases List.mem_append.1 hx with h | h
               · exact (HA.out.2.2 x h).keep fun b _ hb => HE2.out.block b hb (by simp)
               · exact (H2.out.2.2.2.1 x h).mono fun b hb _ => HP2.out b hb, (H1.out.2.1.keep (by decide) fun b _ hb => H2.out.2.2.2.2.block b hb (by simp)).keep (by decide) fun b hb hlt => hk3 b hlt (HP2.out b hb), fun b hb => by
               rcases hr3 with e | e
               · rw [e]; exact HP2.out b hb
               · rw [e]; intro e2; have := Option.some.inj e2; omega⟩
             have hz3 : w2.heap.size ≤ w3.heap.size := hex3.size
             clear hown3 hex3 hk3 hr3)
          | fail)
        go_roundw
        case rel => exact ⟨k + 1, q + fm + gm, ro3, rc3, acc ++ fs ++ ds, by omega, by go_num, rfl, Lib.hid ⟨by rw [List.length_append, List.length_append, HAL.out, H2.out.1, H4.out.1], by rw [List.map_append, List.map_append]; exact .more HA.out.2.1 H1.out.1 H2.out.2.1 H4.out.2.1, H5.out.2.2⟩, H5.out.1, ((((HEX.out.trans HE2.out hsz (by simp)).thenBX H3.out.2.1).trans H4.out.2.2.2.2 (by omega) (by simp)).thenBX H5.out.2.1)⟩
        case measure => simp [intOf] <;> omega
      · have h2I : ¬ (1 : Int) < (m : Int) := by omega
        go_wp2
        go_roundw
        case rel => exact ⟨k + 1, q, ro, rc, acc, by omega, by go_num, rfl, Lib.hid ⟨HA.out.1, .few HA.out.2.1 H1.out.1 (by rw [← HM.out]; omega), fun x hx => (HA.out.2.2 x hx).keep fun b _ hb => H1.out.2.2.block b hb (by simp)⟩, HO.out.keep H1.out.2.2 (Nat.le_refl _) (by simp), HEX.out.trans H1.out.2.2 hsz (by simp)⟩
        case measure => simp [intOf] <;> omega
    · have hltI : ¬ (k : Int) < 64 := by omega
      have HK : Hid (k = 64) := Lib.hid (by omega)
      have HF : Hid (FindR l 64 (acc.map PrX.d)) := Lib.hid (by have := HA.out.2.1; rwa [HK.out] at this)
      go_wp2
      go_ret
      exact ⟨⟨ro, rc, acc.map PrX.d, by rw [List.length_map, HAL.out]; rfl, HF.out, own_pr HO.out (fun _ _ => trivial) fun x hx => (HA.out.2.2 x hx).mono fun _ _ _ => trivial⟩, HEX.out⟩
end Go.Proofs.YtaihmldiglgipaaGreat

namespace Go.Proofs.YtaihmldiglgipaaGreat
open Go.RowKit Go.Sort

/-- A fork, as proof.fork sees it. -/
def kindB1 (s t : St) : Bool := decide (s.number = t.number) && decide (strC (sha (stB s)) (sha (stB t)) < 0)
/-- Two votes, as proof.votes sees them. -/
def kindB2 (s t : St) : Bool := voteB s && (voteB t && (caseB t.a (t.b % 16) t.c (t.b / 16) s && decide (ordC s t < 0)))
theorem strC_lessD (a b : ByteArray) : Op.bytesLess a.toList b.toList = decide (strC a b < 0) := by
  unfold strC
  rw [compareB_eq, ByteArray.toList_eq, ByteArray.toList_eq]
  have h := ordB_less a.data.toList b.data.toList
  cases hb : Op.bytesLess a.data.toList b.data.toList with
  | true => exact (decide_eq_true (h.2 hb)).symm
  | false => exact (decide_eq_false (fun e => by have := h.1 e; rw [hb] at this; cases this)).symm
attribute [local go_sem ↓] rowLoad_stv rowStore_stv rowLoad_vo rowStore_vo
/-- Two boxes of statements. -/
def TwoSt (w ws : World) (x y : St × Sv × Sv) : Prop := Ex w.heap.size none w ws ∧ ws.heap.size = w.heap.size + 1 + 1 ∧ ws.heap[w.heap.size]? = some (.cells (stV x).cells 35 (0, 0)) ∧ ws.heap[w.heap.size + 1]? = some (.cells (stV y).cells 35 (0, 0))
theorem twoSt_of (w : World) (x y : St × Sv × Sv) : TwoSt w ((w.alloc (.cells (stV x).cells 35)).alloc (.cells (stV y).cells 35)) x y :=
  ⟨(Ex.new w _).alloc (by simp) _, by simp, heap_alloc2_old _ _ _, heap_alloc2_new _ _ _⟩
set_option maxHeartbeats 8000000 in
set_option maxRecDepth 100000 in
theorem forkV_any {P Q : Nat → Prop} (x y : St × Sv × Sv) (w : World) (hx : Lies P w x) (hy : Lies Q w y) (hm : Tame x.1) (hk : Tame y.1) :
    Calls Tryz.prog 32 #[stV x, stV y] w fun e w' => e = .returned (.bool (kindB1 x.1 y.1)) ∧ Ex w.heap.size none w w' := by
  have HM := Lib.hid (And.intro hm hk)
  obtain ⟨ws, hws⟩ : ∃ ws : World, ws = (w.alloc (.cells (stV x).cells 35)).alloc (.cells (stV y).cells 35) := ⟨_, rfl⟩
  have HT : Hid (TwoSt w ws x y) := Lib.hid (by rw [hws]; exact twoSt_of w x y)
  have hzs : ws.heap.size = w.heap.size + 1 + 1 := HT.out.2.1
  have HS : Hid (∀ w', Ex ws.heap.size none ws w' → w'.cell? ⟨w.heap.size, 1, none⟩ = some (.int .i64 x.1.number) ∧ w'.cell? ⟨w.heap.size + 1, 1, none⟩ = some (.int .i64 y.1.number) ∧ (rowLoad 35 ⟨w.heap.size, 0, none⟩).run Tryz.prog w' = .ok (stV x) w' ∧ (rowLoad 35 ⟨w.heap.size + 1, 0, none⟩).run Tryz.prog w' = .ok (stV y) w') := Lib.hid (fun w' h => by
    have b0 := h.at2 (Nat.le_refl _) HT.out.2.2.1
    have b1 := h.at2 (Nat.le_refl _) HT.out.2.2.2
    exact ⟨by rw [cell_of_row _ _ _ _ _ _ b0]; rfl, by rw [cell_of_row _ _ _ _ _ _ b1]; rfl, stV_box b0, stV_box b1⟩)
  have HL : Hid (∀ w', Ex ws.heap.size none ws w' → Lies P w' x ∧ Lies Q w' y) := Lib.hid (fun w' h => by
    have h2 : Ex w.heap.size none w w' := HT.out.1.trans h (by omega) (by simp)
    exact ⟨hx.keep fun b _ hb => h2.block b hb (by simp), hy.keep fun b _ hb => h2.block b hb (by simp)⟩)
  have n0 := stV_new w #[.int .i64 0, .int .i64 0, .string ⟨#[]⟩, .int .i64 0, .int .i64 0, .int .i64 0, .int .i64 0, .int .i64 0, .slice none 0 0, .slice none 0 0, .string ⟨#[]⟩, .int .i64 0, .string ⟨#[]⟩] x rfl
  have n1 := stV_new (w.alloc (.cells (stV x).cells 35)) #[.int .i64 0, .int .i64 0, .string ⟨#[]⟩, .int .i64 0, .int .i64 0, .int .i64 0, .int .i64 0, .int .i64 0, .slice none 0 0, .slice none 0 0, .string ⟨#[]⟩, .int .i64 0, .string ⟨#[]⟩] y rfl
  clear hx hy hm hk
  obtain ⟨dx, hdx⟩ : ∃ dx, dx = sha (stB x.1) := ⟨_, rfl⟩
  obtain ⟨dy, hdy⟩ : ∃ dy, dy = sha (stB y.1) := ⟨_, rfl⟩
  have HD : Hid (sha (stB x.1) = dx ∧ sha (stB y.1) = dy) := Lib.hid ⟨hdx.symm, hdy.symm⟩
  obtain ⟨lb, hlb⟩ : ∃ lb, lb = Op.bytesLess dx.toList dy.toList := ⟨_, rfl⟩
  have HB : Hid (decide (strC dx dy < 0) = lb) := Lib.hid (by rw [hlb]; exact (strC_lessD dx dy).symm)
  have hbl : Op.bytesLess dx.toList dy.toList = lb := hlb.symm
  clear hdx hdy hlb
  have HK : Hid (kindB1 x.1 y.1 = (decide (x.1.number = y.1.number) && lb)) := Lib.hid (by unfold kindB1; rw [HD.out.1, HD.out.2, HB.out])
  go_enter Tryz.func32, Tryz.ntmps32
  go_upto_region 1 with (fail)
  refine wp_world (fun W => W = ws) (by rw [hws]; rfl) (fun W hW => ?_)
  rw [hW]
  clear hW W hws n0 n1
  by_cases te : x.1.number = y.1.number
  · have k1 : (x.1.number == y.1.number) = true := by simpa using te
    have HK2 : Hid (kindB1 x.1 y.1 = lb) := Lib.hid (by rw [HK.out, decide_eq_true te]; rfl)
    clear te
    obtain ⟨c0, c1, r0, r1⟩ := HS.out _ (Ex.refl _ _ ws)
    go_region_held3 (fun w' => w'.cell? ⟨w.heap.size, 1, none⟩ = some (.int .i64 x.1.number) ∧ w'.cell? ⟨w.heap.size + 1, 1, none⟩ = some (.int .i64 y.1.number) ∧ (rowLoad 35 ⟨w.heap.size, 0, none⟩).run Tryz.prog w' = .ok (stV x) w' ∧ (rowLoad 35 ⟨w.heap.size + 1, 0, none⟩).run Tryz.prog w' = .ok (stV y) w') (exact HS.out _ (by repeat (first | with_reducible exact HE2.out | with_reducible exact HE1.out | with_reducible exact Ex.refl _ _ _ | with_reducible refine Ex.drew ?_)))
      (first
        | (go_at_call 64
           fail_if_success (have _x := HE1)
           refine (digest_v (P := P) x _ (HL.out _ (by repeat (first | with_reducible exact Ex.refl _ _ _ | with_reducible refine Ex.drew ?_))).1 HM.out.1).mono ?_
           rw [HD.out.1]
           rintro e w1 ⟨rfl, hex⟩
           have HE1 : Hid (Ex ws.heap.size none ws w1) := Lib.hid (Ex.thenW (by repeat (first | with_reducible exact Ex.refl _ _ _ | with_reducible refine Ex.drew ?_)) hex)
           clear hex)
        | (go_at_call 64
           refine (digest_v (P := Q) y _ (HL.out _ (by repeat (first | with_reducible exact HE1.out | with_reducible refine Ex.drew ?_))).2 HM.out.2).mono ?_
           rw [HD.out.2]
           rintro e w2 ⟨rfl, hex⟩
           have HE2 : Hid (Ex ws.heap.size none ws w2) := Lib.hid (Ex.thenW (by repeat (first | with_reducible exact HE1.out | with_reducible refine Ex.drew ?_)) hex)
           clear hex)
        | fail)
    all_goals go_wp2
    all_goals go_ret
    all_goals exact ⟨by rw [HK2.out]; rfl, HT.out.1.trans (by repeat (first | with_reducible exact HE2.out | with_reducible refine Ex.drew ?_) : Ex ws.heap.size none ws _) (by omega) (by simp)⟩
  · have k1 : (x.1.number == y.1.number) = false := by simpa using te
    have HK2 : Hid (kindB1 x.1 y.1 = false) := Lib.hid (by rw [HK.out, decide_eq_false te]; rfl)
    clear te
    obtain ⟨c0, c1, r0, r1⟩ := HS.out _ (Ex.refl _ _ ws).drew
    go_region_with (fail)
    all_goals go_wp2
    all_goals go_ret
    all_goals exact ⟨by rw [HK2.out]; rfl, HT.out.1.trans (by repeat (first | with_reducible exact Ex.refl _ _ _ | with_reducible refine Ex.drew ?_) : Ex ws.heap.size none ws _) (by omega) (by simp)⟩
end Go.Proofs.YtaihmldiglgipaaGreat

namespace Go.Proofs.YtaihmldiglgipaaGreat
open Go.RowKit Go.Sort
attribute [local go_sem ↓] rowLoad_stv rowStore_stv rowLoad_vo rowStore_vo

set_option maxHeartbeats 16000000 in
set_option maxRecDepth 100000 in
theorem votesX_any {P Q : Nat → Prop} (x y : St × Sv × Sv) (w : World) (hx : Lies P w x) (hy : Lies Q w y) (hm : LightS x.1) (hk : LightS y.1) :
    Calls Tryz.prog 33 #[stV x, stV y] w fun e w' => e = .returned (.bool (kindB2 x.1 y.1)) ∧ Ex w.heap.size none w w' := by
  have HM := Lib.hid (And.intro hm hk)
  obtain ⟨ws, hws⟩ : ∃ ws : World, ws = (w.alloc (.cells (stV x).cells 35)).alloc (.cells (stV y).cells 35) := ⟨_, rfl⟩
  have HT : Hid (TwoSt w ws x y) := Lib.hid (by rw [hws]; exact twoSt_of w x y)
  have hzs : ws.heap.size = w.heap.size + 1 + 1 := HT.out.2.1
  have HS : Hid (∀ w', Ex ws.heap.size none ws w' → (rowLoad 35 ⟨w.heap.size, 0, none⟩).run Tryz.prog w' = .ok (stV x) w' ∧ (rowLoad 35 ⟨w.heap.size + 1, 0, none⟩).run Tryz.prog w' = .ok (stV y) w') := Lib.hid (fun w' h => by
    have b0 := h.at2 (Nat.le_refl _) HT.out.2.2.1
    have b1 := h.at2 (Nat.le_refl _) HT.out.2.2.2
    exact ⟨stV_box b0, stV_box b1⟩)
  have HL : Hid (∀ w', Ex ws.heap.size none ws w' → Lies P w' x ∧ Lies Q w' y) := Lib.hid (fun w' h => by
    have h2 : Ex w.heap.size none w w' := HT.out.1.trans h (by omega) (by simp)
    exact ⟨hx.keep fun b _ hb => h2.block b hb (by simp), hy.keep fun b _ hb => h2.block b hb (by simp)⟩)
  have n0 := stV_new w #[.int .i64 0, .int .i64 0, .string ⟨#[]⟩, .int .i64 0, .int .i64 0, .int .i64 0, .int .i64 0, .int .i64 0, .slice none 0 0, .slice none 0 0, .string ⟨#[]⟩, .int .i64 0, .string ⟨#[]⟩] x rfl
  have n1 := stV_new (w.alloc (.cells (stV x).cells 35)) #[.int .i64 0, .int .i64 0, .string ⟨#[]⟩, .int .i64 0, .int .i64 0, .int .i64 0, .int .i64 0, .int .i64 0, .slice none 0 0, .slice none 0 0, .string ⟨#[]⟩, .int .i64 0, .string ⟨#[]⟩] y rfl
  clear hx hy hm hk
  obtain ⟨va, hva⟩ : ∃ va, va = voteB x.1 := ⟨_, rfl⟩
  obtain ⟨vb, hvb⟩ : ∃ vb, vb = voteB y.1 := ⟨_, rfl⟩
  have HVA : Hid (voteB x.1 = va) := Lib.hid hva.symm
  have HVB : Hid (voteB y.1 = vb) := Lib.hid hvb.symm
  clear hva hvb
  go_enter Tryz.func33, Tryz.ntmps33
  go_upto_region 1 with (fail)
  refine wp_world (fun W => W = ws) (by rw [hws]; rfl) (fun W hW => ?_)
  rw [hW]
  clear hW W hws n0 n1
  obtain ⟨r0, r1⟩ := HS.out _ (Ex.refl _ _ ws)
  go_upto_region 2 with (first
    | (go_at_call 65
       refine (ofV_any (P := P) x ws (HL.out ws (Ex.refl _ _ _)).1 HM.out.1).mono ?_
       rintro e w1 ⟨hof, hex⟩
       obtain ⟨x', q, rfl, hor, hly⟩ := hof.parts
       have HOX : Hid ((voteB x.1 = true ∧ q = 0 ∧ x'.1 = x.1) ∨ (voteB x.1 = false ∧ q ≠ 0 ∧ x' = zeroVo)) := Lib.hid hor
       have HLX : Hid (Lies (fun k => ws.heap.size ≤ k) w1 x') := Lib.hid hly
       have HE1 : Hid (Ex ws.heap.size none ws w1) := Lib.hid hex
       clear hof hor hly hex r0 r1
       have hn1 : (rowStore 100 ⟨w1.heap.size, 0, none⟩ (voV x')).run Tryz.prog (w1.alloc (.cells #[.int .i64 0, .int .i64 0, .int .i64 0, .int .i64 0, .int .i64 0, .slice none 0 0, .slice none 0 0] 100)) = .ok () (w1.alloc (.cells (voE x').toArray 100)) := vo_new w1 _ rfl (voE x').toArray rfl (voV_one x'))
    | fail)
  refine wp_world (fun W => W = w1.alloc (.cells (voE x').toArray 100)) rfl (fun W hW => ?_)
  obtain ⟨w2, hw2⟩ : ∃ w2 : World, w2 = W := ⟨_, rfl⟩
  rw [← hw2] at hW ⊢
  clear hw2 W hn1
  have HE2 : Hid (Ex ws.heap.size none ws w2) := Lib.hid (by rw [hW]; exact HE1.out.allocX _)
  have HL2 : Hid (Lies (fun k => ws.heap.size ≤ k) w2 x') := Lib.hid (HLX.out.keep fun b _ hb => by rw [hW]; exact at_oldX _ _ _ hb)
  have HBX : Hid (w2.heap[w1.heap.size]? = some (.cells (voE x').toArray 100 (0, 0))) := Lib.hid (by rw [hW]; exact heap_alloc_new _ _)
  have hz2 : w2.heap.size = w1.heap.size + 1 := by rw [hW]; simp
  have hz1 : ws.heap.size ≤ w1.heap.size := HE1.out.size
  clear hW
  obtain ⟨r0, r1⟩ := HS.out _ HE2.out
  go_upto_region 3 with (first
    | (go_at_call 65
       refine (ofV_any (P := Q) y w2 (HL.out w2 HE2.out).2 HM.out.2).mono ?_
       rintro e w3 ⟨hof, hex⟩
       obtain ⟨y', r, rfl, hor, hly⟩ := hof.parts
       have HOY : Hid ((voteB y.1 = true ∧ r = 0 ∧ y'.1 = y.1) ∨ (voteB y.1 = false ∧ r ≠ 0 ∧ y' = zeroVo)) := Lib.hid hor
       have HLY : Hid (Lies (fun k => w2.heap.size ≤ k) w3 y') := Lib.hid hly
       have HE3 : Hid (Ex w2.heap.size none w2 w3) := Lib.hid hex
       clear hof hor hly hex r0 r1
       have hn1 : (rowStore 100 ⟨w3.heap.size, 0, none⟩ (voV y')).run Tryz.prog (w3.alloc (.cells #[.int .i64 0, .int .i64 0, .int .i64 0, .int .i64 0, .int .i64 0, .slice none 0 0, .slice none 0 0] 100)) = .ok () (w3.alloc (.cells (voE y').toArray 100)) := vo_new w3 _ rfl (voE y').toArray rfl (voV_one y'))
    | fail)
  refine wp_world (fun W => W = w3.alloc (.cells (voE y').toArray 100)) rfl (fun W hW => ?_)
  obtain ⟨w4, hw4⟩ : ∃ w4 : World, w4 = W := ⟨_, rfl⟩
  rw [← hw4] at hW ⊢
  clear hw4 W hn1
  have HE4 : Hid (Ex w2.heap.size none w2 w4) := Lib.hid (by rw [hW]; exact HE3.out.allocX _)
  have HL4 : Hid (Lies (fun k => w2.heap.size ≤ k) w4 y') := Lib.hid (HLY.out.keep fun b _ hb => by rw [hW]; exact at_oldX _ _ _ hb)
  have HBY : Hid (w4.heap[w3.heap.size]? = some (.cells (voE y').toArray 100 (0, 0))) := Lib.hid (by rw [hW]; exact heap_alloc_new _ _)
  have hz3 : w2.heap.size ≤ w3.heap.size := HE3.out.size
  have HEE : Hid (Ex w.heap.size none w w4) := Lib.hid (HT.out.1.trans (HE2.out.trans HE4.out HE2.out.size (by simp)) (by omega) (by simp))
  clear hW
  cases va with
  | false =>
    obtain ⟨hv, hq, hy'⟩ := HOX.out.resolve_left (fun h => by rw [HVA.out] at h; cases h.1)
    have kq : (q == 0) = false := by simpa using hq
    clear hv hq hy'
    go_wp2
    go_ret
    exact ⟨by unfold kindB2; rw [HVA.out]; rfl, HEE.out⟩
  | true =>
    obtain ⟨hv, hq, hx'⟩ := HOX.out.resolve_right (fun h => by rw [HVA.out] at h; cases h.1)
    subst hq
    have HX' := Lib.hid hx'
    clear hv hx'
    cases vb with
    | false =>
      obtain ⟨hv, hq, hy'⟩ := HOY.out.resolve_left (fun h => by rw [HVB.out] at h; cases h.1)
      have kq : (r == 0) = false := by simpa using hq
      clear hv hq hy'
      go_wp2
      go_ret
      exact ⟨by unfold kindB2; rw [HVA.out, HVB.out]; rfl, HEE.out⟩
    | true =>
      obtain ⟨hv, hq, hy'⟩ := HOY.out.resolve_right (fun h => by rw [HVB.out] at h; cases h.1)
      subst hq
      have HY' := Lib.hid hy'
      clear hv hy'
      obtain ⟨m1, m2, m3, m4, m5, m6⟩ := vo_cells (HE4.out.at2 (Nat.le_refl _) HBX.out)
      obtain ⟨d1, d2, d3, d4, d5, d6⟩ := vo_cells HBY.out
      rw [HX'.out] at m1 m2 m3 m4
      rw [HY'.out] at d1 d2 d3 d4
      obtain ⟨z, hz⟩ : ∃ z, z = ordC x.1 y.1 := ⟨_, rfl⟩
      have HO : Hid (Calls Tryz.prog 66 #[.agg #[x'.2.1.v, x'.2.2.v], .agg #[y'.2.1.v, y'.2.2.v]] w4 fun e w'' => e = .returned (.int .i64 z) ∧ Gr w4 w'') := Lib.hid (by
        rw [hz, ← HX'.out, ← HY'.out]
        exact orderV_any x' y' w4 (HL2.out.keep fun b _ hb => HE4.out.block b hb (by simp)) HL4.out (by rw [HX'.out]; exact HM.out.1) (by rw [HY'.out]; exact HM.out.2))
      have HF : Hid (kindB2 x.1 y.1 = (caseB y.1.a (y.1.b % 16) y.1.c (y.1.b / 16) x.1 && decide (z < 0))) := Lib.hid (by unfold kindB2; rw [HVA.out, HVB.out, hz]; rfl)
      clear hz
      go_wp2_with (first
        | (go_at_call 66
           refine HO.out.mono ?_
           rintro e w5 ⟨rfl, hg⟩
           have HG5 := Lib.hid hg
           clear hg)
        | fail)
      all_goals go_ret
      all_goals first
        | exact ⟨by rw [HF.out, show caseB y.1.a (y.1.b % 16) y.1.c (y.1.b / 16) x.1 = true from by unfold caseB; simp [*]]; rfl, HEE.out.trans HG5.out.ex HEE.out.size (by simp)⟩
        | exact ⟨by rw [HF.out, show caseB y.1.a (y.1.b % 16) y.1.c (y.1.b / 16) x.1 = false from by unfold caseB; simp [*]]; rfl, HEE.out⟩
end Go.Proofs.YtaihmldiglgipaaGreat

namespace Go.Proofs.YtaihmldiglgipaaGreat
open Go.RowKit Go.Sort
attribute [local go_sem ↓] rowLoad_stv rowStore_stv rowLoad_prf rowStore_prf

/-- What proof.Check answers of a proof of kind 1, 2 or 3 by two right statements of one author. -/
def chkX (p : PrD) : Int := if sealedB p.2.1 && sealedB p.2.2 then (if (decide (p.1 = 1) && kindB1 p.2.1 p.2.2) || (decide (p.1 = 2) && kindB2 p.2.1 p.2.2) then 0 else 48) else 6
/-- What holds of a proof's block. -/
def BoxPr (g : Nat) (x : PrX) (w' : World) : Prop := (rowLoad 35 ⟨g, 1, none⟩).run Tryz.prog w' = .ok (stV x.2.1) w' ∧ (rowLoad 35 ⟨g, 14, none⟩).run Tryz.prog w' = .ok (stV x.2.2) w' ∧ w'.cell? ⟨g, 0, none⟩ = some (.int .i64 x.1) ∧ w'.cell? ⟨g, 1, none⟩ = some (.int .i64 x.2.1.1.author) ∧ w'.cell? ⟨g, 14, none⟩ = some (.int .i64 x.2.2.1.author)
theorem boxPr_of {g : Nat} {x : PrX} {w' : World} (h : w'.heap[g]? = some (.cells (prE x).toArray 37 (0, 0))) : BoxPr g x w' := ⟨prV_first h, prV_second h, by rw [prV_cell h]; rfl, by rw [prV_cell h]; rfl, by rw [prV_cell h]; rfl⟩
set_option maxHeartbeats 16000000 in
set_option maxRecDepth 100000 in
theorem checkX_any {P : Nat → Prop} (x : PrX) (kn : Nat) (w : World) (hx : LiesP P w x) (hm : LightS x.2.1.1) (hk : LightS x.2.2.1) (h1 : checkI x.2.1.1 = 0) (h2 : checkI x.2.2.1 = 0) (ha : x.2.1.1.author = x.2.2.1.author) (hkn : x.1 = (kn : Nat)) (hkr : kn = 1 ∨ kn = 2 ∨ kn = 3) :
    Calls Tryz.prog 10 #[prV x] w fun e w' => e = .returned (.int .i64 (chkX x.d)) ∧ Ex w.heap.size none w w' := by
  obtain ⟨ws, hws⟩ : ∃ ws : World, ws = w.alloc (.cells (prE x).toArray 37) := ⟨_, rfl⟩
  have HEs : Hid (Ex w.heap.size none w ws) := Lib.hid (by rw [hws]; exact Ex.new w _)
  have hzs : ws.heap.size = w.heap.size + 1 := by rw [hws]; simp
  have HB : Hid (∀ w', Ex ws.heap.size none ws w' → BoxPr w.heap.size x w') := Lib.hid (fun w' h => boxPr_of (h.at2 (Nat.le_refl _) (by rw [hws]; exact heap_alloc_new w _)))
  have HL : Hid (∀ w', Ex ws.heap.size none ws w' → Lies P w' x.2.1 ∧ Lies P w' x.2.2) := Lib.hid (fun w' h => by
    have h2 : Ex w.heap.size none w w' := HEs.out.trans h (by omega) (by simp)
    exact ⟨hx.1.keep fun b _ hb => h2.block b hb (by simp), hx.2.keep fun b _ hb => h2.block b hb (by simp)⟩)
  have HM : Hid ((LightS x.2.1.1 ∧ LightS x.2.2.1) ∧ checkI x.2.1.1 = 0 ∧ checkI x.2.2.1 = 0) := Lib.hid ⟨⟨hm, hk⟩, h1, h2⟩
  have HTM : Hid (Tame x.2.1.1 ∧ Tame x.2.2.1) := Lib.hid ⟨checkI_tame h1, checkI_tame h2⟩
  have HLT : Hid ((x.2.1.1.list.length ≤ 9223372036854775807 ∧ x.2.1.1.pins.length ≤ 9223372036854775807) ∧ (x.2.2.1.list.length ≤ 9223372036854775807 ∧ x.2.2.1.pins.length ≤ 9223372036854775807)) := Lib.hid (by
    have a1 := hm.1; have a2 := hm.2; have a3 := hk.1; have a4 := hk.2
    exact ⟨⟨by omega, by omega⟩, ⟨by omega, by omega⟩⟩)
  have n0 := prV_new w #[.int .i64 0, .int .i64 0, .int .i64 0, .string ⟨#[]⟩, .int .i64 0, .int .i64 0, .int .i64 0, .int .i64 0, .int .i64 0, .slice none 0 0, .slice none 0 0, .string ⟨#[]⟩, .int .i64 0, .string ⟨#[]⟩, .int .i64 0, .int .i64 0, .string ⟨#[]⟩, .int .i64 0, .int .i64 0, .int .i64 0, .int .i64 0, .int .i64 0, .slice none 0 0, .slice none 0 0, .string ⟨#[]⟩, .int .i64 0, .string ⟨#[]⟩] x rfl
  obtain ⟨sa, hsa⟩ : ∃ sa, sa = sealedB x.2.1.1 := ⟨_, rfl⟩
  obtain ⟨sb, hsb⟩ : ∃ sb, sb = sealedB x.2.2.1 := ⟨_, rfl⟩
  have HSA : Hid (sealedB x.2.1.1 = sa) := Lib.hid hsa.symm
  have HSB : Hid (sealedB x.2.2.1 = sb) := Lib.hid hsb.symm
  have HKN := Lib.hid hkn
  have HAU := Lib.hid ha
  have kau : (x.2.1.1.author == x.2.2.1.author) = true := by simpa using ha
  have kne : (x.2.1.1.author != x.2.2.1.author) = false := by simpa using ha
  clear hx hm hk h1 h2 hsa hsb ha hkn
  go_enter Tryz.func10, Tryz.ntmps10
  go_upto_region 1 with (fail)
  refine wp_world (fun W => W = ws) (by rw [hws]; rfl) (fun W hW => ?_)
  rw [hW]
  clear hW W hws n0
  obtain ⟨r0, r1, c0, c1, c2⟩ := HB.out _ (Ex.refl _ _ ws)
  go_upto_region 4 with (first
    | (go_at_call 29
       refine (check_v (P := P) x.2.1 ws (HL.out ws (Ex.refl _ _ _)).1 HLT.out.1).mono ?_
       rw [HM.out.2.1]
       rintro e w1 ⟨rfl, hex⟩
       have HE1 : Hid (Ex ws.heap.size none ws w1) := Lib.hid hex
       clear hex r0 r1 c0 c1 c2)
    | fail)
  obtain ⟨r0, r1, c0, c1, c2⟩ := HB.out _ HE1.out
  go_upto_region 7 with (first
    | (go_at_call 29
       refine (check_v (P := P) x.2.2 w1 (HL.out w1 HE1.out).2 HLT.out.2).mono ?_
       rw [HM.out.2.2]
       rintro e w2 ⟨rfl, hex⟩
       have HE2 : Hid (Ex ws.heap.size none ws w2) := Lib.hid (HE1.out.thenW hex)
       clear hex r0 r1 c0 c1 c2)
    | fail)
  obtain ⟨r0, r1, c0, c1, c2⟩ := HB.out _ HE2.out
  cases sa with
  | false =>
    go_wp2_with (first
      | (go_at_call 30
         refine (sealed_v (P := P) x.2.1 w2 (HL.out w2 HE2.out).1 HTM.out.1).mono ?_
         rw [HSA.out]
         rintro e w3 ⟨rfl, hex⟩
         have HE3 : Hid (Ex ws.heap.size none ws w3) := Lib.hid (HE2.out.thenW hex)
         clear hex r0 r1 c0 c1 c2)
      | fail)
    go_ret
    exact ⟨by show _ = Ending.returned (.int .i64 (chkX (x.1, x.2.1.1, x.2.2.1))); unfold chkX; simp only [HSA.out]; rfl, HEs.out.trans HE3.out (by omega) (by simp)⟩
  | true =>
    cases sb with
    | false =>
      go_wp2_with (first
          | (go_at_call 30
             fail_if_success (have _x := HE3)
             refine (sealed_v (P := P) x.2.1 w2 (HL.out w2 HE2.out).1 HTM.out.1).mono ?_
             rw [HSA.out]
             rintro e w3 ⟨rfl, hex⟩
             have HE3 : Hid (Ex ws.heap.size none ws w3) := Lib.hid (HE2.out.thenW hex)
             clear hex r0 r1 c0 c1 c2
             obtain ⟨r0, r1, c0, c1, c2⟩ := HB.out _ HE3.out)
          | (go_at_call 30
             refine (sealed_v (P := P) x.2.2 w3 (HL.out w3 HE3.out).2 HTM.out.2).mono ?_
             rw [HSB.out]
             rintro e w4 ⟨rfl, hex⟩
             have HE4 : Hid (Ex ws.heap.size none ws w4) := Lib.hid (HE3.out.thenW hex)
             clear hex r0 r1 c0 c1 c2)
          | fail)
      go_ret
      exact ⟨by show _ = Ending.returned (.int .i64 (chkX (x.1, x.2.1.1, x.2.2.1))); unfold chkX; simp only [HSA.out, HSB.out]; rfl, HEs.out.trans HE4.out (by omega) (by simp)⟩
    | true =>
      go_upto_region 10 with (first
          | (go_at_call 30
             fail_if_success (have _x := HE3)
             refine (sealed_v (P := P) x.2.1 w2 (HL.out w2 HE2.out).1 HTM.out.1).mono ?_
             rw [HSA.out]
             rintro e w3 ⟨rfl, hex⟩
             have HE3 : Hid (Ex ws.heap.size none ws w3) := Lib.hid (HE2.out.thenW hex)
             clear hex r0 r1 c0 c1 c2
             obtain ⟨r0, r1, c0, c1, c2⟩ := HB.out _ HE3.out)
          | (go_at_call 30
             refine (sealed_v (P := P) x.2.2 w3 (HL.out w3 HE3.out).2 HTM.out.2).mono ?_
             rw [HSB.out]
             rintro e w4 ⟨rfl, hex⟩
             have HE4 : Hid (Ex ws.heap.size none ws w4) := Lib.hid (HE3.out.thenW hex)
             clear hex r0 r1 c0 c1 c2)
          | fail)
      obtain ⟨w5, hw5⟩ : ∃ w5 : World, w5 = w4.alloc (.cells #[.func (.func 31) #[] #[], .func (.func 32) #[] #[], .func (.func 33) #[] #[]] 72) := ⟨_, rfl⟩
      have HA5 : Hid (w5.heap[w4.heap.size]? = some (.cells #[.func (.func 31) #[] #[], .func (.func 32) #[] #[], .func (.func 33) #[] #[]] 72 (0, 0))) := Lib.hid (by rw [hw5]; exact heap_alloc_new _ _)
      have HE5 : Hid (Ex ws.heap.size none ws w5) := Lib.hid (by rw [hw5]; exact HE4.out.allocX _)
      refine wp_world (fun W => W = w5) (by rw [hw5]) (fun W hW => ?_)
      rw [hW]
      clear hW W hw5
      rcases hkr with rfl | rfl | rfl
      · have HQ : Hid (∀ w', Ex w5.heap.size none w5 w' → (rowLoad 35 ⟨w.heap.size, 1, none⟩).run Tryz.prog w' = .ok (stV x.2.1) w' ∧ (rowLoad 35 ⟨w.heap.size, 14, none⟩).run Tryz.prog w' = .ok (stV x.2.2) w' ∧ w'.cell? ⟨w.heap.size, 0, none⟩ = some (.int .i64 1) ∧ w'.cell? ⟨w.heap.size, 1, none⟩ = some (.int .i64 x.2.1.1.author) ∧ w'.cell? ⟨w.heap.size, 14, none⟩ = some (.int .i64 x.2.2.1.author) ∧ w'.cell? ⟨w4.heap.size, 1, none⟩ = some (.func (.func 32) #[] #[])) := Lib.hid (fun w' h => by
          obtain ⟨b0, b1, b2, b3, b4⟩ := HB.out w' (HE5.out.thenW h)
          rw [HKN.out] at b2
          exact ⟨b0, b1, b2, b3, b4, by rw [cell_of_row _ _ _ _ _ _ (h.at2 (Nat.le_refl _) HA5.out)]; rfl⟩)
        obtain ⟨kb, hkb⟩ : ∃ kb, kb = kindB1 x.2.1.1 x.2.2.1 := ⟨_, rfl⟩
        have HKB : Hid (kindB1 x.2.1.1 x.2.2.1 = kb) := Lib.hid hkb.symm
        have HCX : Hid (chkX x.d = if kb then 0 else 48) := Lib.hid (by
          show chkX (x.1, x.2.1.1, x.2.2.1) = _
          unfold chkX
          simp only [HSA.out, HSB.out, HKN.out, HKB.out]
          cases kb <;> rfl)
        clear hkb

        cases kb with
        | false =>
          obtain ⟨r0, r1, c0, c1, c2, c3⟩ := HQ.out _ (Ex.refl _ _ w5)
          go_region_held3 (fun w' => (rowLoad 35 ⟨w.heap.size, 1, none⟩).run Tryz.prog w' = .ok (stV x.2.1) w' ∧ (rowLoad 35 ⟨w.heap.size, 14, none⟩).run Tryz.prog w' = .ok (stV x.2.2) w' ∧ w'.cell? ⟨w.heap.size, 0, none⟩ = some (.int .i64 1) ∧ w'.cell? ⟨w.heap.size, 1, none⟩ = some (.int .i64 x.2.1.1.author) ∧ w'.cell? ⟨w.heap.size, 14, none⟩ = some (.int .i64 x.2.2.1.author) ∧ w'.cell? ⟨w4.heap.size, 1, none⟩ = some (.func (.func 32) #[] #[])) (exact HQ.out _ (by repeat (first | with_reducible exact HE6.out | with_reducible exact Ex.refl _ _ _ | with_reducible refine Ex.drew ?_)))
            (first
              | ((first | go_at_call 32 | go_at_fn 32)
                 refine (forkV_any (P := P) (Q := P) x.2.1 x.2.2 _ (HL.out _ (HE5.out.thenW (by repeat (first | with_reducible exact Ex.refl _ _ _ | with_reducible refine Ex.drew ?_)))).1 (HL.out _ (HE5.out.thenW (by repeat (first | with_reducible exact Ex.refl _ _ _ | with_reducible refine Ex.drew ?_)))).2 HTM.out.1 HTM.out.2).mono ?_
                 rw [HKB.out]
                 rintro e w6 ⟨rfl, hex⟩
                 have HE6 : Hid (Ex w5.heap.size none w5 w6) := Lib.hid (Ex.thenW (by repeat (first | with_reducible exact Ex.refl _ _ _ | with_reducible refine Ex.drew ?_)) hex)
                 clear hex)
              | fail)
          all_goals go_wp2
          all_goals go_ret
          all_goals exact ⟨by rw [HCX.out]; rfl, HEs.out.trans (HE5.out.thenW (by repeat (first | with_reducible exact HE6.out | with_reducible exact Ex.refl _ _ _ | with_reducible refine Ex.drew ?_))) (by omega) (by simp)⟩
        | true =>
          obtain ⟨r0, r1, c0, c1, c2, c3⟩ := HQ.out _ (Ex.refl _ _ w5)
          go_region_held3 (fun w' => (rowLoad 35 ⟨w.heap.size, 1, none⟩).run Tryz.prog w' = .ok (stV x.2.1) w' ∧ (rowLoad 35 ⟨w.heap.size, 14, none⟩).run Tryz.prog w' = .ok (stV x.2.2) w' ∧ w'.cell? ⟨w.heap.size, 0, none⟩ = some (.int .i64 1) ∧ w'.cell? ⟨w.heap.size, 1, none⟩ = some (.int .i64 x.2.1.1.author) ∧ w'.cell? ⟨w.heap.size, 14, none⟩ = some (.int .i64 x.2.2.1.author) ∧ w'.cell? ⟨w4.heap.size, 1, none⟩ = some (.func (.func 32) #[] #[])) (exact HQ.out _ (by repeat (first | with_reducible exact HE6.out | with_reducible exact Ex.refl _ _ _ | with_reducible refine Ex.drew ?_)))
            (first
              | ((first | go_at_call 32 | go_at_fn 32)
                 refine (forkV_any (P := P) (Q := P) x.2.1 x.2.2 _ (HL.out _ (HE5.out.thenW (by repeat (first | with_reducible exact Ex.refl _ _ _ | with_reducible refine Ex.drew ?_)))).1 (HL.out _ (HE5.out.thenW (by repeat (first | with_reducible exact Ex.refl _ _ _ | with_reducible refine Ex.drew ?_)))).2 HTM.out.1 HTM.out.2).mono ?_
                 rw [HKB.out]
                 rintro e w6 ⟨rfl, hex⟩
                 have HE6 : Hid (Ex w5.heap.size none w5 w6) := Lib.hid (Ex.thenW (by repeat (first | with_reducible exact Ex.refl _ _ _ | with_reducible refine Ex.drew ?_)) hex)
                 clear hex)
              | fail)
          all_goals go_wp2
          all_goals go_ret
          all_goals exact ⟨by rw [HCX.out]; rfl, HEs.out.trans (HE5.out.thenW (by repeat (first | with_reducible exact HE6.out | with_reducible exact Ex.refl _ _ _ | with_reducible refine Ex.drew ?_))) (by omega) (by simp)⟩
      · have HQ : Hid (∀ w', Ex w5.heap.size none w5 w' → (rowLoad 35 ⟨w.heap.size, 1, none⟩).run Tryz.prog w' = .ok (stV x.2.1) w' ∧ (rowLoad 35 ⟨w.heap.size, 14, none⟩).run Tryz.prog w' = .ok (stV x.2.2) w' ∧ w'.cell? ⟨w.heap.size, 0, none⟩ = some (.int .i64 2) ∧ w'.cell? ⟨w.heap.size, 1, none⟩ = some (.int .i64 x.2.1.1.author) ∧ w'.cell? ⟨w.heap.size, 14, none⟩ = some (.int .i64 x.2.2.1.author) ∧ w'.cell? ⟨w4.heap.size, 2, none⟩ = some (.func (.func 33) #[] #[])) := Lib.hid (fun w' h => by
          obtain ⟨b0, b1, b2, b3, b4⟩ := HB.out w' (HE5.out.thenW h)
          rw [HKN.out] at b2
          exact ⟨b0, b1, b2, b3, b4, by rw [cell_of_row _ _ _ _ _ _ (h.at2 (Nat.le_refl _) HA5.out)]; rfl⟩)
        obtain ⟨kb, hkb⟩ : ∃ kb, kb = kindB2 x.2.1.1 x.2.2.1 := ⟨_, rfl⟩
        have HKB : Hid (kindB2 x.2.1.1 x.2.2.1 = kb) := Lib.hid hkb.symm
        have HCX : Hid (chkX x.d = if kb then 0 else 48) := Lib.hid (by
          show chkX (x.1, x.2.1.1, x.2.2.1) = _
          unfold chkX
          simp only [HSA.out, HSB.out, HKN.out, HKB.out]
          cases kb <;> rfl)
        clear hkb

        cases kb with
        | false =>
          obtain ⟨r0, r1, c0, c1, c2, c3⟩ := HQ.out _ (Ex.refl _ _ w5)
          go_region_held3 (fun w' => (rowLoad 35 ⟨w.heap.size, 1, none⟩).run Tryz.prog w' = .ok (stV x.2.1) w' ∧ (rowLoad 35 ⟨w.heap.size, 14, none⟩).run Tryz.prog w' = .ok (stV x.2.2) w' ∧ w'.cell? ⟨w.heap.size, 0, none⟩ = some (.int .i64 2) ∧ w'.cell? ⟨w.heap.size, 1, none⟩ = some (.int .i64 x.2.1.1.author) ∧ w'.cell? ⟨w.heap.size, 14, none⟩ = some (.int .i64 x.2.2.1.author) ∧ w'.cell? ⟨w4.heap.size, 2, none⟩ = some (.func (.func 33) #[] #[])) (exact HQ.out _ (by repeat (first | with_reducible exact HE6.out | with_reducible exact Ex.refl _ _ _ | with_reducible refine Ex.drew ?_)))
            (first
              | ((first | go_at_call 33 | go_at_fn 33)
                 refine (votesX_any (P := P) (Q := P) x.2.1 x.2.2 _ (HL.out _ (HE5.out.thenW (by repeat (first | with_reducible exact Ex.refl _ _ _ | with_reducible refine Ex.drew ?_)))).1 (HL.out _ (HE5.out.thenW (by repeat (first | with_reducible exact Ex.refl _ _ _ | with_reducible refine Ex.drew ?_)))).2 HM.out.1.1 HM.out.1.2).mono ?_
                 rw [HKB.out]
                 rintro e w6 ⟨rfl, hex⟩
                 have HE6 : Hid (Ex w5.heap.size none w5 w6) := Lib.hid (Ex.thenW (by repeat (first | with_reducible exact Ex.refl _ _ _ | with_reducible refine Ex.drew ?_)) hex)
                 clear hex)
              | fail)
          all_goals go_wp2
          all_goals go_ret
          all_goals exact ⟨by rw [HCX.out]; rfl, HEs.out.trans (HE5.out.thenW (by repeat (first | with_reducible exact HE6.out | with_reducible exact Ex.refl _ _ _ | with_reducible refine Ex.drew ?_))) (by omega) (by simp)⟩
        | true =>
          obtain ⟨r0, r1, c0, c1, c2, c3⟩ := HQ.out _ (Ex.refl _ _ w5)
          go_region_held3 (fun w' => (rowLoad 35 ⟨w.heap.size, 1, none⟩).run Tryz.prog w' = .ok (stV x.2.1) w' ∧ (rowLoad 35 ⟨w.heap.size, 14, none⟩).run Tryz.prog w' = .ok (stV x.2.2) w' ∧ w'.cell? ⟨w.heap.size, 0, none⟩ = some (.int .i64 2) ∧ w'.cell? ⟨w.heap.size, 1, none⟩ = some (.int .i64 x.2.1.1.author) ∧ w'.cell? ⟨w.heap.size, 14, none⟩ = some (.int .i64 x.2.2.1.author) ∧ w'.cell? ⟨w4.heap.size, 2, none⟩ = some (.func (.func 33) #[] #[])) (exact HQ.out _ (by repeat (first | with_reducible exact HE6.out | with_reducible exact Ex.refl _ _ _ | with_reducible refine Ex.drew ?_)))
            (first
              | ((first | go_at_call 33 | go_at_fn 33)
                 refine (votesX_any (P := P) (Q := P) x.2.1 x.2.2 _ (HL.out _ (HE5.out.thenW (by repeat (first | with_reducible exact Ex.refl _ _ _ | with_reducible refine Ex.drew ?_)))).1 (HL.out _ (HE5.out.thenW (by repeat (first | with_reducible exact Ex.refl _ _ _ | with_reducible refine Ex.drew ?_)))).2 HM.out.1.1 HM.out.1.2).mono ?_
                 rw [HKB.out]
                 rintro e w6 ⟨rfl, hex⟩
                 have HE6 : Hid (Ex w5.heap.size none w5 w6) := Lib.hid (Ex.thenW (by repeat (first | with_reducible exact Ex.refl _ _ _ | with_reducible refine Ex.drew ?_)) hex)
                 clear hex)
              | fail)
          all_goals go_wp2
          all_goals go_ret
          all_goals exact ⟨by rw [HCX.out]; rfl, HEs.out.trans (HE5.out.thenW (by repeat (first | with_reducible exact HE6.out | with_reducible exact Ex.refl _ _ _ | with_reducible refine Ex.drew ?_))) (by omega) (by simp)⟩
      · have HQ : Hid (∀ w', Ex w5.heap.size none w5 w' → (rowLoad 35 ⟨w.heap.size, 1, none⟩).run Tryz.prog w' = .ok (stV x.2.1) w' ∧ (rowLoad 35 ⟨w.heap.size, 14, none⟩).run Tryz.prog w' = .ok (stV x.2.2) w' ∧ w'.cell? ⟨w.heap.size, 0, none⟩ = some (.int .i64 3) ∧ w'.cell? ⟨w.heap.size, 1, none⟩ = some (.int .i64 x.2.1.1.author) ∧ w'.cell? ⟨w.heap.size, 14, none⟩ = some (.int .i64 x.2.2.1.author)) := Lib.hid (fun w' h => by
          obtain ⟨b0, b1, b2, b3, b4⟩ := HB.out w' (HE5.out.thenW h)
          rw [HKN.out] at b2
          exact ⟨b0, b1, b2, b3, b4⟩)
        have HCX : Hid (chkX x.d = 48) := Lib.hid (by
          show chkX (x.1, x.2.1.1, x.2.2.1) = _
          unfold chkX
          simp only [HSA.out, HSB.out, HKN.out]
          rfl)

        have hq := fun p : ExW w5 => HQ.out p.w' p.ex
        refine wp_region_quiet_ex (by kernel_rfl) (by kernel_rfl) ?_
        repeat (go_big_quiet_step (fail))
        refine wpQuiet_nil ?_
        intro _ hw'
        obtain ⟨p9, hw''⟩ := hw'
        subst hw''
        clear hq
        go_wp2
        go_ret
        exact ⟨by rw [HCX.out]; rfl, HEs.out.trans (HE5.out.thenW p9.ex) (by omega) (by simp)⟩
end Go.Proofs.YtaihmldiglgipaaGreat

