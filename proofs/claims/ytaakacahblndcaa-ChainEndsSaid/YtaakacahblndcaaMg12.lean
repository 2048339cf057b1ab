/- chain.Next at rows of statements without lists that count wholly: contracts. No statement of the seat. | The statements of law04.awake, with their digests, and what the chain's functions make of them. No program in sight; no statement of the seat. | Slices of one to four given statements. No statement of the seat. | chain.Follows: a contract, no statement of the seat. -/
import Derived.Test.YtaakacahblndcaaMg11
import Derived.Test.YtaakacahblndcaaMg09
import Derived.Test.YtaakacahblndcaaMg07
import Derived.Deep.RegionHeld3
namespace Go.Proofs.Ytaakacahblndcaa
open Go.RowKit Go.Sort
attribute [local go_sem ↓] rowLoad_stv rowStore_stv

/-- What follows a row. -/
def nextQ (a : Int) (l : List St) (s : St) : St := { s with author := a, number := (l.length : Int), prev := match l.getLast? with | none => ⟨#[]⟩ | some q => sha (stB q) }
/-- What chain.Next answers: an error; or the next statement, its lists empty. -/
def NextE (c : Int) (e : Ending) : Prop := ∃ u : St × Sv × Sv, e = .returned (.tuple #[stV u, .int .i64 c])
def NextOK (y : St) (e : Ending) : Prop := ∃ u : St × Sv × Sv, e = .returned (.tuple #[stV u, .int .i64 0]) ∧ u.1 = y ∧ ∀ Q W, Lies Q W u
theorem countN_le (ls : List St) : countN ls ≤ ls.length := by
  unfold countN
  exact Nat.le_trans (List.takeWhile_sublist _).length_le (by rw [List.length_range]; exact Nat.le_refl _)
theorem stv_set3 {w : World} {g : Nat} {y : St × Sv × Sv} {t : TypeId} (h : w.heap[g]? = some (.cells (stV y).cells t (0, 0))) (a n : Int) (p : ByteArray) :
    (((w.setCell ⟨g, 0, none⟩ (.int .i64 a)).setCell ⟨g, 1, none⟩ (.int .i64 n)).setCell ⟨g, 2, none⟩ (.string p)).heap[g]? = some (.cells (stV ({ y.1 with author := a, number := n, prev := p }, y.2)).cells t (0, 0)) := by
  rw [heap_setCell_same _ _ _ _ _ _ (heap_setCell_same _ _ _ _ _ _ (heap_setCell_same _ _ _ _ _ _ h))]; rfl
theorem stv_set2 {w : World} {g : Nat} {y : St × Sv × Sv} {t : TypeId} (h : w.heap[g]? = some (.cells (stV y).cells t (0, 0))) (n : Int) (p : ByteArray) :
    ((w.setCell ⟨g, 1, none⟩ (.int .i64 n)).setCell ⟨g, 2, none⟩ (.string p)).heap[g]? = some (.cells (stV ({ y.1 with number := n, prev := p }, y.2)).cells t (0, 0)) := by
  rw [heap_setCell_same _ _ _ _ _ _ (heap_setCell_same _ _ _ _ _ _ h)]; rfl
theorem stv_store {w : World} {g : Nat} {old : Array Value} (h : w.heap[g]? = some (.cells old 33 (0, 0))) (ho : old.size = 13) (x : St × Sv × Sv) : (rowStore 33 ⟨g, 0, none⟩ (stV x)).run Try.prog w = .ok () (w.setRow g (stV x).cells) :=
  run_rowStore (P := Try.prog) w g 33 33 old (stV x).cells h Try.sizeStv (by rw [ho]; rfl) (stV_one x)
theorem bare_tame {s : St} (h : Bare s) (hp : s.prev.size ≤ 100000) (hb : s.body.size ≤ 100000) : Tame s := ⟨by rw [h.1]; simp, by rw [h.2]; simp, hp, hb, by rw [h.2]; simp [pinsL]⟩
def zeroSt0 : St := ⟨0, 0, ⟨#[]⟩, 0, 0, 0, 0, 0, [], [], ⟨#[]⟩, 0, ⟨#[]⟩⟩
set_option maxHeartbeats 8000000 in
set_option maxRecDepth 100000 in
theorem nextP_time {P : Nat → Prop} (a : Int) (ao : Option Addr) (n cap : Nat) (l : List St) (s q : St) (w : World) (hn : l.length = n) (hx : SlAt stRep P w ao l) (hb : ∀ t ∈ l, Bare t) (hs : Bare s) (hm : n ≤ 100000) (ht : ∀ t ∈ l, Tame t) (hts : Tame s)
    (hc : ∀ ls, LinksR a l ls → ls.take (countN ls) = l) (hq : l.getLast? = some q) (hlt : s.time < q.time) :
    Calls Try.prog 8 #[.int .i64 a, .slice ao n cap, stV (s, ⟨none, 0, 0⟩, ⟨none, 0, 0⟩)] w fun e w' => NextE 9 e ∧ Ex w.heap.size none w w' := by
  have HX : Hid (∀ w', Ex w.heap.size none w w' → SlAt stRep P w' ao l) := Lib.hid (fun w' h => hx.keep (by decide) fun b _ hb => h.block b hb (by simp))
  have HN := Lib.hid hn
  have HBL := Lib.hid hb
  have HBS := Lib.hid hs
  have HT := Lib.hid ht
  have HCN := Lib.hid hc
  have HTS := Lib.hid hts
  have HQ := Lib.hid hq
  have hpos : 0 < n := by have := HN.out; cases l with | nil => cases hq | cons _ _ => simp at this; omega
  clear hq
  obtain ⟨x, hx0⟩ : ∃ x : St × Sv × Sv, x = (s, ⟨none, 0, 0⟩, ⟨none, 0, 0⟩) := ⟨_, rfl⟩
  have HXS : Hid (x.1 = s) := Lib.hid (by rw [hx0])
  have HLX : Hid (∀ Q W, Lies Q W x) := Lib.hid (fun Q W => by rw [hx0]; exact HBS.out.lies _ _ _ _ Q W)
  rw [show stV (s, ⟨none, 0, 0⟩, ⟨none, 0, 0⟩) = stV x by rw [hx0]]
  clear hx hn hb hs ht hc hts hx0
  obtain ⟨ws, hws⟩ : ∃ ws : World, ws = (w.alloc (.cells (stV x).cells 33)).alloc (.cells #[.int .i64 0, .int .i64 0, .string ⟨#[]⟩, .int .i64 0, .int .i64 0, .int .i64 0, .int .i64 0, .int .i64 0, .slice none 0 0, .slice none 0 0, .string ⟨#[]⟩, .int .i64 0, .string ⟨#[]⟩] 33) := ⟨_, rfl⟩
  have HEs : Hid (Ex w.heap.size none w ws) := Lib.hid (by rw [hws]; exact (Ex.new w _).alloc (by simp) _)
  have hzs : ws.heap.size = w.heap.size + 1 + 1 := by rw [hws]; simp
  have HB1 : Hid (ws.heap[w.heap.size]? = some (.cells (stV x).cells 33 (0, 0))) := Lib.hid (by rw [hws]; exact heap_alloc2_old _ _ _)
  have HB2 : Hid (ws.heap[w.heap.size + 1]? = some (.cells #[.int .i64 0, .int .i64 0, .string ⟨#[]⟩, .int .i64 0, .int .i64 0, .int .i64 0, .int .i64 0, .int .i64 0, .slice none 0 0, .slice none 0 0, .string ⟨#[]⟩, .int .i64 0, .string ⟨#[]⟩] 33 (0, 0))) := Lib.hid (by rw [hws]; exact heap_alloc2_new _ _ _)
  have hn1 := stV_new w #[.int .i64 0, .int .i64 0, .string ⟨#[]⟩, .int .i64 0, .int .i64 0, .int .i64 0, .int .i64 0, .int .i64 0, .slice none 0 0, .slice none 0 0, .string ⟨#[]⟩, .int .i64 0, .string ⟨#[]⟩] x rfl
  go_enter Try.func8, Try.ntmps8
  go_upto_region 1 with (fail)
  refine wp_world (fun W => W = ws) (by rw [hws]; rfl) (fun W hW => ?_)
  rw [hW]
  clear hW W hws hn1
  go_upto_region 4 with (first
    | (go_at_call 11
       refine (countedP_any (P := P) a (.slice ao n cap) l ws ⟨ao, cap, by rw [HN.out], HX.out _ HEs.out⟩ (by rw [HN.out]; omega) (fun t ht => by rw [(HBL.out t ht).1, (HBL.out t ht).2]; exact ⟨Nat.zero_le _, Nat.zero_le _⟩)).mono ?_
       rintro e w1 ⟨ls, ro, m, rc, hls, rfl, hm', hown, hex⟩
       have hm2 : n = m := by
         have h1 := HCN.out ls hls
         have h2 := congrArg List.length h1
         rw [List.length_take] at h2
         have h3 := countN_le ls
         have h4 := HN.out
         omega
       subst hm2
       have HR : Hid (SlAt stRep (fun q => ws.heap.size ≤ q) w1 ro l) := Lib.hid (by have h := (OwnS.sl hown).at'; rw [HCN.out ls hls] at h; exact h)
       have HE1 : Hid (Ex ws.heap.size none ws w1) := Lib.hid hex
       clear hls hm' hown hex)
    | (go_at_call 15
       refine (equalFunc_same (P := P) (Q := fun q => ws.heap.size ≤ q) ao ro _ cap rc l w1 HN.out (HX.out _ (HEs.out.trans HE1.out (by omega) (by simp))) HR.out HBL.out (by omega)).mono ?_
       rintro e w2 ⟨rfl, hex⟩
       have HE2 : Hid (Ex ws.heap.size none ws w2) := Lib.hid (HE1.out.thenW hex)
       clear hex)
    | fail)
  have hz2 : ws.heap.size ≤ w2.heap.size := HE2.out.size
  have HQ2 : Hid (∀ w', Ex w2.heap.size none w2 w' → w'.heap[w.heap.size]? = some (.cells (stV x).cells 33 (0, 0)) ∧ w'.heap[w.heap.size + 1]? = some (.cells #[.int .i64 0, .int .i64 0, .string ⟨#[]⟩, .int .i64 0, .int .i64 0, .int .i64 0, .int .i64 0, .int .i64 0, .slice none 0 0, .slice none 0 0, .string ⟨#[]⟩, .int .i64 0, .string ⟨#[]⟩] 33 (0, 0))) := Lib.hid (fun w' h => by
    have h2 := HE2.out.thenW h
    exact ⟨(h2.block _ (by omega) (by simp)).trans HB1.out, (h2.block _ (by omega) (by simp)).trans HB2.out⟩)
  have r5 := stV_box (HQ2.out _ (Ex.refl _ _ w2)).1
  go_upto_region 5 with (first
    | (go_at_call 17
       refine (copied_v (P := fun _ => True) x w2 (HLX.out _ _) (by rw [HXS.out, HBS.out.1, HBS.out.2]; exact ⟨Nat.zero_le _, Nat.zero_le _⟩)).mono ?_
       rintro e w3 ⟨y, rfl, hy, hly, hex⟩
       have HYE : Hid (y.1 = s) := Lib.hid (hy.trans HXS.out)
       have HLY : Hid (∀ Q W, Lies Q W y) := Lib.hid (fun Q W => by
         have h1 := lies_len hly
         obtain ⟨t, ⟨la, na, ca⟩, ⟨pa, np, cp⟩⟩ := y
         obtain rfl : t = s := HYE.out
         obtain ⟨hb1, hb2⟩ : t.list = [] ∧ t.pins = [] := HBS.out
         simp only [hb1, hb2, List.length_nil] at h1
         obtain ⟨rfl, rfl⟩ := h1
         exact HBS.out.lies _ _ _ _ Q W)
       have HE3 : Hid (Ex w2.heap.size none w2 w3) := Lib.hid hex
       have hn3 := stV_new w3 #[.int .i64 0, .int .i64 0, .string ⟨#[]⟩, .int .i64 0, .int .i64 0, .int .i64 0, .int .i64 0, .int .i64 0, .slice none 0 0, .slice none 0 0, .string ⟨#[]⟩, .int .i64 0, .string ⟨#[]⟩] y rfl
       clear hy hly hex r5)
    | fail)
  refine wp_world (fun W => W = w3.alloc (.cells (stV y).cells 33)) rfl (fun w4 hw4 => ?_)
  have HE4 : Hid (Ex w2.heap.size none w2 w4) := Lib.hid (by rw [hw4]; exact HE3.out.alloc HE3.out.size _)
  have hz3 : w2.heap.size ≤ w3.heap.size := HE3.out.size
  have HB4 : Hid (w4.heap[w3.heap.size]? = some (.cells (stV y).cells 33 (0, 0))) := Lib.hid (by rw [hw4]; exact heap_alloc_new w3 _)
  have f0 : ∀ k, w4.frozen? ⟨w3.heap.size, k, none⟩ = false := fun k => by simp [World.frozen?, HB4.out]
  have d0 : w4.cell? ⟨w3.heap.size, 0, none⟩ = some (.int .i64 y.1.author) := by rw [cell_of_row _ _ _ _ _ _ HB4.out]; rfl
  have d1 : w4.cell? ⟨w3.heap.size, 1, none⟩ = some (.int .i64 y.1.number) := by rw [cell_of_row _ _ _ _ _ _ HB4.out]; rfl
  have d2 : w4.cell? ⟨w3.heap.size, 2, none⟩ = some (.string y.1.prev) := by rw [cell_of_row _ _ _ _ _ _ HB4.out]; rfl
  obtain ⟨g, hg⟩ : ∃ g, g = w3.heap.size := ⟨_, rfl⟩
  rw [← hg] at d0 d1 d2 f0 ⊢
  have HBG : Hid (w4.heap[g]? = some (.cells (stV y).cells 33 (0, 0))) := Lib.hid (by rw [hg]; exact HB4.out)
  have hgz : w2.heap.size ≤ g := by omega
  have hgz4 : g < w4.heap.size := (Array.getElem?_eq_some_iff.1 HBG.out).1
  clear hn3 hw4 hg HB4
  go_upto_region 6 with (fail)
  refine wp_world (fun W => W.heap[g]? = some (.cells (stV ({ y.1 with author := a, number := 0, prev := ⟨#[]⟩ }, y.2)).cells 33 (0, 0)) ∧ Ex g none w4 W) ⟨stv_set3 HBG.out a 0 ⟨#[]⟩, (((Ex.refl g none w4).setCell 0 none _ (.inr (Nat.le_refl _))).setCell 1 none _ (.inr (Nat.le_refl _))).setCell 2 none _ (.inr (Nat.le_refl _))⟩ (fun w5 hw5 => ?_)
  have HB5 : Hid (w5.heap[g]? = some (.cells (stV ({ y.1 with author := a, number := 0, prev := ⟨#[]⟩ }, y.2)).cells 33 (0, 0))) := Lib.hid hw5.1
  have HE5 : Hid (Ex w2.heap.size none w2 w5) := Lib.hid (HE4.out.trans (hw5.2.mono hgz) (by have := HE4.out.size; omega) (by simp))
  have hz5 : w4.heap.size ≤ w5.heap.size := hw5.2.size
  clear hw5 d0 d1 d2 f0
  have hgz5 : g < w5.heap.size := by omega
  obtain ⟨j, hj⟩ : ∃ j, n = j + 1 := ⟨n - 1, by omega⟩
  have HNJ := Lib.hid hj
  obtain ⟨b, off, z, hao, _, hbl, HZs, hlz, HLD⟩ := stv_get (HX.out w5 (HEs.out.trans (HE2.out.thenW HE5.out) (by omega) (by simp))) j (by rw [HN.out]; omega)
  have HZQ : Hid (z.1 = q) := Lib.hid (by
    have h1 := HQ.out
    rw [List.getLast?_eq_getElem?, HN.out, hj, Nat.add_sub_cancel, HZs.out] at h1
    exact Option.some.inj h1)
  have HLZ : Hid (∀ w', Ex w5.heap.size none w5 w' → Lies (fun _ => True) w' z) := Lib.hid (fun w' h => (hlz.keep fun q _ hq => h.block q hq (by simp)).mono fun _ _ _ => trivial)
  subst hao hj
  have hld := HLD.out w5 rfl
  have hn5 := stV_new w5 #[.int .i64 0, .int .i64 0, .string ⟨#[]⟩, .int .i64 0, .int .i64 0, .int .i64 0, .int .i64 0, .int .i64 0, .slice none 0 0, .slice none 0 0, .string ⟨#[]⟩, .int .i64 0, .string ⟨#[]⟩] z rfl
  have i1 : ((j + 1 : Nat) : Int) - 1 = (j : Int) := by omega
  have i2 : (0 : Int) < ((j + 1 : Nat) : Int) := by omega
  have i3 : (j : Int) < ((j + 1 : Nat) : Int) := by omega
  have i4 : IntKind.i64.wrap (((j + 1 : Nat) : Int) - 1) = (j : Int) := by simp [IntKind.wrap, IntKind.bits, IntKind.signed]; omega
  clear hlz
  go_upto_region 9 with (fail)
  refine wp_world (fun W => W = w5.alloc (.cells (stV z).cells 33)) rfl (fun w6 hw6 => ?_)
  have HE6 : Hid (Ex w5.heap.size none w5 w6) := Lib.hid (by rw [hw6]; exact Ex.new w5 _)
  have hz6 : w6.heap.size = w5.heap.size + 1 := by rw [hw6]; simp
  have HBZ : Hid (w6.heap[w5.heap.size]? = some (.cells (stV z).cells 33 (0, 0))) := Lib.hid (by rw [hw6]; exact heap_alloc_new w5 _)
  have HQ6 : Hid (w6.heap[w.heap.size]? = some (.cells (stV x).cells 33 (0, 0)) ∧ w6.heap[w.heap.size + 1]? = some (.cells #[.int .i64 0, .int .i64 0, .string ⟨#[]⟩, .int .i64 0, .int .i64 0, .int .i64 0, .int .i64 0, .int .i64 0, .slice none 0 0, .slice none 0 0, .string ⟨#[]⟩, .int .i64 0, .string ⟨#[]⟩] 33 (0, 0))) := Lib.hid (HQ2.out _ (HE5.out.thenW HE6.out))
  have t3 : w6.cell? ⟨w.heap.size, 3, none⟩ = some (.int .i64 s.time) := by rw [cell_of_row _ _ _ _ _ _ HQ6.out.1]; show some (Value.int .i64 x.1.time) = _; rw [HXS.out]
  have z3 : w6.cell? ⟨w5.heap.size, 3, none⟩ = some (.int .i64 q.time) := by rw [cell_of_row _ _ _ _ _ _ HBZ.out]; show some (Value.int .i64 z.1.time) = _; rw [HZQ.out]
  have z4 : w6.cell? ⟨w5.heap.size, 4, none⟩ = some (.int .i64 q.kind) := by rw [cell_of_row _ _ _ _ _ _ HBZ.out]; show some (Value.int .i64 z.1.kind) = _; rw [HZQ.out]
  clear hld hn5 hw6
  have hst : (rowStore 33 ⟨w.heap.size + 1, 0, none⟩ (.agg #[.int .i64 0, .int .i64 0, .string ⟨#[]⟩, .int .i64 0, .int .i64 0, .int .i64 0, .int .i64 0, .int .i64 0, .slice none 0 0, .slice none 0 0, .string ⟨#[]⟩, .int .i64 0, .string ⟨#[]⟩])).run Try.prog w6 = .ok () (w6.setRow (w.heap.size + 1) #[.int .i64 0, .int .i64 0, .string ⟨#[]⟩, .int .i64 0, .int .i64 0, .int .i64 0, .int .i64 0, .int .i64 0, .slice none 0 0, .slice none 0 0, .string ⟨#[]⟩, .int .i64 0, .string ⟨#[]⟩]) := stv_store HQ6.out.2 rfl (zeroSt0, ⟨none, 0, 0⟩, ⟨none, 0, 0⟩)
  have HE7 : Hid (Ex w.heap.size none w (w6.setRow (w.heap.size + 1) #[.int .i64 0, .int .i64 0, .string ⟨#[]⟩, .int .i64 0, .int .i64 0, .int .i64 0, .int .i64 0, .int .i64 0, .slice none 0 0, .slice none 0 0, .string ⟨#[]⟩, .int .i64 0, .string ⟨#[]⟩])) := Lib.hid ((HEs.out.trans (HE2.out.thenW (HE5.out.thenW HE6.out)) (by omega) (by simp)).setRow _ _ (.inr (by omega)))
  have r7 : (rowLoad 33 ⟨w.heap.size + 1, 0, none⟩).run Try.prog (w6.setRow (w.heap.size + 1) #[.int .i64 0, .int .i64 0, .string ⟨#[]⟩, .int .i64 0, .int .i64 0, .int .i64 0, .int .i64 0, .int .i64 0, .slice none 0 0, .slice none 0 0, .string ⟨#[]⟩, .int .i64 0, .string ⟨#[]⟩]) = .ok (stV (zeroSt0, ⟨none, 0, 0⟩, ⟨none, 0, 0⟩)) (w6.setRow (w.heap.size + 1) #[.int .i64 0, .int .i64 0, .string ⟨#[]⟩, .int .i64 0, .int .i64 0, .int .i64 0, .int .i64 0, .int .i64 0, .slice none 0 0, .slice none 0 0, .string ⟨#[]⟩, .int .i64 0, .string ⟨#[]⟩]) := stV_box (x := (zeroSt0, ⟨none, 0, 0⟩, ⟨none, 0, 0⟩)) (setRow_heap _ _ _ _ _ _ HQ6.out.2)
  go_wp2_with (fail)
  refine bodyPost_ret (v := .tuple #[stV (zeroSt0, ⟨none, 0, 0⟩, ⟨none, 0, 0⟩), .int .i64 9]) (results_stv rfl _ _ (by rfl) (by rfl) r7) rfl ?_
  exact ⟨⟨_, rfl⟩, HE7.out⟩
set_option maxHeartbeats 8000000 in
set_option maxRecDepth 100000 in
theorem nextP_kind {P : Nat → Prop} (a : Int) (ao : Option Addr) (n cap : Nat) (l : List St) (s q : St) (w : World) (hn : l.length = n) (hx : SlAt stRep P w ao l) (hb : ∀ t ∈ l, Bare t) (hs : Bare s) (hm : n ≤ 100000) (ht : ∀ t ∈ l, Tame t) (hts : Tame s)
    (hc : ∀ ls, LinksR a l ls → ls.take (countN ls) = l) (hq : l.getLast? = some q) (hge : q.time ≤ s.time) (hk : q.kind = 3) :
    Calls Try.prog 8 #[.int .i64 a, .slice ao n cap, stV (s, ⟨none, 0, 0⟩, ⟨none, 0, 0⟩)] w fun e w' => NextE 5 e ∧ Ex w.heap.size none w w' := by
  have HX : Hid (∀ w', Ex w.heap.size none w w' → SlAt stRep P w' ao l) := Lib.hid (fun w' h => hx.keep (by decide) fun b _ hb => h.block b hb (by simp))
  have HN := Lib.hid hn
  have HBL := Lib.hid hb
  have HBS := Lib.hid hs
  have HT := Lib.hid ht
  have HCN := Lib.hid hc
  have HTS := Lib.hid hts
  have HQ := Lib.hid hq
  have HK := Lib.hid hk
  have hpos : 0 < n := by have := HN.out; cases l with | nil => cases hq | cons _ _ => simp at this; omega
  clear hq hk
  obtain ⟨x, hx0⟩ : ∃ x : St × Sv × Sv, x = (s, ⟨none, 0, 0⟩, ⟨none, 0, 0⟩) := ⟨_, rfl⟩
  have HXS : Hid (x.1 = s) := Lib.hid (by rw [hx0])
  have HLX : Hid (∀ Q W, Lies Q W x) := Lib.hid (fun Q W => by rw [hx0]; exact HBS.out.lies _ _ _ _ Q W)
  rw [show stV (s, ⟨none, 0, 0⟩, ⟨none, 0, 0⟩) = stV x by rw [hx0]]
  clear hx hn hb hs ht hc hts hx0
  obtain ⟨ws, hws⟩ : ∃ ws : World, ws = (w.alloc (.cells (stV x).cells 33)).alloc (.cells #[.int .i64 0, .int .i64 0, .string ⟨#[]⟩, .int .i64 0, .int .i64 0, .int .i64 0, .int .i64 0, .int .i64 0, .slice none 0 0, .slice none 0 0, .string ⟨#[]⟩, .int .i64 0, .string ⟨#[]⟩] 33) := ⟨_, rfl⟩
  have HEs : Hid (Ex w.heap.size none w ws) := Lib.hid (by rw [hws]; exact (Ex.new w _).alloc (by simp) _)
  have hzs : ws.heap.size = w.heap.size + 1 + 1 := by rw [hws]; simp
  have HB1 : Hid (ws.heap[w.heap.size]? = some (.cells (stV x).cells 33 (0, 0))) := Lib.hid (by rw [hws]; exact heap_alloc2_old _ _ _)
  have HB2 : Hid (ws.heap[w.heap.size + 1]? = some (.cells #[.int .i64 0, .int .i64 0, .string ⟨#[]⟩, .int .i64 0, .int .i64 0, .int .i64 0, .int .i64 0, .int .i64 0, .slice none 0 0, .slice none 0 0, .string ⟨#[]⟩, .int .i64 0, .string ⟨#[]⟩] 33 (0, 0))) := Lib.hid (by rw [hws]; exact heap_alloc2_new _ _ _)
  have hn1 := stV_new w #[.int .i64 0, .int .i64 0, .string ⟨#[]⟩, .int .i64 0, .int .i64 0, .int .i64 0, .int .i64 0, .int .i64 0, .slice none 0 0, .slice none 0 0, .string ⟨#[]⟩, .int .i64 0, .string ⟨#[]⟩] x rfl
  go_enter Try.func8, Try.ntmps8
  go_upto_region 1 with (fail)
  refine wp_world (fun W => W = ws) (by rw [hws]; rfl) (fun W hW => ?_)
  rw [hW]
  clear hW W hws hn1
  go_upto_region 4 with (first
    | (go_at_call 11
       refine (countedP_any (P := P) a (.slice ao n cap) l ws ⟨ao, cap, by rw [HN.out], HX.out _ HEs.out⟩ (by rw [HN.out]; omega) (fun t ht => by rw [(HBL.out t ht).1, (HBL.out t ht).2]; exact ⟨Nat.zero_le _, Nat.zero_le _⟩)).mono ?_
       rintro e w1 ⟨ls, ro, m, rc, hls, rfl, hm', hown, hex⟩
       have hm2 : n = m := by
         have h1 := HCN.out ls hls
         have h2 := congrArg List.length h1
         rw [List.length_take] at h2
         have h3 := countN_le ls
         have h4 := HN.out
         omega
       subst hm2
       have HR : Hid (SlAt stRep (fun q => ws.heap.size ≤ q) w1 ro l) := Lib.hid (by have h := (OwnS.sl hown).at'; rw [HCN.out ls hls] at h; exact h)
       have HE1 : Hid (Ex ws.heap.size none ws w1) := Lib.hid hex
       clear hls hm' hown hex)
    | (go_at_call 15
       refine (equalFunc_same (P := P) (Q := fun q => ws.heap.size ≤ q) ao ro _ cap rc l w1 HN.out (HX.out _ (HEs.out.trans HE1.out (by omega) (by simp))) HR.out HBL.out (by omega)).mono ?_
       rintro e w2 ⟨rfl, hex⟩
       have HE2 : Hid (Ex ws.heap.size none ws w2) := Lib.hid (HE1.out.thenW hex)
       clear hex)
    | fail)
  have hz2 : ws.heap.size ≤ w2.heap.size := HE2.out.size
  have HQ2 : Hid (∀ w', Ex w2.heap.size none w2 w' → w'.heap[w.heap.size]? = some (.cells (stV x).cells 33 (0, 0)) ∧ w'.heap[w.heap.size + 1]? = some (.cells #[.int .i64 0, .int .i64 0, .string ⟨#[]⟩, .int .i64 0, .int .i64 0, .int .i64 0, .int .i64 0, .int .i64 0, .slice none 0 0, .slice none 0 0, .string ⟨#[]⟩, .int .i64 0, .string ⟨#[]⟩] 33 (0, 0))) := Lib.hid (fun w' h => by
    have h2 := HE2.out.thenW h
    exact ⟨(h2.block _ (by omega) (by simp)).trans HB1.out, (h2.block _ (by omega) (by simp)).trans HB2.out⟩)
  have r5 := stV_box (HQ2.out _ (Ex.refl _ _ w2)).1
  go_upto_region 5 with (first
    | (go_at_call 17
       refine (copied_v (P := fun _ => True) x w2 (HLX.out _ _) (by rw [HXS.out, HBS.out.1, HBS.out.2]; exact ⟨Nat.zero_le _, Nat.zero_le _⟩)).mono ?_
       rintro e w3 ⟨y, rfl, hy, hly, hex⟩
       have HYE : Hid (y.1 = s) := Lib.hid (hy.trans HXS.out)
       have HLY : Hid (∀ Q W, Lies Q W y) := Lib.hid (fun Q W => by
         have h1 := lies_len hly
         obtain ⟨t, ⟨la, na, ca⟩, ⟨pa, np, cp⟩⟩ := y
         obtain rfl : t = s := HYE.out
         obtain ⟨hb1, hb2⟩ : t.list = [] ∧ t.pins = [] := HBS.out
         simp only [hb1, hb2, List.length_nil] at h1
         obtain ⟨rfl, rfl⟩ := h1
         exact HBS.out.lies _ _ _ _ Q W)
       have HE3 : Hid (Ex w2.heap.size none w2 w3) := Lib.hid hex
       have hn3 := stV_new w3 #[.int .i64 0, .int .i64 0, .string ⟨#[]⟩, .int .i64 0, .int .i64 0, .int .i64 0, .int .i64 0, .int .i64 0, .slice none 0 0, .slice none 0 0, .string ⟨#[]⟩, .int .i64 0, .string ⟨#[]⟩] y rfl
       clear hy hly hex r5)
    | fail)
  refine wp_world (fun W => W = w3.alloc (.cells (stV y).cells 33)) rfl (fun w4 hw4 => ?_)
  have HE4 : Hid (Ex w2.heap.size none w2 w4) := Lib.hid (by rw [hw4]; exact HE3.out.alloc HE3.out.size _)
  have hz3 : w2.heap.size ≤ w3.heap.size := HE3.out.size
  have HB4 : Hid (w4.heap[w3.heap.size]? = some (.cells (stV y).cells 33 (0, 0))) := Lib.hid (by rw [hw4]; exact heap_alloc_new w3 _)
  have f0 : ∀ k, w4.frozen? ⟨w3.heap.size, k, none⟩ = false := fun k => by simp [World.frozen?, HB4.out]
  have d0 : w4.cell? ⟨w3.heap.size, 0, none⟩ = some (.int .i64 y.1.author) := by rw [cell_of_row _ _ _ _ _ _ HB4.out]; rfl
  have d1 : w4.cell? ⟨w3.heap.size, 1, none⟩ = some (.int .i64 y.1.number) := by rw [cell_of_row _ _ _ _ _ _ HB4.out]; rfl
  have d2 : w4.cell? ⟨w3.heap.size, 2, none⟩ = some (.string y.1.prev) := by rw [cell_of_row _ _ _ _ _ _ HB4.out]; rfl
  obtain ⟨g, hg⟩ : ∃ g, g = w3.heap.size := ⟨_, rfl⟩
  rw [← hg] at d0 d1 d2 f0 ⊢
  have HBG : Hid (w4.heap[g]? = some (.cells (stV y).cells 33 (0, 0))) := Lib.hid (by rw [hg]; exact HB4.out)
  have hgz : w2.heap.size ≤ g := by omega
  have hgz4 : g < w4.heap.size := (Array.getElem?_eq_some_iff.1 HBG.out).1
  clear hn3 hw4 hg HB4
  go_upto_region 6 with (fail)
  refine wp_world (fun W => W.heap[g]? = some (.cells (stV ({ y.1 with author := a, number := 0, prev := ⟨#[]⟩ }, y.2)).cells 33 (0, 0)) ∧ Ex g none w4 W) ⟨stv_set3 HBG.out a 0 ⟨#[]⟩, (((Ex.refl g none w4).setCell 0 none _ (.inr (Nat.le_refl _))).setCell 1 none _ (.inr (Nat.le_refl _))).setCell 2 none _ (.inr (Nat.le_refl _))⟩ (fun w5 hw5 => ?_)
  have HB5 : Hid (w5.heap[g]? = some (.cells (stV ({ y.1 with author := a, number := 0, prev := ⟨#[]⟩ }, y.2)).cells 33 (0, 0))) := Lib.hid hw5.1
  have HE5 : Hid (Ex w2.heap.size none w2 w5) := Lib.hid (HE4.out.trans (hw5.2.mono hgz) (by have := HE4.out.size; omega) (by simp))
  have hz5 : w4.heap.size ≤ w5.heap.size := hw5.2.size
  clear hw5 d0 d1 d2 f0
  have hgz5 : g < w5.heap.size := by omega
  obtain ⟨j, hj⟩ : ∃ j, n = j + 1 := ⟨n - 1, by omega⟩
  have HNJ := Lib.hid hj
  obtain ⟨b, off, z, hao, _, hbl, HZs, hlz, HLD⟩ := stv_get (HX.out w5 (HEs.out.trans (HE2.out.thenW HE5.out) (by omega) (by simp))) j (by rw [HN.out]; omega)
  have HZQ : Hid (z.1 = q) := Lib.hid (by
    have h1 := HQ.out
    rw [List.getLast?_eq_getElem?, HN.out, hj, Nat.add_sub_cancel, HZs.out] at h1
    exact Option.some.inj h1)
  have HLZ : Hid (∀ w', Ex w5.heap.size none w5 w' → Lies (fun _ => True) w' z) := Lib.hid (fun w' h => (hlz.keep fun q _ hq => h.block q hq (by simp)).mono fun _ _ _ => trivial)
  subst hao hj
  have hld := HLD.out w5 rfl
  have hn5 := stV_new w5 #[.int .i64 0, .int .i64 0, .string ⟨#[]⟩, .int .i64 0, .int .i64 0, .int .i64 0, .int .i64 0, .int .i64 0, .slice none 0 0, .slice none 0 0, .string ⟨#[]⟩, .int .i64 0, .string ⟨#[]⟩] z rfl
  have i1 : ((j + 1 : Nat) : Int) - 1 = (j : Int) := by omega
  have i2 : (0 : Int) < ((j + 1 : Nat) : Int) := by omega
  have i3 : (j : Int) < ((j + 1 : Nat) : Int) := by omega
  have i4 : IntKind.i64.wrap (((j + 1 : Nat) : Int) - 1) = (j : Int) := by simp [IntKind.wrap, IntKind.bits, IntKind.signed]; omega
  clear hlz
  go_upto_region 9 with (fail)
  refine wp_world (fun W => W = w5.alloc (.cells (stV z).cells 33)) rfl (fun w6 hw6 => ?_)
  have HE6 : Hid (Ex w5.heap.size none w5 w6) := Lib.hid (by rw [hw6]; exact Ex.new w5 _)
  have hz6 : w6.heap.size = w5.heap.size + 1 := by rw [hw6]; simp
  have HBZ : Hid (w6.heap[w5.heap.size]? = some (.cells (stV z).cells 33 (0, 0))) := Lib.hid (by rw [hw6]; exact heap_alloc_new w5 _)
  have HQ6 : Hid (w6.heap[w.heap.size]? = some (.cells (stV x).cells 33 (0, 0)) ∧ w6.heap[w.heap.size + 1]? = some (.cells #[.int .i64 0, .int .i64 0, .string ⟨#[]⟩, .int .i64 0, .int .i64 0, .int .i64 0, .int .i64 0, .int .i64 0, .slice none 0 0, .slice none 0 0, .string ⟨#[]⟩, .int .i64 0, .string ⟨#[]⟩] 33 (0, 0))) := Lib.hid (HQ2.out _ (HE5.out.thenW HE6.out))
  have t3 : w6.cell? ⟨w.heap.size, 3, none⟩ = some (.int .i64 s.time) := by rw [cell_of_row _ _ _ _ _ _ HQ6.out.1]; show some (Value.int .i64 x.1.time) = _; rw [HXS.out]
  have z3 : w6.cell? ⟨w5.heap.size, 3, none⟩ = some (.int .i64 q.time) := by rw [cell_of_row _ _ _ _ _ _ HBZ.out]; show some (Value.int .i64 z.1.time) = _; rw [HZQ.out]
  have z4 : w6.cell? ⟨w5.heap.size, 4, none⟩ = some (.int .i64 q.kind) := by rw [cell_of_row _ _ _ _ _ _ HBZ.out]; show some (Value.int .i64 z.1.kind) = _; rw [HZQ.out]
  clear hld hn5 hw6
  have hnl : ¬ s.time < q.time := by omega
  rw [HK.out] at z4
  have hst : (rowStore 33 ⟨w.heap.size + 1, 0, none⟩ (.agg #[.int .i64 0, .int .i64 0, .string ⟨#[]⟩, .int .i64 0, .int .i64 0, .int .i64 0, .int .i64 0, .int .i64 0, .slice none 0 0, .slice none 0 0, .string ⟨#[]⟩, .int .i64 0, .string ⟨#[]⟩])).run Try.prog w6 = .ok () (w6.setRow (w.heap.size + 1) #[.int .i64 0, .int .i64 0, .string ⟨#[]⟩, .int .i64 0, .int .i64 0, .int .i64 0, .int .i64 0, .int .i64 0, .slice none 0 0, .slice none 0 0, .string ⟨#[]⟩, .int .i64 0, .string ⟨#[]⟩]) := stv_store HQ6.out.2 rfl (zeroSt0, ⟨none, 0, 0⟩, ⟨none, 0, 0⟩)
  have HE7 : Hid (Ex w.heap.size none w (w6.setRow (w.heap.size + 1) #[.int .i64 0, .int .i64 0, .string ⟨#[]⟩, .int .i64 0, .int .i64 0, .int .i64 0, .int .i64 0, .int .i64 0, .slice none 0 0, .slice none 0 0, .string ⟨#[]⟩, .int .i64 0, .string ⟨#[]⟩])) := Lib.hid ((HEs.out.trans (HE2.out.thenW (HE5.out.thenW HE6.out)) (by omega) (by simp)).setRow _ _ (.inr (by omega)))
  have r7 : (rowLoad 33 ⟨w.heap.size + 1, 0, none⟩).run Try.prog (w6.setRow (w.heap.size + 1) #[.int .i64 0, .int .i64 0, .string ⟨#[]⟩, .int .i64 0, .int .i64 0, .int .i64 0, .int .i64 0, .int .i64 0, .slice none 0 0, .slice none 0 0, .string ⟨#[]⟩, .int .i64 0, .string ⟨#[]⟩]) = .ok (stV (zeroSt0, ⟨none, 0, 0⟩, ⟨none, 0, 0⟩)) (w6.setRow (w.heap.size + 1) #[.int .i64 0, .int .i64 0, .string ⟨#[]⟩, .int .i64 0, .int .i64 0, .int .i64 0, .int .i64 0, .int .i64 0, .slice none 0 0, .slice none 0 0, .string ⟨#[]⟩, .int .i64 0, .string ⟨#[]⟩]) := stV_box (x := (zeroSt0, ⟨none, 0, 0⟩, ⟨none, 0, 0⟩)) (setRow_heap _ _ _ _ _ _ HQ6.out.2)
  go_wp2_with (fail)
  refine bodyPost_ret (v := .tuple #[stV (zeroSt0, ⟨none, 0, 0⟩, ⟨none, 0, 0⟩), .int .i64 5]) (results_stv rfl _ _ (by rfl) (by rfl) r7) rfl ?_
  exact ⟨⟨_, rfl⟩, HE7.out⟩
set_option maxHeartbeats 8000000 in
set_option maxRecDepth 100000 in
theorem nextP_more {P : Nat → Prop} (a : Int) (ao : Option Addr) (n cap : Nat) (l : List St) (s q : St) (w : World) (hn : l.length = n) (hx : SlAt stRep P w ao l) (hb : ∀ t ∈ l, Bare t) (hs : Bare s) (hm : n ≤ 100000) (ht : ∀ t ∈ l, Tame t) (hts : Tame s)
    (hc : ∀ ls, LinksR a l ls → ls.take (countN ls) = l) (hq : l.getLast? = some q) (hge : q.time ≤ s.time) (hk : q.kind ≠ 3) (hok : checkI (sealS (nextQ a l s)) = 0) :
    Calls Try.prog 8 #[.int .i64 a, .slice ao n cap, stV (s, ⟨none, 0, 0⟩, ⟨none, 0, 0⟩)] w fun e w' => NextOK (sealS (nextQ a l s)) e ∧ Ex w.heap.size none w w' := by
  have HX : Hid (∀ w', Ex w.heap.size none w w' → SlAt stRep P w' ao l) := Lib.hid (fun w' h => hx.keep (by decide) fun b _ hb => h.block b hb (by simp))
  have HN := Lib.hid hn
  have HBL := Lib.hid hb
  have HBS := Lib.hid hs
  have HT := Lib.hid ht
  have HCN := Lib.hid hc
  have HTS := Lib.hid hts
  have HQ := Lib.hid hq
  have HOK := Lib.hid hok
  have hpos : 0 < n := by have := HN.out; cases l with | nil => cases hq | cons _ _ => simp at this; omega
  clear hq hok
  obtain ⟨x, hx0⟩ : ∃ x : St × Sv × Sv, x = (s, ⟨none, 0, 0⟩, ⟨none, 0, 0⟩) := ⟨_, rfl⟩
  have HXS : Hid (x.1 = s) := Lib.hid (by rw [hx0])
  have HLX : Hid (∀ Q W, Lies Q W x) := Lib.hid (fun Q W => by rw [hx0]; exact HBS.out.lies _ _ _ _ Q W)
  rw [show stV (s, ⟨none, 0, 0⟩, ⟨none, 0, 0⟩) = stV x by rw [hx0]]
  clear hx hn hb hs ht hc hts hx0
  obtain ⟨ws, hws⟩ : ∃ ws : World, ws = (w.alloc (.cells (stV x).cells 33)).alloc (.cells #[.int .i64 0, .int .i64 0, .string ⟨#[]⟩, .int .i64 0, .int .i64 0, .int .i64 0, .int .i64 0, .int .i64 0, .slice none 0 0, .slice none 0 0, .string ⟨#[]⟩, .int .i64 0, .string ⟨#[]⟩] 33) := ⟨_, rfl⟩
  have HEs : Hid (Ex w.heap.size none w ws) := Lib.hid (by rw [hws]; exact (Ex.new w _).alloc (by simp) _)
  have hzs : ws.heap.size = w.heap.size + 1 + 1 := by rw [hws]; simp
  have HB1 : Hid (ws.heap[w.heap.size]? = some (.cells (stV x).cells 33 (0, 0))) := Lib.hid (by rw [hws]; exact heap_alloc2_old _ _ _)
  have HB2 : Hid (ws.heap[w.heap.size + 1]? = some (.cells #[.int .i64 0, .int .i64 0, .string ⟨#[]⟩, .int .i64 0, .int .i64 0, .int .i64 0, .int .i64 0, .int .i64 0, .slice none 0 0, .slice none 0 0, .string ⟨#[]⟩, .int .i64 0, .string ⟨#[]⟩] 33 (0, 0))) := Lib.hid (by rw [hws]; exact heap_alloc2_new _ _ _)
  have hn1 := stV_new w #[.int .i64 0, .int .i64 0, .string ⟨#[]⟩, .int .i64 0, .int .i64 0, .int .i64 0, .int .i64 0, .int .i64 0, .slice none 0 0, .slice none 0 0, .string ⟨#[]⟩, .int .i64 0, .string ⟨#[]⟩] x rfl
  go_enter Try.func8, Try.ntmps8
  go_upto_region 1 with (fail)
  refine wp_world (fun W => W = ws) (by rw [hws]; rfl) (fun W hW => ?_)
  rw [hW]
  clear hW W hws hn1
  go_upto_region 4 with (first
    | (go_at_call 11
       refine (countedP_any (P := P) a (.slice ao n cap) l ws ⟨ao, cap, by rw [HN.out], HX.out _ HEs.out⟩ (by rw [HN.out]; omega) (fun t ht => by rw [(HBL.out t ht).1, (HBL.out t ht).2]; exact ⟨Nat.zero_le _, Nat.zero_le _⟩)).mono ?_
       rintro e w1 ⟨ls, ro, m, rc, hls, rfl, hm', hown, hex⟩
       have hm2 : n = m := by
         have h1 := HCN.out ls hls
         have h2 := congrArg List.length h1
         rw [List.length_take] at h2
         have h3 := countN_le ls
         have h4 := HN.out
         omega
       subst hm2
       have HR : Hid (SlAt stRep (fun q => ws.heap.size ≤ q) w1 ro l) := Lib.hid (by have h := (OwnS.sl hown).at'; rw [HCN.out ls hls] at h; exact h)
       have HE1 : Hid (Ex ws.heap.size none ws w1) := Lib.hid hex
       clear hls hm' hown hex)
    | (go_at_call 15
       refine (equalFunc_same (P := P) (Q := fun q => ws.heap.size ≤ q) ao ro _ cap rc l w1 HN.out (HX.out _ (HEs.out.trans HE1.out (by omega) (by simp))) HR.out HBL.out (by omega)).mono ?_
       rintro e w2 ⟨rfl, hex⟩
       have HE2 : Hid (Ex ws.heap.size none ws w2) := Lib.hid (HE1.out.thenW hex)
       clear hex)
    | fail)
  have hz2 : ws.heap.size ≤ w2.heap.size := HE2.out.size
  have HQ2 : Hid (∀ w', Ex w2.heap.size none w2 w' → w'.heap[w.heap.size]? = some (.cells (stV x).cells 33 (0, 0)) ∧ w'.heap[w.heap.size + 1]? = some (.cells #[.int .i64 0, .int .i64 0, .string ⟨#[]⟩, .int .i64 0, .int .i64 0, .int .i64 0, .int .i64 0, .int .i64 0, .slice none 0 0, .slice none 0 0, .string ⟨#[]⟩, .int .i64 0, .string ⟨#[]⟩] 33 (0, 0))) := Lib.hid (fun w' h => by
    have h2 := HE2.out.thenW h
    exact ⟨(h2.block _ (by omega) (by simp)).trans HB1.out, (h2.block _ (by omega) (by simp)).trans HB2.out⟩)
  have r5 := stV_box (HQ2.out _ (Ex.refl _ _ w2)).1
  go_upto_region 5 with (first
    | (go_at_call 17
       refine (copied_v (P := fun _ => True) x w2 (HLX.out _ _) (by rw [HXS.out, HBS.out.1, HBS.out.2]; exact ⟨Nat.zero_le _, Nat.zero_le _⟩)).mono ?_
       rintro e w3 ⟨y, rfl, hy, hly, hex⟩
       have HYE : Hid (y.1 = s) := Lib.hid (hy.trans HXS.out)
       have HLY : Hid (∀ Q W, Lies Q W y) := Lib.hid (fun Q W => by
         have h1 := lies_len hly
         obtain ⟨t, ⟨la, na, ca⟩, ⟨pa, np, cp⟩⟩ := y
         obtain rfl : t = s := HYE.out
         obtain ⟨hb1, hb2⟩ : t.list = [] ∧ t.pins = [] := HBS.out
         simp only [hb1, hb2, List.length_nil] at h1
         obtain ⟨rfl, rfl⟩ := h1
         exact HBS.out.lies _ _ _ _ Q W)
       have HE3 : Hid (Ex w2.heap.size none w2 w3) := Lib.hid hex
       have hn3 := stV_new w3 #[.int .i64 0, .int .i64 0, .string ⟨#[]⟩, .int .i64 0, .int .i64 0, .int .i64 0, .int .i64 0, .int .i64 0, .slice none 0 0, .slice none 0 0, .string ⟨#[]⟩, .int .i64 0, .string ⟨#[]⟩] y rfl
       clear hy hly hex r5)
    | fail)
  refine wp_world (fun W => W = w3.alloc (.cells (stV y).cells 33)) rfl (fun w4 hw4 => ?_)
  have HE4 : Hid (Ex w2.heap.size none w2 w4) := Lib.hid (by rw [hw4]; exact HE3.out.alloc HE3.out.size _)
  have hz3 : w2.heap.size ≤ w3.heap.size := HE3.out.size
  have HB4 : Hid (w4.heap[w3.heap.size]? = some (.cells (stV y).cells 33 (0, 0))) := Lib.hid (by rw [hw4]; exact heap_alloc_new w3 _)
  have f0 : ∀ k, w4.frozen? ⟨w3.heap.size, k, none⟩ = false := fun k => by simp [World.frozen?, HB4.out]
  have d0 : w4.cell? ⟨w3.heap.size, 0, none⟩ = some (.int .i64 y.1.author) := by rw [cell_of_row _ _ _ _ _ _ HB4.out]; rfl
  have d1 : w4.cell? ⟨w3.heap.size, 1, none⟩ = some (.int .i64 y.1.number) := by rw [cell_of_row _ _ _ _ _ _ HB4.out]; rfl
  have d2 : w4.cell? ⟨w3.heap.size, 2, none⟩ = some (.string y.1.prev) := by rw [cell_of_row _ _ _ _ _ _ HB4.out]; rfl
  obtain ⟨g, hg⟩ : ∃ g, g = w3.heap.size := ⟨_, rfl⟩
  rw [← hg] at d0 d1 d2 f0 ⊢
  have HBG : Hid (w4.heap[g]? = some (.cells (stV y).cells 33 (0, 0))) := Lib.hid (by rw [hg]; exact HB4.out)
  have hgz : w2.heap.size ≤ g := by omega
  have hgz4 : g < w4.heap.size := (Array.getElem?_eq_some_iff.1 HBG.out).1
  clear hn3 hw4 hg HB4
  go_upto_region 6 with (fail)
  refine wp_world (fun W => W.heap[g]? = some (.cells (stV ({ y.1 with author := a, number := 0, prev := ⟨#[]⟩ }, y.2)).cells 33 (0, 0)) ∧ Ex g none w4 W) ⟨stv_set3 HBG.out a 0 ⟨#[]⟩, (((Ex.refl g none w4).setCell 0 none _ (.inr (Nat.le_refl _))).setCell 1 none _ (.inr (Nat.le_refl _))).setCell 2 none _ (.inr (Nat.le_refl _))⟩ (fun w5 hw5 => ?_)
  have HB5 : Hid (w5.heap[g]? = some (.cells (stV ({ y.1 with author := a, number := 0, prev := ⟨#[]⟩ }, y.2)).cells 33 (0, 0))) := Lib.hid hw5.1
  have HE5 : Hid (Ex w2.heap.size none w2 w5) := Lib.hid (HE4.out.trans (hw5.2.mono hgz) (by have := HE4.out.size; omega) (by simp))
  have hz5 : w4.heap.size ≤ w5.heap.size := hw5.2.size
  clear hw5 d0 d1 d2 f0
  have hgz5 : g < w5.heap.size := by omega
  obtain ⟨j, hj⟩ : ∃ j, n = j + 1 := ⟨n - 1, by omega⟩
  have HNJ := Lib.hid hj
  obtain ⟨b, off, z, hao, _, hbl, HZs, hlz, HLD⟩ := stv_get (HX.out w5 (HEs.out.trans (HE2.out.thenW HE5.out) (by omega) (by simp))) j (by rw [HN.out]; omega)
  have HZQ : Hid (z.1 = q) := Lib.hid (by
    have h1 := HQ.out
    rw [List.getLast?_eq_getElem?, HN.out, hj, Nat.add_sub_cancel, HZs.out] at h1
    exact Option.some.inj h1)
  have HLZ : Hid (∀ w', Ex w5.heap.size none w5 w' → Lies (fun _ => True) w' z) := Lib.hid (fun w' h => (hlz.keep fun q _ hq => h.block q hq (by simp)).mono fun _ _ _ => trivial)
  subst hao hj
  have hld := HLD.out w5 rfl
  have hn5 := stV_new w5 #[.int .i64 0, .int .i64 0, .string ⟨#[]⟩, .int .i64 0, .int .i64 0, .int .i64 0, .int .i64 0, .int .i64 0, .slice none 0 0, .slice none 0 0, .string ⟨#[]⟩, .int .i64 0, .string ⟨#[]⟩] z rfl
  have i1 : ((j + 1 : Nat) : Int) - 1 = (j : Int) := by omega
  have i2 : (0 : Int) < ((j + 1 : Nat) : Int) := by omega
  have i3 : (j : Int) < ((j + 1 : Nat) : Int) := by omega
  have i4 : IntKind.i64.wrap (((j + 1 : Nat) : Int) - 1) = (j : Int) := by simp [IntKind.wrap, IntKind.bits, IntKind.signed]; omega
  clear hlz
  go_upto_region 9 with (fail)
  refine wp_world (fun W => W = w5.alloc (.cells (stV z).cells 33)) rfl (fun w6 hw6 => ?_)
  have HE6 : Hid (Ex w5.heap.size none w5 w6) := Lib.hid (by rw [hw6]; exact Ex.new w5 _)
  have hz6 : w6.heap.size = w5.heap.size + 1 := by rw [hw6]; simp
  have HBZ : Hid (w6.heap[w5.heap.size]? = some (.cells (stV z).cells 33 (0, 0))) := Lib.hid (by rw [hw6]; exact heap_alloc_new w5 _)
  have HQ6 : Hid (w6.heap[w.heap.size]? = some (.cells (stV x).cells 33 (0, 0)) ∧ w6.heap[w.heap.size + 1]? = some (.cells #[.int .i64 0, .int .i64 0, .string ⟨#[]⟩, .int .i64 0, .int .i64 0, .int .i64 0, .int .i64 0, .int .i64 0, .slice none 0 0, .slice none 0 0, .string ⟨#[]⟩, .int .i64 0, .string ⟨#[]⟩] 33 (0, 0))) := Lib.hid (HQ2.out _ (HE5.out.thenW HE6.out))
  have t3 : w6.cell? ⟨w.heap.size, 3, none⟩ = some (.int .i64 s.time) := by rw [cell_of_row _ _ _ _ _ _ HQ6.out.1]; show some (Value.int .i64 x.1.time) = _; rw [HXS.out]
  have z3 : w6.cell? ⟨w5.heap.size, 3, none⟩ = some (.int .i64 q.time) := by rw [cell_of_row _ _ _ _ _ _ HBZ.out]; show some (Value.int .i64 z.1.time) = _; rw [HZQ.out]
  have z4 : w6.cell? ⟨w5.heap.size, 4, none⟩ = some (.int .i64 q.kind) := by rw [cell_of_row _ _ _ _ _ _ HBZ.out]; show some (Value.int .i64 z.1.kind) = _; rw [HZQ.out]
  clear hld hn5 hw6
  have hnl : ¬ s.time < q.time := by omega
  have rz := stV_box HBZ.out
  have HE56 : Hid (Ex w2.heap.size none w2 w6) := Lib.hid (HE5.out.thenW HE6.out)
  have HB6 : Hid (w6.heap[g]? = some (.cells (stV ({ y.1 with author := a, number := 0, prev := ⟨#[]⟩ }, y.2)).cells 33 (0, 0))) := Lib.hid ((HE6.out.block g hgz5 (by simp)).trans HB5.out)
  go_upto_region 14 with (first
    | (go_at_call 18
       refine (digest_v (P := fun _ => True) z w6 (HLZ.out _ HE6.out) (by rw [HZQ.out]; exact HT.out q (List.mem_of_getLast? HQ.out))).mono ?_
       rintro e w7 ⟨rfl, hex⟩
       rw [HZQ.out]
       have HE7 : Hid (Ex w2.heap.size none w2 w7) := Lib.hid (HE56.out.thenW hex)
       have HB7 : Hid (w7.heap[g]? = some (.cells (stV ({ y.1 with author := a, number := 0, prev := ⟨#[]⟩ }, y.2)).cells 33 (0, 0))) := Lib.hid ((hex.block g (by omega) (by simp)).trans HB6.out)
       have e1 : w7.cell? ⟨g, 1, none⟩ = some (.int .i64 0) := by rw [cell_of_row _ _ _ _ _ _ HB7.out]; rfl
       have e2 : w7.cell? ⟨g, 2, none⟩ = some (.string ⟨#[]⟩) := by rw [cell_of_row _ _ _ _ _ _ HB7.out]; rfl
       have f1 : ∀ k, w7.frozen? ⟨g, k, none⟩ = false := fun k => by simp [World.frozen?, HB7.out]
       clear hex t3 z3 z4 rz)
    | fail)
  obtain ⟨v, hv⟩ : ∃ v : St × Sv × Sv, v = ({ y.1 with author := a, number := ((j + 1 : Nat) : Int), prev := sha (stB q) }, y.2) := ⟨_, rfl⟩
  have HV : Hid (v.1 = nextQ a l s) := Lib.hid (by rw [hv]; unfold nextQ; rw [HYE.out, HN.out, HQ.out])
  have HVY : Hid (y.2.1 = v.2.1 ∧ y.2.2 = v.2.2) := Lib.hid (by rw [hv]; exact ⟨rfl, rfl⟩)
  have HPS : Hid ((nextQ a l s).prev.size ≤ 100000) := Lib.hid (by unfold nextQ; rw [HQ.out]; show (sha (stB q)).size ≤ _; rw [sha_size]; omega)
  refine wp_world (fun W => W.heap[g]? = some (.cells (stV v).cells 33 (0, 0)) ∧ Ex g none w7 W) ⟨by rw [hv]; exact stv_set2 HB7.out _ _, ((Ex.refl g none w7).setCell 1 none _ (.inr (Nat.le_refl _))).setCell 2 none _ (.inr (Nat.le_refl _))⟩ (fun w8 hw8 => ?_)
  have HB8 : Hid (w8.heap[g]? = some (.cells (stV v).cells 33 (0, 0))) := Lib.hid hw8.1
  have HE8 : Hid (Ex w2.heap.size none w2 w8) := Lib.hid (HE7.out.trans (hw8.2.mono hgz) (by have := HE7.out.size; omega) (by simp))
  clear hw8 e1 e2 f1 hv
  have HTQ : Hid (Tame (nextQ a l s)) := Lib.hid (bare_tame ⟨HBS.out.1, HBS.out.2⟩ HPS.out HTS.out.body)
  have HLU : Hid (∀ Q W, Lies Q W v) := Lib.hid (fun Q W => by
    have h := HLY.out Q W
    obtain ⟨t, hd, hp⟩ := v
    obtain ⟨t', hd', hp'⟩ := y
    obtain rfl : hd' = hd := HVY.out.1
    obtain rfl : hp' = hp := HVY.out.2
    obtain rfl : t = nextQ a l s := HV.out
    obtain rfl : t' = s := HYE.out
    exact h)
  have r8 := stV_box HB8.out
  have hg8 : g < w8.heap.size := (Array.getElem?_eq_some_iff.1 HB8.out).1
  go_upto_region 15 with (first
    | (go_at_call 19
       refine (sealP_v (P := fun _ => True) v w8 (HLU.out _ _) (by rw [HV.out]; exact HTQ.out)).mono ?_
       rintro e w9 ⟨u, rfl, hu, hlu, hex⟩
       have HU : Hid (u.1 = sealS (nextQ a l s)) := Lib.hid (by rw [hu, HV.out])
       have HLW : Hid (∀ Q W, Lies Q W u) := Lib.hid (fun Q W => by
         have h1 := lies_len hlu
         obtain ⟨t, ⟨la, na, ca⟩, ⟨pa, np, cp⟩⟩ := u
         obtain rfl : t = sealS (nextQ a l s) := HU.out
         have hbb : Bare (sealS (nextQ a l s)) := HBS.out
         obtain ⟨hb1, hb2⟩ : (sealS (nextQ a l s)).list = [] ∧ (sealS (nextQ a l s)).pins = [] := hbb
         simp only [hb1, hb2, List.length_nil] at h1
         obtain ⟨rfl, rfl⟩ := h1
         exact Bare.lies (s := sealS (nextQ a l s)) ⟨hb1, hb2⟩ _ _ _ _ Q W)
       have HB9 : Hid (w9.heap[g]? = some (.cells (stV v).cells 33 (0, 0))) := Lib.hid ((hex.block g hg8 (by simp)).trans HB8.out)
       have HE9 : Hid (Ex w2.heap.size none w2 w9) := Lib.hid (HE8.out.thenW hex)
       have hst := stv_store HB9.out rfl u
       clear hu hlu hex r8)
    | fail)
  refine wp_world (fun W => W = w9.setRow g (stV u).cells) rfl (fun w10 hw10 => ?_)
  have HB10 : Hid (w10.heap[g]? = some (.cells (stV u).cells 33 (0, 0))) := Lib.hid (by rw [hw10]; exact setRow_heap _ _ _ _ _ _ HB9.out)
  have HE10 : Hid (Ex w2.heap.size none w2 w10) := Lib.hid (by rw [hw10]; exact HE9.out.setRow _ _ (.inr hgz))
  have r10 := stV_box HB10.out
  have hg10 : g < w10.heap.size := (Array.getElem?_eq_some_iff.1 HB10.out).1
  clear hst hw10
  go_upto_region 18 with (first
    | (go_at_call 20
       refine (check_v (P := fun _ => True) u w10 (HLW.out _ _) (by rw [HU.out]; show s.list.length ≤ _ ∧ s.pins.length ≤ _; rw [HBS.out.1, HBS.out.2]; exact ⟨Nat.zero_le _, Nat.zero_le _⟩)).mono ?_
       rintro e w11 ⟨he, hex⟩
       rw [HU.out, HOK.out] at he
       subst he
       have HE11 : Hid (Ex w2.heap.size none w2 w11) := Lib.hid (HE10.out.thenW hex)
       have HB11 : Hid (w11.heap[g]? = some (.cells (stV u).cells 33 (0, 0))) := Lib.hid ((hex.block g hg10 (by simp)).trans HB10.out)
       clear hex r10)
    | fail)
  have r11 := stV_box HB11.out
  have HR11 : Hid (w11.heap[w.heap.size + 1]? = some (.cells #[.int .i64 0, .int .i64 0, .string ⟨#[]⟩, .int .i64 0, .int .i64 0, .int .i64 0, .int .i64 0, .int .i64 0, .slice none 0 0, .slice none 0 0, .string ⟨#[]⟩, .int .i64 0, .string ⟨#[]⟩] 33 (0, 0))) := Lib.hid (HQ2.out _ HE11.out).2
  have hst := stv_store HR11.out rfl u
  have HEF : Hid (Ex w.heap.size none w (w11.setRow (w.heap.size + 1) (stV u).cells)) := Lib.hid ((HEs.out.trans (HE2.out.thenW HE11.out) (by omega) (by simp)).setRow _ _ (.inr (by omega)))
  have r12 : (rowLoad 33 ⟨w.heap.size + 1, 0, none⟩).run Try.prog (w11.setRow (w.heap.size + 1) (stV u).cells) = .ok (stV u) (w11.setRow (w.heap.size + 1) (stV u).cells) := stV_box (setRow_heap _ _ _ _ _ _ HR11.out)
  go_wp2_with (fail)
  rename_i cs heq
  obtain rfl : cs = (stV u).cells := by rw [heq]; rfl
  refine bodyPost_ret (v := .tuple #[stV u, .int .i64 0]) (results_stv rfl _ _ (by rfl) (by rfl) r12) rfl ?_
  exact ⟨⟨u, rfl, HU.out, HLW.out⟩, HEF.out⟩
set_option maxHeartbeats 8000000 in
set_option maxRecDepth 100000 in
theorem nextP_first {P : Nat → Prop} (a : Int) (ao : Option Addr) (n cap : Nat) (l : List St) (s : St) (w : World) (hn : l.length = n) (hx : SlAt stRep P w ao l) (hb : ∀ t ∈ l, Bare t) (hs : Bare s) (hm : n ≤ 100000) (ht : ∀ t ∈ l, Tame t) (hts : Tame s)
    (hc : ∀ ls, LinksR a l ls → ls.take (countN ls) = l) (hl : l = []) (hok : checkI (sealS (nextQ a l s)) = 0) :
    Calls Try.prog 8 #[.int .i64 a, .slice ao n cap, stV (s, ⟨none, 0, 0⟩, ⟨none, 0, 0⟩)] w fun e w' => NextOK (sealS (nextQ a l s)) e ∧ Ex w.heap.size none w w' := by
  have HX : Hid (∀ w', Ex w.heap.size none w w' → SlAt stRep P w' ao l) := Lib.hid (fun w' h => hx.keep (by decide) fun b _ hb => h.block b hb (by simp))
  have HN := Lib.hid hn
  have HBL := Lib.hid hb
  have HBS := Lib.hid hs
  have HT := Lib.hid ht
  have HCN := Lib.hid hc
  have HTS := Lib.hid hts
  obtain rfl : n = 0 := by rw [← HN.out, hl]; rfl
  have HL0 := Lib.hid hl
  have HOK := Lib.hid hok
  clear hok hl
  obtain ⟨x, hx0⟩ : ∃ x : St × Sv × Sv, x = (s, ⟨none, 0, 0⟩, ⟨none, 0, 0⟩) := ⟨_, rfl⟩
  have HXS : Hid (x.1 = s) := Lib.hid (by rw [hx0])
  have HLX : Hid (∀ Q W, Lies Q W x) := Lib.hid (fun Q W => by rw [hx0]; exact HBS.out.lies _ _ _ _ Q W)
  rw [show stV (s, ⟨none, 0, 0⟩, ⟨none, 0, 0⟩) = stV x by rw [hx0]]
  clear hx hn hb hs ht hc hts hx0
  obtain ⟨ws, hws⟩ : ∃ ws : World, ws = (w.alloc (.cells (stV x).cells 33)).alloc (.cells #[.int .i64 0, .int .i64 0, .string ⟨#[]⟩, .int .i64 0, .int .i64 0, .int .i64 0, .int .i64 0, .int .i64 0, .slice none 0 0, .slice none 0 0, .string ⟨#[]⟩, .int .i64 0, .string ⟨#[]⟩] 33) := ⟨_, rfl⟩
  have HEs : Hid (Ex w.heap.size none w ws) := Lib.hid (by rw [hws]; exact (Ex.new w _).alloc (by simp) _)
  have hzs : ws.heap.size = w.heap.size + 1 + 1 := by rw [hws]; simp
  have HB1 : Hid (ws.heap[w.heap.size]? = some (.cells (stV x).cells 33 (0, 0))) := Lib.hid (by rw [hws]; exact heap_alloc2_old _ _ _)
  have HB2 : Hid (ws.heap[w.heap.size + 1]? = some (.cells #[.int .i64 0, .int .i64 0, .string ⟨#[]⟩, .int .i64 0, .int .i64 0, .int .i64 0, .int .i64 0, .int .i64 0, .slice none 0 0, .slice none 0 0, .string ⟨#[]⟩, .int .i64 0, .string ⟨#[]⟩] 33 (0, 0))) := Lib.hid (by rw [hws]; exact heap_alloc2_new _ _ _)
  have hn1 := stV_new w #[.int .i64 0, .int .i64 0, .string ⟨#[]⟩, .int .i64 0, .int .i64 0, .int .i64 0, .int .i64 0, .int .i64 0, .slice none 0 0, .slice none 0 0, .string ⟨#[]⟩, .int .i64 0, .string ⟨#[]⟩] x rfl
  go_enter Try.func8, Try.ntmps8
  go_upto_region 1 with (fail)
  refine wp_world (fun W => W = ws) (by rw [hws]; rfl) (fun W hW => ?_)
  rw [hW]
  clear hW W hws hn1
  go_upto_region 4 with (first
    | (go_at_call 11
       refine (countedP_any (P := P) a (.slice ao 0 cap) l ws ⟨ao, cap, by rw [HN.out], HX.out _ HEs.out⟩ (by rw [HN.out]; omega) (fun t ht => by rw [(HBL.out t ht).1, (HBL.out t ht).2]; exact ⟨Nat.zero_le _, Nat.zero_le _⟩)).mono ?_
       rintro e w1 ⟨ls, ro, m, rc, hls, rfl, hm', hown, hex⟩
       have hm2 : 0 = m := by
         have h1 := HCN.out ls hls
         have h2 := congrArg List.length h1
         rw [List.length_take] at h2
         have h3 := countN_le ls
         have h4 := HN.out
         omega
       subst hm2
       have HR : Hid (SlAt stRep (fun q => ws.heap.size ≤ q) w1 ro l) := Lib.hid (by have h := (OwnS.sl hown).at'; rw [HCN.out ls hls] at h; exact h)
       have HE1 : Hid (Ex ws.heap.size none ws w1) := Lib.hid hex
       clear hls hm' hown hex)
    | (go_at_call 15
       refine (equalFunc_same (P := P) (Q := fun q => ws.heap.size ≤ q) ao ro _ cap rc l w1 HN.out (HX.out _ (HEs.out.trans HE1.out (by omega) (by simp))) HR.out HBL.out (by omega)).mono ?_
       rintro e w2 ⟨rfl, hex⟩
       have HE2 : Hid (Ex ws.heap.size none ws w2) := Lib.hid (HE1.out.thenW hex)
       clear hex)
    | fail)
  have hz2 : ws.heap.size ≤ w2.heap.size := HE2.out.size
  have HQ2 : Hid (∀ w', Ex w2.heap.size none w2 w' → w'.heap[w.heap.size]? = some (.cells (stV x).cells 33 (0, 0)) ∧ w'.heap[w.heap.size + 1]? = some (.cells #[.int .i64 0, .int .i64 0, .string ⟨#[]⟩, .int .i64 0, .int .i64 0, .int .i64 0, .int .i64 0, .int .i64 0, .slice none 0 0, .slice none 0 0, .string ⟨#[]⟩, .int .i64 0, .string ⟨#[]⟩] 33 (0, 0))) := Lib.hid (fun w' h => by
    have h2 := HE2.out.thenW h
    exact ⟨(h2.block _ (by omega) (by simp)).trans HB1.out, (h2.block _ (by omega) (by simp)).trans HB2.out⟩)
  have r5 := stV_box (HQ2.out _ (Ex.refl _ _ w2)).1
  go_upto_region 5 with (first
    | (go_at_call 17
       refine (copied_v (P := fun _ => True) x w2 (HLX.out _ _) (by rw [HXS.out, HBS.out.1, HBS.out.2]; exact ⟨Nat.zero_le _, Nat.zero_le _⟩)).mono ?_
       rintro e w3 ⟨y, rfl, hy, hly, hex⟩
       have HYE : Hid (y.1 = s) := Lib.hid (hy.trans HXS.out)
       have HLY : Hid (∀ Q W, Lies Q W y) := Lib.hid (fun Q W => by
         have h1 := lies_len hly
         obtain ⟨t, ⟨la, na, ca⟩, ⟨pa, np, cp⟩⟩ := y
         obtain rfl : t = s := HYE.out
         obtain ⟨hb1, hb2⟩ : t.list = [] ∧ t.pins = [] := HBS.out
         simp only [hb1, hb2, List.length_nil] at h1
         obtain ⟨rfl, rfl⟩ := h1
         exact HBS.out.lies _ _ _ _ Q W)
       have HE3 : Hid (Ex w2.heap.size none w2 w3) := Lib.hid hex
       have hn3 := stV_new w3 #[.int .i64 0, .int .i64 0, .string ⟨#[]⟩, .int .i64 0, .int .i64 0, .int .i64 0, .int .i64 0, .int .i64 0, .slice none 0 0, .slice none 0 0, .string ⟨#[]⟩, .int .i64 0, .string ⟨#[]⟩] y rfl
       clear hy hly hex r5)
    | fail)
  refine wp_world (fun W => W = w3.alloc (.cells (stV y).cells 33)) rfl (fun w4 hw4 => ?_)
  have HE4 : Hid (Ex w2.heap.size none w2 w4) := Lib.hid (by rw [hw4]; exact HE3.out.alloc HE3.out.size _)
  have hz3 : w2.heap.size ≤ w3.heap.size := HE3.out.size
  have HB4 : Hid (w4.heap[w3.heap.size]? = some (.cells (stV y).cells 33 (0, 0))) := Lib.hid (by rw [hw4]; exact heap_alloc_new w3 _)
  have f0 : ∀ k, w4.frozen? ⟨w3.heap.size, k, none⟩ = false := fun k => by simp [World.frozen?, HB4.out]
  have d0 : w4.cell? ⟨w3.heap.size, 0, none⟩ = some (.int .i64 y.1.author) := by rw [cell_of_row _ _ _ _ _ _ HB4.out]; rfl
  have d1 : w4.cell? ⟨w3.heap.size, 1, none⟩ = some (.int .i64 y.1.number) := by rw [cell_of_row _ _ _ _ _ _ HB4.out]; rfl
  have d2 : w4.cell? ⟨w3.heap.size, 2, none⟩ = some (.string y.1.prev) := by rw [cell_of_row _ _ _ _ _ _ HB4.out]; rfl
  obtain ⟨g, hg⟩ : ∃ g, g = w3.heap.size := ⟨_, rfl⟩
  rw [← hg] at d0 d1 d2 f0 ⊢
  have HBG : Hid (w4.heap[g]? = some (.cells (stV y).cells 33 (0, 0))) := Lib.hid (by rw [hg]; exact HB4.out)
  have hgz : w2.heap.size ≤ g := by omega
  have hgz4 : g < w4.heap.size := (Array.getElem?_eq_some_iff.1 HBG.out).1
  clear hn3 hw4 hg HB4
  go_upto_region 6 with (fail)
  refine wp_world (fun W => W.heap[g]? = some (.cells (stV ({ y.1 with author := a, number := 0, prev := ⟨#[]⟩ }, y.2)).cells 33 (0, 0)) ∧ Ex g none w4 W) ⟨stv_set3 HBG.out a 0 ⟨#[]⟩, (((Ex.refl g none w4).setCell 0 none _ (.inr (Nat.le_refl _))).setCell 1 none _ (.inr (Nat.le_refl _))).setCell 2 none _ (.inr (Nat.le_refl _))⟩ (fun w5 hw5 => ?_)
  have HB5 : Hid (w5.heap[g]? = some (.cells (stV ({ y.1 with author := a, number := 0, prev := ⟨#[]⟩ }, y.2)).cells 33 (0, 0))) := Lib.hid hw5.1
  have HE5 : Hid (Ex w2.heap.size none w2 w5) := Lib.hid (HE4.out.trans (hw5.2.mono hgz) (by have := HE4.out.size; omega) (by simp))
  have hz5 : w4.heap.size ≤ w5.heap.size := hw5.2.size
  clear hw5 d0 d1 d2 f0
  have hgz5 : g < w5.heap.size := by omega
  obtain ⟨v, hv⟩ : ∃ v : St × Sv × Sv, v = ({ y.1 with author := a, number := 0, prev := ⟨#[]⟩ }, y.2) := ⟨_, rfl⟩
  have HV : Hid (v.1 = nextQ a l s) := Lib.hid (by rw [hv]; unfold nextQ; rw [HYE.out, HL0.out]; rfl)
  have HVY : Hid (y.2.1 = v.2.1 ∧ y.2.2 = v.2.2) := Lib.hid (by rw [hv]; exact ⟨rfl, rfl⟩)
  have HPS : Hid ((nextQ a l s).prev.size ≤ 100000) := Lib.hid (by unfold nextQ; rw [HL0.out]; exact Nat.zero_le _)
  obtain ⟨w8, hw8⟩ : ∃ w8, w8 = w5 := ⟨_, rfl⟩
  have HB8 : Hid (w8.heap[g]? = some (.cells (stV v).cells 33 (0, 0))) := Lib.hid (by rw [hw8, hv]; exact HB5.out)
  have HE8 : Hid (Ex w2.heap.size none w2 w8) := Lib.hid (by rw [hw8]; exact HE5.out)
  rw [← hw8]
  clear hw8 hv
  go_upto_region 14 with (fail)
  have HTQ : Hid (Tame (nextQ a l s)) := Lib.hid (bare_tame ⟨HBS.out.1, HBS.out.2⟩ HPS.out HTS.out.body)
  have HLU : Hid (∀ Q W, Lies Q W v) := Lib.hid (fun Q W => by
    have h := HLY.out Q W
    obtain ⟨t, hd, hp⟩ := v
    obtain ⟨t', hd', hp'⟩ := y
    obtain rfl : hd' = hd := HVY.out.1
    obtain rfl : hp' = hp := HVY.out.2
    obtain rfl : t = nextQ a l s := HV.out
    obtain rfl : t' = s := HYE.out
    exact h)
  have r8 := stV_box HB8.out
  have hg8 : g < w8.heap.size := (Array.getElem?_eq_some_iff.1 HB8.out).1
  go_upto_region 15 with (first
    | (go_at_call 19
       refine (sealP_v (P := fun _ => True) v w8 (HLU.out _ _) (by rw [HV.out]; exact HTQ.out)).mono ?_
       rintro e w9 ⟨u, rfl, hu, hlu, hex⟩
       have HU : Hid (u.1 = sealS (nextQ a l s)) := Lib.hid (by rw [hu, HV.out])
       have HLW : Hid (∀ Q W, Lies Q W u) := Lib.hid (fun Q W => by
         have h1 := lies_len hlu
         obtain ⟨t, ⟨la, na, ca⟩, ⟨pa, np, cp⟩⟩ := u
         obtain rfl : t = sealS (nextQ a l s) := HU.out
         have hbb : Bare (sealS (nextQ a l s)) := HBS.out
         obtain ⟨hb1, hb2⟩ : (sealS (nextQ a l s)).list = [] ∧ (sealS (nextQ a l s)).pins = [] := hbb
         simp only [hb1, hb2, List.length_nil] at h1
         obtain ⟨rfl, rfl⟩ := h1
         exact Bare.lies (s := sealS (nextQ a l s)) ⟨hb1, hb2⟩ _ _ _ _ Q W)
       have HB9 : Hid (w9.heap[g]? = some (.cells (stV v).cells 33 (0, 0))) := Lib.hid ((hex.block g hg8 (by simp)).trans HB8.out)
       have HE9 : Hid (Ex w2.heap.size none w2 w9) := Lib.hid (HE8.out.thenW hex)
       have hst := stv_store HB9.out rfl u
       clear hu hlu hex r8)
    | fail)
  refine wp_world (fun W => W = w9.setRow g (stV u).cells) rfl (fun w10 hw10 => ?_)
  have HB10 : Hid (w10.heap[g]? = some (.cells (stV u).cells 33 (0, 0))) := Lib.hid (by rw [hw10]; exact setRow_heap _ _ _ _ _ _ HB9.out)
  have HE10 : Hid (Ex w2.heap.size none w2 w10) := Lib.hid (by rw [hw10]; exact HE9.out.setRow _ _ (.inr hgz))
  have r10 := stV_box HB10.out
  have hg10 : g < w10.heap.size := (Array.getElem?_eq_some_iff.1 HB10.out).1
  clear hst hw10
  go_upto_region 18 with (first
    | (go_at_call 20
       refine (check_v (P := fun _ => True) u w10 (HLW.out _ _) (by rw [HU.out]; show s.list.length ≤ _ ∧ s.pins.length ≤ _; rw [HBS.out.1, HBS.out.2]; exact ⟨Nat.zero_le _, Nat.zero_le _⟩)).mono ?_
       rintro e w11 ⟨he, hex⟩
       rw [HU.out, HOK.out] at he
       subst he
       have HE11 : Hid (Ex w2.heap.size none w2 w11) := Lib.hid (HE10.out.thenW hex)
       have HB11 : Hid (w11.heap[g]? = some (.cells (stV u).cells 33 (0, 0))) := Lib.hid ((hex.block g hg10 (by simp)).trans HB10.out)
       clear hex r10)
    | fail)
  have r11 := stV_box HB11.out
  have HR11 : Hid (w11.heap[w.heap.size + 1]? = some (.cells #[.int .i64 0, .int .i64 0, .string ⟨#[]⟩, .int .i64 0, .int .i64 0, .int .i64 0, .int .i64 0, .int .i64 0, .slice none 0 0, .slice none 0 0, .string ⟨#[]⟩, .int .i64 0, .string ⟨#[]⟩] 33 (0, 0))) := Lib.hid (HQ2.out _ HE11.out).2
  have hst := stv_store HR11.out rfl u
  have HEF : Hid (Ex w.heap.size none w (w11.setRow (w.heap.size + 1) (stV u).cells)) := Lib.hid ((HEs.out.trans (HE2.out.thenW HE11.out) (by omega) (by simp)).setRow _ _ (.inr (by omega)))
  have r12 : (rowLoad 33 ⟨w.heap.size + 1, 0, none⟩).run Try.prog (w11.setRow (w.heap.size + 1) (stV u).cells) = .ok (stV u) (w11.setRow (w.heap.size + 1) (stV u).cells) := stV_box (setRow_heap _ _ _ _ _ _ HR11.out)
  go_wp2_with (fail)
  rename_i cs heq
  obtain rfl : cs = (stV u).cells := by rw [heq]; rfl
  refine bodyPost_ret (v := .tuple #[stV u, .int .i64 0]) (results_stv rfl _ _ (by rfl) (by rfl) r12) rfl ?_
  exact ⟨⟨u, rfl, HU.out, HLW.out⟩, HEF.out⟩
end Go.Proofs.Ytaakacahblndcaa

namespace Go.Proofs.Ytaakacahblndcaa
open Go.RowKit Go.Sort

def s0 (t ki : Int) : St := ⟨0, 0, ⟨#[]⟩, t, ki, 0, 0, 0, [], [], ⟨#[]⟩, 0, ⟨#[]⟩⟩
theorem s0_bare (t ki : Int) : Bare (s0 t ki) := ⟨rfl, rfl⟩
def kS (nu : Nat) (p : ByteArray) (t ki : Nat) (d : List UInt32) : St := ⟨((3 : Nat) : Int), (nu : Int), p, (t : Int), (ki : Int), ((0 : Nat) : Int), 0, 0, [], [], ⟨#[]⟩, ((3 : Nat) : Int), dgW d⟩
def dA : List UInt32 := [398470928, 2820880975, 2975375528, 1636441015, 3873459146, 3350983748, 1453695386, 3015699805]
def dB : List UInt32 := [285593936, 2831460344, 3029975512, 1930731529, 3447627283, 3498393796, 3643548470, 3048965758]
def dC : List UInt32 := [1086786364, 532737826, 3567476603, 1361421720, 1333259665, 1692910612, 1773923308, 600622428]
def dX : List UInt32 := [2107279930, 2377001245, 2211019686, 2535610523, 3862893131, 3515355626, 709880046, 1268272044]
def kA : St := kS 0 ⟨#[]⟩ 0 10 dA
def kB : St := kS 1 (dgW dA) 4 10 dB
def kC : St := kS 2 (dgW dB) 5 10 dC
def kX : St := kS 2 (dgW dB) 5 11 dX
theorem shaKA : sha (stB kA) = dgW dA := shaOf2 (by decide) (by kernel_rfl : stN2 3 0 0 10 0 0 0 lk8 = [398470928, 2820880975, 2975375528, 1636441015, 3873459146, 3350983748, 1453695386, 3015699805])
theorem shaKB : sha (stB kB) = dgW dB := shaOf3 (by decide) (by kernel_rfl : stN3 3 1 (398470928 : UInt32).toNat (2820880975 : UInt32).toNat (2975375528 : UInt32).toNat (1636441015 : UInt32).toNat (3873459146 : UInt32).toNat (3350983748 : UInt32).toNat (1453695386 : UInt32).toNat (3015699805 : UInt32).toNat 4 10 0 0 0 lk8 = [285593936, 2831460344, 3029975512, 1930731529, 3447627283, 3498393796, 3643548470, 3048965758])
theorem shaKC : sha (stB kC) = dgW dC := shaOf3 (by decide) (by kernel_rfl : stN3 3 2 (285593936 : UInt32).toNat (2831460344 : UInt32).toNat (3029975512 : UInt32).toNat (1930731529 : UInt32).toNat (3447627283 : UInt32).toNat (3498393796 : UInt32).toNat (3643548470 : UInt32).toNat (3048965758 : UInt32).toNat 5 10 0 0 0 lk8 = [1086786364, 532737826, 3567476603, 1361421720, 1333259665, 1692910612, 1773923308, 600622428])
theorem shaKX : sha (stB kX) = dgW dX := shaOf3 (by decide) (by kernel_rfl : stN3 3 2 (285593936 : UInt32).toNat (2831460344 : UInt32).toNat (3029975512 : UInt32).toNat (1930731529 : UInt32).toNat (3447627283 : UInt32).toNat (3498393796 : UInt32).toNat (3643548470 : UInt32).toNat (3048965758 : UInt32).toNat 5 11 0 0 0 lk8 = [2107279930, 2377001245, 2211019686, 2535610523, 3862893131, 3515355626, 709880046, 1268272044])
theorem kS_sealed {nu : Nat} {p : ByteArray} {t ki : Nat} {d : List UInt32} (h : sha (stB (kS nu p t ki d)) = dgW d) : sealedB (kS nu p t ki d) = true := by
  unfold sealedB; rw [h]; simp [kS]
theorem kS_next {nu : Nat} {p : ByteArray} {t ki : Nat} {d : List UInt32} {l : List St} (h : sha (stB (kS nu p t ki d)) = dgW d) (hn : l.length = nu) (hp : (match l.getLast? with | none => (⟨#[]⟩ : ByteArray) | some q => sha (stB q)) = p) : sealS (nextQ 3 l (s0 t ki)) = kS nu p t ki d := by
  subst hn hp
  have e : stB (nextQ 3 l (s0 t ki)) = stB (kS l.length (match l.getLast? with | none => (⟨#[]⟩ : ByteArray) | some q => sha (stB q)) t ki d) := rfl
  unfold sealS
  rw [e, h]
  rfl
theorem nxA : sealS (nextQ 3 [] (s0 0 10)) = kA := kS_next shaKA rfl rfl
theorem nxB : sealS (nextQ 3 [kA] (s0 4 10)) = kB := kS_next shaKB rfl shaKA
theorem nxC : sealS (nextQ 3 [kA, kB] (s0 5 10)) = kC := kS_next shaKC rfl shaKB
theorem nxX : sealS (nextQ 3 [kA, kB] (s0 5 11)) = kX := kS_next shaKX rfl shaKB
theorem kA_ok : okB 3 kA = true := okB_iff.2 ⟨rfl, plain_check (by decide) (by decide) (fun _ => rfl) (fun h => absurd h (by decide)) (by decide) (by decide) (by decide), kS_sealed shaKA⟩
theorem kB_ok : okB 3 kB = true := okB_iff.2 ⟨rfl, plain_check (by decide) (by decide) (fun h => absurd h (by decide)) (fun _ => dgW_size _ rfl) (by decide) (by decide) (by decide), kS_sealed shaKB⟩
theorem kC_ok : okB 3 kC = true := okB_iff.2 ⟨rfl, plain_check (by decide) (by decide) (fun h => absurd h (by decide)) (fun _ => dgW_size _ rfl) (by decide) (by decide) (by decide), kS_sealed shaKC⟩
theorem kX_ok : okB 3 kX = true := okB_iff.2 ⟨rfl, plain_check (by decide) (by decide) (fun h => absurd h (by decide)) (fun _ => dgW_size _ rfl) (by decide) (by decide) (by decide), kS_sealed shaKX⟩
theorem dAB : kA.dig ≠ kB.dig := fun h => absurd (dgW_head h) (by decide)
theorem dBC : kB.dig ≠ kC.dig := fun h => absurd (dgW_head h) (by decide)
theorem dUV : kC.dig ≠ kX.dig := fun h => absurd (dgW_head h) (by decide)
theorem fAB : followsL kA kB = true := followsL_iff.2 ⟨rfl, rfl, rfl, by decide⟩
theorem kA_num : NumL 3 [kA] := (NumL.nil 3).snoc (x := kA) kA_ok rfl (by simp)
theorem kA_fol : FolL [kA] := FolL.nil.snoc (x := kA) (by simp)
theorem kAB_num : NumL 3 [kA, kB] := kA_num.snoc (x := kB) kB_ok rfl (fun s hs => by cases hs; exact dAB)
theorem kAB_fol : FolL [kA, kB] := kA_fol.snoc (x := kB) (fun s hs => by cases hs; exact ⟨fAB, by decide⟩)
theorem ltAB : ltNDs kA kB = true := by decide +kernel
theorem ltUV : ltNDs kC kX = true := by decide +kernel
theorem ltAU : ltNDs kA kC = true ∧ ltNDs kA kX = true ∧ ltNDs kB kC = true ∧ ltNDs kB kX = true := by decide +kernel
theorem geAll : ltNDs kB kA = false ∧ ltNDs kC kA = false ∧ ltNDs kX kA = false ∧ ltNDs kC kB = false ∧ ltNDs kX kB = false ∧ ltNDs kX kC = false := by decide +kernel
theorem four_links {ls : List St} (h : LinksR 3 [kX, kB, kA, kC] ls) : ls = [kA, kB, kC, kX] := by
  obtain ⟨d, hp, hsd, rfl⟩ := h
  have hall : ∀ s ∈ [kX, kB, kA, kC], okB 3 s = true := fun s hs => by
    simp only [List.mem_cons, List.not_mem_nil, or_false] at hs
    rcases hs with rfl | rfl | rfl | rfl
    · exact kX_ok
    · exact kB_ok
    · exact kA_ok
    · exact kC_ok
  rw [List.filter_eq_self.2 hall] at hp
  have hp4 : d.Perm [kA, kB, kC, kX] := hp.trans ((List.perm_append_comm (l₁ := [kX]) (l₂ := [kB, kA, kC])).trans (List.Perm.swap kA kB [kC, kX]))
  obtain ⟨g1, g2, g3, g4, g5, g6⟩ := geAll
  obtain ⟨l1, l2, l3, l4⟩ := ltAU
  have hd : d = [kA, kB, kC, kX] := by
    refine List.Perm.eq_of_pairwise (le := fun x y => ltNDs y x = false) (fun x y hx hy h1 h2 => ?_) ?_ ?_ hp4
    · have hx4 := hp4.subset hx
      simp only [List.mem_cons, List.not_mem_nil, or_false] at hx4 hy
      have ha := ltAB
      have hu := ltUV
      rcases hx4 with rfl | rfl | rfl | rfl <;> rcases hy with rfl | rfl | rfl | rfl <;> first | rfl | (rw [ha] at h1; cases h1) | (rw [ha] at h2; cases h2) | (rw [hu] at h1; cases h1) | (rw [hu] at h2; cases h2) | (rw [l1] at h1; cases h1) | (rw [l1] at h2; cases h2) | (rw [l2] at h1; cases h1) | (rw [l2] at h2; cases h2) | (rw [l3] at h1; cases h1) | (rw [l3] at h2; cases h2) | (rw [l4] at h1; cases h1) | (rw [l4] at h2; cases h2)
    · rw [List.pairwise_iff_getElem]
      intro i j hi hj hij
      exact hsd i j _ _ hij (List.getElem?_eq_getElem hi) (List.getElem?_eq_getElem hj)
    · refine List.Pairwise.cons (fun z hz => ?_) (List.Pairwise.cons (fun z hz => ?_) (List.Pairwise.cons (fun z hz => ?_) (List.pairwise_singleton _ _)))
      · simp only [List.mem_cons, List.not_mem_nil, or_false] at hz
        rcases hz with rfl | rfl | rfl
        · exact g1
        · exact g2
        · exact g3
      · simp only [List.mem_cons, List.not_mem_nil, or_false] at hz
        rcases hz with rfl | rfl
        · exact g4
        · exact g5
      · simp only [List.mem_cons, List.not_mem_nil, or_false] at hz
        subst hz
        exact g6
  rw [hd]
  unfold cptL
  rw [cpt_all (fun j hj => stays_dist hj fun s t hs ht h0 => ?_) (by simp)]
  · rfl
  · have hj4 : j < 4 := hj
    rcases (by omega : j = 1 ∨ j = 2 ∨ j = 3) with rfl | rfl | rfl
    · cases hs; cases ht; exact dAB
    · cases hs; cases ht; exact dBC
    · cases hs; cases ht; exact dUV
theorem four_count : countN [kA, kB, kC, kX] = 2 := by decide +kernel
theorem four_fork : forkF [kA, kB, kC, kX] = some (kC, kX) := rfl
theorem four_branch : branchS [kA, kB, kC, kX] kC.dig = some [kA, kB, kC] := by kernel_rfl
end Go.Proofs.Ytaakacahblndcaa

namespace Go.Proofs.Ytaakacahblndcaa
open Go.RowKit Go.Sort

theorem lit_slN {P : Nat → Prop} {w : World} {g : Nat} {xs : List (St × Sv × Sv)} {t : TypeId} {fr : Nat × Nat} (hP : P g) (h : w.heap[g]? = some (.cells (flatL stE xs).toArray t fr)) (hl : ∀ x ∈ xs, Lies P w x) : SlAt stRep P w (some ⟨g, 0, none⟩) (xs.map (·.1)) := fun i hi => by
  have hi' : i < xs.length := by simpa using hi
  refine ⟨g, 0, stE xs[i], rfl, hP, fun j v hj => ?_, xs[i].2.1, xs[i].2.2, by simp, by simpa using hl _ (List.getElem_mem hi')⟩
  rw [cell_of_row _ _ _ _ _ _ h]
  have hl := (List.getElem?_eq_some_iff.1 hj).1
  rw [stE_len] at hl
  show (flatL stE xs).toArray[0 + i * 13 + j]? = some v
  rw [List.getElem?_toArray, Nat.zero_add, flatL_get stE_len xs i j hi' hl]
  exact hj
theorem stV_litN1 (w : World) (x : St × Sv × Sv) : (rowBuild 27 1 #[(0, stV x)]).run Try.prog w = .ok (.slice (some ⟨w.heap.size, 0, none⟩) 1 1) (w.alloc (.cells (flatL stE [x]).toArray 33)) := by
  obtain ⟨i0, hi, hz0, hz1, hz2⟩ := info_parts Try.infoSt
  refine run_buildSlice w 27 33 1 _ (flatL stE [x]).toArray i0 _ Try.underlying27 hi hz0 (by rw [hz1]; omega) (by rw [hz1]; omega) ?_
  rw [hz1]
  kernel_rfl
theorem stV_litN2 (w : World) (x y : St × Sv × Sv) : (rowBuild 27 2 #[(0, stV x), (1, stV y)]).run Try.prog w = .ok (.slice (some ⟨w.heap.size, 0, none⟩) 2 2) (w.alloc (.cells (flatL stE [x, y]).toArray 33)) := by
  obtain ⟨i0, hi, hz0, hz1, hz2⟩ := info_parts Try.infoSt
  refine run_buildSlice w 27 33 2 _ (flatL stE [x, y]).toArray i0 _ Try.underlying27 hi hz0 (by rw [hz1]; omega) (by rw [hz1]; omega) ?_
  rw [hz1]
  kernel_rfl
theorem stV_litN4 (w : World) (x y z u : St × Sv × Sv) : (rowBuild 27 4 #[(0, stV x), (1, stV y), (2, stV z), (3, stV u)]).run Try.prog w = .ok (.slice (some ⟨w.heap.size, 0, none⟩) 4 4) (w.alloc (.cells (flatL stE [x, y, z, u]).toArray 33)) := by
  obtain ⟨i0, hi, hz0, hz1, hz2⟩ := info_parts Try.infoSt
  refine run_buildSlice w 27 33 4 _ (flatL stE [x, y, z, u]).toArray i0 _ Try.underlying27 hi hz0 (by rw [hz1]; omega) (by rw [hz1]; omega) ?_
  rw [hz1]
  kernel_rfl
end Go.Proofs.Ytaakacahblndcaa

namespace Go.Proofs.Ytaakacahblndcaa
open Go.RowKit Go.Sort

/-- A statement with whatever digest beside it, as a link. -/
def linkW (x : St × Sv × Sv) (d : ByteArray) : Value := .agg (stE x ++ [Value.string d]).toArray
theorem linkW_own (x : St × Sv × Sv) : linkW x x.1.dig = linkV x := rfl
/-- A link out of its parts, as a word that the walk does not open. -/
def makeL (t : TypeId) (ps : Array (Nat × Value)) : Sem Value := Instr.build t ps
theorem make_word (ps : Array (Nat × Value)) : Instr.build 56 ps = makeL 56 ps := rfl
set_option maxRecDepth 100000 in
theorem make_two (w : World) (x : St × Sv × Sv) (d : ByteArray) : (makeL 56 #[(0, stV x), (1, .string d)]).run Try.prog w = .ok (linkW x d) w := run_build w _ _ _ (by kernel_rfl)
set_option maxRecDepth 100000 in
theorem make_one (w : World) (x : St × Sv × Sv) : (makeL 56 #[(0, stV x)]).run Try.prog w = .ok (linkW x ⟨#[]⟩) w := run_build w _ _ _ (by kernel_rfl)
theorem linkW_cells5 {w : World} {g : Nat} {x : St × Sv × Sv} {d : ByteArray} {t : TypeId} {fr : Nat × Nat} (h : w.heap[g]? = some (.cells (linkW x d).cells t fr)) : w.cell? ⟨g, 0, none⟩ = some (.int .i64 x.1.author) ∧ w.cell? ⟨g, 1, none⟩ = some (.int .i64 x.1.number) ∧ w.cell? ⟨g, 2, none⟩ = some (.string x.1.prev) ∧ w.cell? ⟨g, 3, none⟩ = some (.int .i64 x.1.time) := by
  refine ⟨?_, ?_, ?_, ?_⟩ <;> (rw [cell_of_row _ _ _ _ _ _ h]; rfl)
set_option maxHeartbeats 4000000 in
set_option maxRecDepth 100000 in
theorem follows_w (x y : St × Sv × Sv) (d : ByteArray) (w : World) (hx : 0 ≤ x.1.number) (hy : y.1.number ≤ 1000000) (hf : followsL x.1 y.1 = true) :
    Calls Try.prog 24 #[linkV x, linkW y d] w fun e w' => e = .returned (.bool true) ∧ Ex w.heap.size none w w' := by
  obtain ⟨s, hs⟩ : ∃ s, s = x.1 := ⟨_, rfl⟩
  obtain ⟨t, ht⟩ : ∃ t, t = y.1 := ⟨_, rfl⟩
  obtain ⟨ws, hws⟩ : ∃ ws : World, ws = (w.alloc (.cells (linkV x).cells 56)).alloc (.cells (linkW y d).cells 56) := ⟨_, rfl⟩
  have HEs : Hid (Ex w.heap.size none w ws) := Lib.hid (by rw [hws]; exact (Ex.new w _).alloc (by simp) _)
  have h2 : ws.heap[w.heap.size + 1]? = some (.cells (linkW y d).cells 56 (0, 0)) := by
    rw [hws]
    have := heap_alloc_new (w.alloc (.cells (linkV x).cells 56)) (.cells (linkW y d).cells 56)
    rwa [World.size_alloc] at this
  have h1 : ws.heap[w.heap.size]? = some (.cells (linkV x).cells 56 (0, 0)) := by
    rw [hws]
    exact ((Ex.new (w.alloc (.cells (linkV x).cells 56)) _).block w.heap.size (by simp) (by simp)).trans (heap_alloc_new w _)
  obtain ⟨a0, a1, a2, a3, a13⟩ := linkV_cells5 h1
  obtain ⟨b0, b1, b2, b3⟩ := linkW_cells5 h2
  rw [← hs] at a0 a1 a2 a3 a13 hx hf
  rw [← ht] at b0 b1 b2 b3 hy hf
  obtain ⟨f1, f2, f3, f4⟩ := followsL_iff.1 hf
  clear h1 h2 hs ht
  have k1 : (t.author == s.author) = true := by simpa using f1
  have k2 : decide (s.number < t.number) = true := decide_eq_true (by omega)
  have kw : IntKind.i64.wrap (t.number - 1) = t.number - 1 := by rw [IntKind.wrap_i64]; omega
  have k3 : (t.number - 1 == s.number) = true := by simp; omega
  have k4 : (t.prev.toList == s.dig.toList) = true := by rw [toListB]; exact decide_eq_true f3
  have k5 : decide (s.time ≤ t.time) = true := decide_eq_true f4
  clear f1 f2 f3 f4 hf
  go_enter Try.func24, Try.ntmps24
  go_upto_region 1 with (fail)
  refine wp_world (fun W => W = ws) (by rw [hws]; rfl) (fun W hW => ?_)
  rw [hW]
  clear hW W hws
  go_wp2
  go_ret
  exact ⟨rfl, HEs.out⟩
attribute [local go_sem ↓] rowLoad_stv rowStore_stv
attribute [local go_sem ↓ high] make_word
set_option maxHeartbeats 4000000 in
set_option maxRecDepth 100000 in
theorem followsP_v {P : Nat → Prop} (x y : St × Sv × Sv) (w : World) (hlx : Lies P w x) (ht : Tame x.1) (hd : x.1.dig = sha (stB x.1)) (hx : 0 ≤ x.1.number) (hy : y.1.number ≤ 1000000) (hf : followsL x.1 y.1 = true) :
    Calls Try.prog 14 #[stV x, stV y] w fun e w' => e = .returned (.bool true) ∧ Ex w.heap.size none w w' := by
  have hn1 := stV_new w #[.int .i64 0, .int .i64 0, .string ⟨#[]⟩, .int .i64 0, .int .i64 0, .int .i64 0, .int .i64 0, .int .i64 0, .slice none 0 0, .slice none 0 0, .string ⟨#[]⟩, .int .i64 0, .string ⟨#[]⟩] x rfl
  have hn2 := stV_new (w.alloc (.cells (stV x).cells 33)) #[.int .i64 0, .int .i64 0, .string ⟨#[]⟩, .int .i64 0, .int .i64 0, .int .i64 0, .int .i64 0, .int .i64 0, .slice none 0 0, .slice none 0 0, .string ⟨#[]⟩, .int .i64 0, .string ⟨#[]⟩] y rfl
  go_enter Try.func14, Try.ntmps14
  go_upto_region 1 with (fail)
  refine wp_world (fun W => W = (w.alloc (.cells (stV x).cells 33)).alloc (.cells (stV y).cells 33)) rfl (fun w2 hw2 => ?_)
  have HB1 : Hid (w2.heap[w.heap.size]? = some (.cells (stV x).cells 33 (0, 0))) := Lib.hid (by rw [hw2]; exact heap_alloc2_old _ _ _)
  have HB2 : Hid (w2.heap[w.heap.size + 1]? = some (.cells (stV y).cells 33 (0, 0))) := Lib.hid (by rw [hw2]; exact heap_alloc2_new _ _ _)
  have HE2 : Hid (Ex w.heap.size none w w2) := Lib.hid (by rw [hw2]; exact (Ex.new w _).alloc (by simp) _)
  have hz2 : w2.heap.size = w.heap.size + 2 := by rw [hw2]; simp
  have HQ : Hid (∀ w', Ex w2.heap.size none w2 w' → (rowLoad 33 ⟨w.heap.size, 0, none⟩).run Try.prog w' = .ok (stV x) w' ∧ (rowLoad 33 ⟨w.heap.size + 1, 0, none⟩).run Try.prog w' = .ok (stV y) w') := Lib.hid (fun w' h =>
    ⟨stV_box ((h.block _ (by omega) (by simp)).trans HB1.out), stV_box ((h.block _ (by omega) (by simp)).trans HB2.out)⟩)
  have HLX : Hid (∀ w', Ex w2.heap.size none w2 w' → Lies P w' x) := Lib.hid (fun w' h => hlx.keep fun b _ hb => (h.block b (by omega) (by simp)).trans (HE2.out.block b hb (by simp)))
  have HT := Lib.hid ht
  have HD := Lib.hid hd
  have HF := Lib.hid hf
  have m2 := fun (w : World) => make_two w x x.1.dig
  have m1 := fun (w : World) => make_one w y
  rw [linkW_own] at m2
  clear hn1 hn2 hw2 hlx ht hd hf
  go_region_held3 (fun w' => (rowLoad 33 ⟨w.heap.size, 0, none⟩).run Try.prog w' = .ok (stV x) w' ∧ (rowLoad 33 ⟨w.heap.size + 1, 0, none⟩).run Try.prog w' = .ok (stV y) w') (exact HQ.out _ (by repeat (first | with_reducible exact HE5.out | with_reducible exact HE4.out | with_reducible exact Ex.refl _ _ _ | with_reducible refine Ex.drew ?_)))
    (first
      | (go_at_call 18
         refine (digest_v (P := P) x _ (HLX.out _ (by repeat (first | with_reducible exact Ex.refl _ _ _ | with_reducible refine Ex.drew ?_))) HT.out).mono ?_
         rintro e w4 ⟨rfl, hex⟩
         rw [← HD.out]
         have HE4 : Hid (Ex w2.heap.size none w2 w4) := Lib.hid (Ex.trans (by first | exact (Ex.refl w2.heap.size none w2).drew | exact Ex.refl w2.heap.size none w2) hex (Nat.le_refl _) (by simp))
         clear hex)
      | (go_at_call 24
         refine (follows_w x y ⟨#[]⟩ _ hx hy HF.out).mono ?_
         rintro e w5 ⟨rfl, hex⟩
         have HE5 : Hid (Ex w2.heap.size none w2 w5) := Lib.hid (HE4.out.thenW hex)
         clear hex)
      | fail)
  go_wp2_with (fail)
  go_ret
  exact ⟨rfl, HE2.out.trans HE5.out (by omega) (by simp)⟩
end Go.Proofs.Ytaakacahblndcaa
