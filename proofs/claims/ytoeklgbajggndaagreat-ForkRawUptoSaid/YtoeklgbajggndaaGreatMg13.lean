/- The two statements of the sanity check of the laws of forks, and what is found of them. Plain, no program in sight. | ref06.Check: a contract. No statement of the seat. -/
import Derived.Test.YtoeklgbajggndaaGreatMg10
import Derived.Test.YtoeklgbajggndaaGreatMg12
import Derived.Test.YtoeklgbajggndaaGreatNext04G
import Derived.Test.YtoeklgbajggndaaGreatEncSG
namespace Go.Proofs.YtoeklgbajggndaaGreat
open Go.RowKit Go.Sort

theorem bytesLess_tri : ∀ x y : List UInt8, Op.bytesLess x y = false → Op.bytesLess y x = false → x = y
  | [], [], _, _ => rfl
  | [], _ :: _, h, _ => by simp [Op.bytesLess] at h
  | _ :: _, [], _, h => by simp [Op.bytesLess] at h
  | a :: x, b :: y, h1, h2 => by
    simp only [Op.bytesLess, Bool.or_eq_false_iff, decide_eq_false_iff_not, Bool.and_eq_false_iff, beq_eq_false_iff_ne] at h1 h2
    have e : a = b := UInt8.toNat_inj.1 (by have l1 := h1.1; have l2 := h2.1; rw [UInt8.lt_iff_toNat_lt] at l1 l2; omega)
    subst e
    have h3 := h1.2.resolve_left (by simp)
    have h4 := h2.2.resolve_left (by simp)
    rw [bytesLess_tri x y h3 h4]
theorem toList_inj {x y : ByteArray} (h : x.toList = y.toList) : x = y := of_decide_eq_true (by rw [← toListB, h]; exact beq_self_eq_true _)
theorem lssS_tri {x y : ByteArray} (h : lssS x y = false) (hne : ¬ x = y) : lssS y x = true := by
  cases h2 : lssS y x with
  | true => rfl
  | false => exact absurd (toList_inj (bytesLess_tri _ _ h h2)) hne
/-- Evidence: what is wrong with it. -/
def forkCheckI (s t : St) : Int :=
  if checkI s ≠ 0 then checkI s else if checkI t ≠ 0 then checkI t else if sealedB s = false ∨ sealedB t = false then 6
  else if s.author ≠ t.author ∨ s.number ≠ t.number ∨ lssS s.dig t.dig = false then 12 else 0
theorem perm_pair {α : Type} {d : List α} {x y : α} (h : d.Perm [x, y]) : d = [x, y] ∨ d = [y, x] := by
  have hl := h.length_eq
  match d, hl with
  | [u, v], _ =>
    have hx : x ∈ [u, v] := h.mem_iff.2 (by simp)
    simp only [List.mem_cons, List.not_mem_nil, or_false] at hx
    rcases hx with rfl | rfl
    · have := (List.perm_cons x).1 h
      have e := List.perm_singleton.1 this
      simp only [List.cons.injEq, and_true] at e
      rw [e]
      exact .inl rfl
    · have h2 : [x, u].Perm [x, y] := (List.Perm.swap u x []).trans h
      have := (List.perm_cons x).1 h2
      have e := List.perm_singleton.1 this
      simp only [List.cons.injEq, and_true] at e
      rw [e]
      exact .inr rfl
theorem links_none {a : Int} {l ls : List St} (h : LinksR a l ls) (hl : ∀ s ∈ l, okB a s = false) : ls = [] := by
  cases ls with
  | nil => rfl
  | cons s r =>
    have h1 := h.mem s (by simp)
    have h2 := h.ok s (by simp)
    rw [hl s h1] at h2
    cases h2
theorem links_two {a : Int} {l ls : List St} {x y : St} (h : LinksR a l ls) (hl : l.Perm [x, y]) (hx : okB a x = true) (hy : okB a y = true) (hn : x.number = y.number) (hd : ¬ x.dig = y.dig) :
    ∃ u v, ls = [u, v] ∧ ((u = x ∧ v = y) ∨ (u = y ∧ v = x)) ∧ lssS u.dig v.dig = true := by
  obtain ⟨d, hp, hs, rfl⟩ := h
  have hf : (l.filter (okB a)).Perm [x, y] := by
    have := hl.filter (okB a)
    rwa [List.filter_cons_of_pos hx, List.filter_cons_of_pos hy, List.filter_nil] at this
  have key : ∀ u v : St, d = [u, v] → u.number = v.number → ¬ u.dig = v.dig → cptL d = [u, v] ∧ lssS u.dig v.dig = true := by
    intro u v e he hne
    subst e
    have hk := hs 0 1 u v (by omega) rfl rfl
    have hlt : lssS v.dig u.dig = false := by
      simp only [ltNDs, Bool.or_eq_false_iff, Bool.and_eq_false_iff, decide_eq_false_iff_not] at hk
      exact hk.2.resolve_left (by simp [he])
    refine ⟨?_, lssS_tri hlt fun e => hne e.symm⟩
    have hsd : sameDigS v u = false := by
      unfold sameDigS
      rw [toListB, decide_eq_false fun e => hne e.symm]
    simp [cptL, cpt, stays, hsd]
  rcases perm_pair (hp.trans hf) with e | e
  · obtain ⟨h1, h2⟩ := key x y e hn hd
    exact ⟨x, y, h1, .inl ⟨rfl, rfl⟩, h2⟩
  · obtain ⟨h1, h2⟩ := key y x e hn.symm fun e => hd e.symm
    exact ⟨y, x, h1, .inr ⟨rfl, rfl⟩, h2⟩
theorem findR_one {l : List St} {a : Nat} {p : St × St} (h0 : ∀ k : Nat, k ≠ a → ∀ ls, LinksR ((k : Nat) : Int) (l.filter (authB ((k : Nat) : Int))) ls → forkF ls = none) (hq : ∀ ls, LinksR ((a : Nat) : Int) (l.filter (authB ((a : Nat) : Int))) ls → ∃ p, forkF ls = some p) :
    ∀ {k : Nat} {fs : List (St × St)}, FindR l k fs → (k ≤ a ∧ fs = []) ∨ (a < k ∧ ∃ ls p, LinksR ((a : Nat) : Int) (l.filter (authB ((a : Nat) : Int))) ls ∧ forkF ls = some p ∧ fs = [p]) := by
  intro k fs h
  induction h with
  | zero => exact .inl ⟨by omega, rfl⟩
  | @none k fs ls h hl hf ih =>
    rcases ih with ⟨i1, i2⟩ | ⟨i1, i2⟩
    · by_cases e : k = a
      · subst e
        obtain ⟨p, hp⟩ := hq ls hl
        rw [hf] at hp; cases hp
      · exact .inl ⟨by omega, i2⟩
    · exact .inr ⟨by omega, i2⟩
  | @some k fs ls p h hl hf ih =>
    by_cases e : k = a
    · subst e
      rcases ih with ⟨i1, i2⟩ | ⟨i1, i2⟩
      · exact .inr ⟨by omega, ls, p, hl, hf, by rw [i2]; rfl⟩
      · omega
    · have := h0 k e ls hl
      rw [hf] at this; cases this
/-- The two statements. -/
def baseS (k : Int) : St := ⟨3, 0, ⟨#[]⟩, 0, k, 0, 0, 0, [], [], ⟨#[]⟩, 0, ⟨#[]⟩⟩
def sA : St := sealS (baseS 10)
def sB : St := sealS (baseS 11)
theorem sAB_dig : ¬ sA.dig = sB.dig := by
  intro h
  have h1 : (sha (stB (baseS 10))).data.toList = (sha (stB (baseS 11))).data.toList := congrArg (fun b : ByteArray => b.data.toList) h
  revert h1
  decide +kernel
theorem sA_check : checkI sA = 0 := by decide +kernel
theorem sB_check : checkI sB = 0 := by decide +kernel
theorem sA_ok : okB 3 sA = true := okB_iff.2 ⟨rfl, sA_check, sealS_sealed _⟩
theorem sB_ok : okB 3 sB = true := okB_iff.2 ⟨rfl, sB_check, sealS_sealed _⟩
theorem sAB_same : sameS sA sB = false := by
  have : ¬ sA.kind = sB.kind := by decide
  unfold sameS
  simp [this]
theorem storeAB : (storeL [sA, sB]).Perm [sA, sB] := by
  have h1 : put05 [] sA = [sA] := by simp [put05, putPos]
  have h2 : adds05 [] sA = [sA] := by
    unfold adds05
    rw [h1, if_pos ⟨sA_check, sealS_sealed _, by simp⟩]
  have h3 : put05 [sA] sB = [sA, sB] ∨ put05 [sA] sB = [sB, sA] := by
    unfold put05 putPos
    cases hb : before05B sA sB with
    | true => left; simp [hb]
    | false => right; simp [hb, sAB_same]
  have h4 : adds05 [sA] sB = [sA, sB] ∨ adds05 [sA] sB = [sB, sA] := by
    unfold adds05
    rw [if_pos ⟨sB_check, sealS_sealed _, by rcases h3 with h | h <;> rw [h] <;> simp⟩]
    exact h3
  have e : storeL [sA, sB] = adds05 [sA] sB := by
    simp only [storeL, List.foldl_cons, List.foldl_nil, h2]
  rw [e]
  rcases h4 with h | h <;> rw [h]
  exact List.Perm.swap _ _ _
theorem authAB (k : Int) : (storeL [sA, sB]).filter (authB k) = [] ∨ k = 3 ∧ ((storeL [sA, sB]).filter (authB k)).Perm [sA, sB] := by
  by_cases e : k = 3
  · refine .inr ⟨e, ?_⟩
    have := storeAB.filter (authB k)
    have ha : authB k sA = true := by simp [authB, e, sA, sealS, baseS]
    have hb : authB k sB = true := by simp [authB, e, sB, sealS, baseS]
    rwa [List.filter_cons_of_pos ha, List.filter_cons_of_pos hb, List.filter_nil] at this
  · refine .inl ?_
    have := storeAB.filter (authB k)
    have h3 : ¬ (3 : Int) = k := fun h => e h.symm
    have ha : ¬ authB k sA = true := by simp [authB, sA, sealS, baseS, h3]
    have hb : ¬ authB k sB = true := by simp [authB, sB, sealS, baseS, h3]
    rw [List.filter_cons_of_neg ha, List.filter_cons_of_neg hb, List.filter_nil] at this
    exact List.perm_nil.1 this
theorem forkAB_no {k : Int} (hk : k ≠ 3) {ls : List St} (h : LinksR k ((storeL [sA, sB]).filter (authB k)) ls) : forkF ls = none := by
  rcases authAB k with e | ⟨e, _⟩
  · rw [e] at h
    rw [links_none h (by simp)]
    rfl
  · exact absurd e hk
theorem forkAB_yes {ls : List St} (h : LinksR 3 ((storeL [sA, sB]).filter (authB 3)) ls) : ∃ u v, forkF ls = some (u, v) ∧ forkCheckI u v = 0 ∧ u.number = 0 ∧ ((u = sA ∧ v = sB) ∨ (u = sB ∧ v = sA)) := by
  rcases authAB 3 with e | ⟨_, hp⟩
  · have := storeAB.filter (authB 3)
    rw [e] at this
    have := this.length_eq
    rw [List.filter_cons_of_pos (by simp [authB, sA, sealS, baseS]), List.filter_cons_of_pos (by simp [authB, sB, sealS, baseS])] at this
    cases this
  · obtain ⟨u, v, rfl, he, hl⟩ := links_two h hp sA_ok sB_ok rfl sAB_dig
    refine ⟨u, v, ?_, ?_, ?_, he⟩
    · have hn : u.number = v.number := by rcases he with ⟨rfl, rfl⟩ | ⟨rfl, rfl⟩ <;> rfl
      simp [forkF, hn]
    · have hc : checkI u = 0 ∧ checkI v = 0 ∧ sealedB u = true ∧ sealedB v = true ∧ u.author = v.author ∧ u.number = v.number := by
        rcases he with ⟨rfl, rfl⟩ | ⟨rfl, rfl⟩
        · exact ⟨sA_check, sB_check, sealS_sealed _, sealS_sealed _, rfl, rfl⟩
        · exact ⟨sB_check, sA_check, sealS_sealed _, sealS_sealed _, rfl, rfl⟩
      simp [forkCheckI, hc.1, hc.2.1, hc.2.2.1, hc.2.2.2.1, hc.2.2.2.2.1, hc.2.2.2.2.2, hl]
    · rcases he with ⟨rfl, rfl⟩ | ⟨rfl, rfl⟩ <;> rfl
/-- What is found: one fork, and the evidence is right. -/
theorem findAB {fs : List (St × St)} (h : FindR (storeL [sA, sB]) 64 fs) : ∃ u v, fs = [(u, v)] ∧ forkCheckI u v = 0 ∧ ((u = sA ∧ v = sB) ∨ (u = sB ∧ v = sA)) := by
  rcases findR_one (a := 3) (p := (sA, sB)) (fun k hk ls hl => forkAB_no (by omega) hl) (fun ls hl => by obtain ⟨u, v, h, _⟩ := forkAB_yes hl; exact ⟨_, h⟩) h with ⟨h1, _⟩ | ⟨_, ls, p, hl, hf, e⟩
  · omega
  · obtain ⟨u, v, h1, h2, _, h3⟩ := forkAB_yes hl
    rw [h1] at hf
    obtain rfl := Option.some.inj hf
    exact ⟨u, v, e, h2, h3⟩
theorem fromAB3 {ls : List St} (h : LinksR 3 ((storeL [sA, sB]).filter (authB 3)) ls) : fromI (forkF ls) = 0 := by
  obtain ⟨u, v, h1, _, h2, _⟩ := forkAB_yes h
  rw [h1]
  exact h2
theorem fromAB {k : Int} (hk : k ≠ 3) {ls : List St} (h : LinksR k ((storeL [sA, sB]).filter (authB k)) ls) : fromI (forkF ls) = -1 := by
  rw [forkAB_no hk h]
  rfl
theorem guiltyAB {p : Nat → Bool} (h : ∀ i, i < 64 → GuiltyR (storeL [sA, sB]) i (p i)) : whereL 64 p = [3] := by
  have hp : ∀ i, i < 64 → p i = decide (i = 3) := fun i hi => by
    obtain ⟨ls, hl, hb⟩ := h i hi
    rw [hb]
    by_cases e : i = 3
    · subst e
      rw [fromAB3 hl]
      rfl
    · rw [fromAB (by omega) hl]
      simp [e]
  have e : whereL 64 p = whereL 64 fun i => decide (i = 3) := by
    unfold whereL
    rw [List.filter_congr fun i hi => hp i (by simpa using hi)]
  rw [e]
  decide
end Go.Proofs.YtoeklgbajggndaaGreat

namespace Go.Proofs.YtoeklgbajggndaaGreat
open Go.RowKit Go.Sort

theorem fcI_1 {s t : St} (h : ¬ checkI s = 0) : forkCheckI s t = checkI s := by unfold forkCheckI; rw [if_pos h]
theorem fcI_2 {s t : St} (h : checkI s = 0) (h2 : ¬ checkI t = 0) : forkCheckI s t = checkI t := by unfold forkCheckI; rw [if_neg (by simp [h]), if_pos h2]
theorem fcI_3 {s t : St} (h : checkI s = 0) (h2 : checkI t = 0) (h3 : sealedB s = false ∨ sealedB t = false) : forkCheckI s t = 6 := by unfold forkCheckI; rw [if_neg (by simp [h]), if_neg (by simp [h2]), if_pos h3]
theorem fcI_4 {s t : St} (h : checkI s = 0) (h2 : checkI t = 0) (h3 : sealedB s = true) (h4 : sealedB t = true) (h5 : s.author ≠ t.author ∨ s.number ≠ t.number ∨ lssS s.dig t.dig = false) : forkCheckI s t = 12 := by unfold forkCheckI; rw [if_neg (by simp [h]), if_neg (by simp [h2]), if_neg (by simp [h3, h4]), if_pos h5]
theorem fcI_5 {s t : St} (h : checkI s = 0) (h2 : checkI t = 0) (h3 : sealedB s = true) (h4 : sealedB t = true) (h5 : s.author = t.author) (h6 : s.number = t.number) (h7 : lssS s.dig t.dig = true) : forkCheckI s t = 0 := by unfold forkCheckI; rw [if_neg (by simp [h]), if_neg (by simp [h2]), if_neg (by simp [h3, h4]), if_neg (by simp [h5, h6, h7])]

set_option maxHeartbeats 8000000 in
set_option maxRecDepth 100000 in
theorem checkF3_any {P : Nat → Prop} (s t : St) (lo po : Option Addr) (ln lc pn pc : Nat) (lb pb : Option Addr) (nb cb mp cq : Nat) (w : World) (hs : Lies P w (s, ⟨lo, ln, lc⟩, ⟨po, pn, pc⟩)) (ht : Lies P w (t, ⟨lb, nb, cb⟩, ⟨pb, mp, cq⟩)) (hts : Tame s) (htt : Tame t) :
    Calls Tryz.prog 23 #[.agg #[.int .i64 s.author, .int .i64 s.number, .string s.prev, .int .i64 s.time, .int .i64 s.kind, .int .i64 s.a, .int .i64 s.b, .int .i64 s.c, .slice lo ln lc, .slice po pn pc, .string s.body, .int .i64 s.key, .string s.dig, .int .i64 t.author, .int .i64 t.number, .string t.prev, .int .i64 t.time, .int .i64 t.kind, .int .i64 t.a, .int .i64 t.b, .int .i64 t.c, .slice lb nb cb, .slice pb mp cq, .string t.body, .int .i64 t.key, .string t.dig]] w fun e w' => e = .returned (.int .i64 (forkCheckI s t)) ∧ Ex w.heap.size none w w' := by
  obtain ⟨w0, hw0⟩ : ∃ w0 : World, w0 = w.alloc (.cells #[.int .i64 s.author, .int .i64 s.number, .string s.prev, .int .i64 s.time, .int .i64 s.kind, .int .i64 s.a, .int .i64 s.b, .int .i64 s.c, .slice lo ln lc, .slice po pn pc, .string s.body, .int .i64 s.key, .string s.dig, .int .i64 t.author, .int .i64 t.number, .string t.prev, .int .i64 t.time, .int .i64 t.kind, .int .i64 t.a, .int .i64 t.b, .int .i64 t.c, .slice lb nb cb, .slice pb mp cq, .string t.body, .int .i64 t.key, .string t.dig] 29) := ⟨_, rfl⟩
  have hz0 : w.heap.size < w0.heap.size := by rw [hw0]; simp
  have HE0 : Hid (Ex w.heap.size none w w0) := by rw [hw0]; exact Ex.new w _
  have HB0 : Hid (∀ w', Ex w0.heap.size none w0 w' → w'.heap[w.heap.size]? = some (.cells #[.int .i64 s.author, .int .i64 s.number, .string s.prev, .int .i64 s.time, .int .i64 s.kind, .int .i64 s.a, .int .i64 s.b, .int .i64 s.c, .slice lo ln lc, .slice po pn pc, .string s.body, .int .i64 s.key, .string s.dig, .int .i64 t.author, .int .i64 t.number, .string t.prev, .int .i64 t.time, .int .i64 t.kind, .int .i64 t.a, .int .i64 t.b, .int .i64 t.c, .slice lb nb cb, .slice pb mp cq, .string t.body, .int .i64 t.key, .string t.dig] 29 (0, 0))) := Lib.hid (fun w' h => (h.block w.heap.size hz0 (by simp)).trans (by rw [hw0]; exact heap_alloc_new w _))
  have HQ : Hid (∀ w', Ex w0.heap.size none w0 w' → w'.cell? ⟨w.heap.size, 0, none⟩ = some (.int .i64 s.author) ∧ w'.cell? ⟨w.heap.size, 1, none⟩ = some (.int .i64 s.number) ∧ w'.cell? ⟨w.heap.size, 2, none⟩ = some (.string s.prev) ∧ w'.cell? ⟨w.heap.size, 3, none⟩ = some (.int .i64 s.time) ∧ w'.cell? ⟨w.heap.size, 4, none⟩ = some (.int .i64 s.kind) ∧ w'.cell? ⟨w.heap.size, 5, none⟩ = some (.int .i64 s.a) ∧ w'.cell? ⟨w.heap.size, 6, none⟩ = some (.int .i64 s.b) ∧ w'.cell? ⟨w.heap.size, 7, none⟩ = some (.int .i64 s.c) ∧ w'.cell? ⟨w.heap.size, 8, none⟩ = some (.slice lo ln lc) ∧ w'.cell? ⟨w.heap.size, 9, none⟩ = some (.slice po pn pc) ∧ w'.cell? ⟨w.heap.size, 10, none⟩ = some (.string s.body) ∧ w'.cell? ⟨w.heap.size, 11, none⟩ = some (.int .i64 s.key) ∧ w'.cell? ⟨w.heap.size, 12, none⟩ = some (.string s.dig) ∧ w'.cell? ⟨w.heap.size, 13, none⟩ = some (.int .i64 t.author) ∧ w'.cell? ⟨w.heap.size, 14, none⟩ = some (.int .i64 t.number) ∧ w'.cell? ⟨w.heap.size, 15, none⟩ = some (.string t.prev) ∧ w'.cell? ⟨w.heap.size, 16, none⟩ = some (.int .i64 t.time) ∧ w'.cell? ⟨w.heap.size, 17, none⟩ = some (.int .i64 t.kind) ∧ w'.cell? ⟨w.heap.size, 18, none⟩ = some (.int .i64 t.a) ∧ w'.cell? ⟨w.heap.size, 19, none⟩ = some (.int .i64 t.b) ∧ w'.cell? ⟨w.heap.size, 20, none⟩ = some (.int .i64 t.c) ∧ w'.cell? ⟨w.heap.size, 21, none⟩ = some (.slice lb nb cb) ∧ w'.cell? ⟨w.heap.size, 22, none⟩ = some (.slice pb mp cq) ∧ w'.cell? ⟨w.heap.size, 23, none⟩ = some (.string t.body) ∧ w'.cell? ⟨w.heap.size, 24, none⟩ = some (.int .i64 t.key) ∧ w'.cell? ⟨w.heap.size, 25, none⟩ = some (.string t.dig)) := Lib.hid (fun w' h => by
    have hb := HB0.out w' h
    exact ⟨(cell_of_row _ _ 0 _ _ _ hb), (cell_of_row _ _ 1 _ _ _ hb), (cell_of_row _ _ 2 _ _ _ hb), (cell_of_row _ _ 3 _ _ _ hb), (cell_of_row _ _ 4 _ _ _ hb), (cell_of_row _ _ 5 _ _ _ hb), (cell_of_row _ _ 6 _ _ _ hb), (cell_of_row _ _ 7 _ _ _ hb), (cell_of_row _ _ 8 _ _ _ hb), (cell_of_row _ _ 9 _ _ _ hb), (cell_of_row _ _ 10 _ _ _ hb), (cell_of_row _ _ 11 _ _ _ hb), (cell_of_row _ _ 12 _ _ _ hb), (cell_of_row _ _ 13 _ _ _ hb), (cell_of_row _ _ 14 _ _ _ hb), (cell_of_row _ _ 15 _ _ _ hb), (cell_of_row _ _ 16 _ _ _ hb), (cell_of_row _ _ 17 _ _ _ hb), (cell_of_row _ _ 18 _ _ _ hb), (cell_of_row _ _ 19 _ _ _ hb), (cell_of_row _ _ 20 _ _ _ hb), (cell_of_row _ _ 21 _ _ _ hb), (cell_of_row _ _ 22 _ _ _ hb), (cell_of_row _ _ 23 _ _ _ hb), (cell_of_row _ _ 24 _ _ _ hb), (cell_of_row _ _ 25 _ _ _ hb)⟩)
  have HLX : Hid (∀ w', Ex w0.heap.size none w0 w' → Lies P w' (s, ⟨lo, ln, lc⟩, ⟨po, pn, pc⟩) ∧ Lies P w' (t, ⟨lb, nb, cb⟩, ⟨pb, mp, cq⟩)) := Lib.hid (fun w' h => ⟨hs.keep fun b _ hb => (h.block b (by omega) (by simp)).trans (HE0.out.block b hb (by simp)), ht.keep fun b _ hb => (h.block b (by omega) (by simp)).trans (HE0.out.block b hb (by simp))⟩)
  obtain ⟨q, hq⟩ : ∃ q, q = checkI s := ⟨_, rfl⟩
  obtain ⟨r, hr⟩ : ∃ r, r = checkI t := ⟨_, rfl⟩
  have HC1 : Hid (∀ w', Ex w0.heap.size none w0 w' → Calls Tryz.prog 54 #[.agg #[.int .i64 s.author, .int .i64 s.number, .string s.prev, .int .i64 s.time, .int .i64 s.kind, .int .i64 s.a, .int .i64 s.b, .int .i64 s.c, .slice lo ln lc, .slice po pn pc, .string s.body, .int .i64 s.key, .string s.dig]] w' fun e w'' => e = .returned (.int .i64 q) ∧ Ex w'.heap.size none w' w'') := Lib.hid (fun w' h => by rw [hq]; exact check03_any s lo po ln lc pn pc w' (HLX.out w' h).1 ⟨by have := hts.list; omega, by have := hts.pins; omega⟩)
  have HC2 : Hid (∀ w', Ex w0.heap.size none w0 w' → Calls Tryz.prog 54 #[.agg #[.int .i64 t.author, .int .i64 t.number, .string t.prev, .int .i64 t.time, .int .i64 t.kind, .int .i64 t.a, .int .i64 t.b, .int .i64 t.c, .slice lb nb cb, .slice pb mp cq, .string t.body, .int .i64 t.key, .string t.dig]] w' fun e w'' => e = .returned (.int .i64 r) ∧ Ex w'.heap.size none w' w'') := Lib.hid (fun w' h => by rw [hr]; exact check03_any t lb pb nb cb mp cq w' (HLX.out w' h).2 ⟨by have := htt.list; omega, by have := htt.pins; omega⟩)
  have HS1 : Hid (∀ b w', sealedB s = b → Ex w0.heap.size none w0 w' → Calls Tryz.prog 55 #[.agg #[.int .i64 s.author, .int .i64 s.number, .string s.prev, .int .i64 s.time, .int .i64 s.kind, .int .i64 s.a, .int .i64 s.b, .int .i64 s.c, .slice lo ln lc, .slice po pn pc, .string s.body, .int .i64 s.key, .string s.dig]] w' fun e w'' => e = .returned (.bool b) ∧ Ex w'.heap.size none w' w'') := Lib.hid (fun b w' hb h => asB (sealed03_any s lo po ln lc pn pc w' (HLX.out w' h).1 hts) hb)
  have HS2 : Hid (∀ b w', sealedB t = b → Ex w0.heap.size none w0 w' → Calls Tryz.prog 55 #[.agg #[.int .i64 t.author, .int .i64 t.number, .string t.prev, .int .i64 t.time, .int .i64 t.kind, .int .i64 t.a, .int .i64 t.b, .int .i64 t.c, .slice lb nb cb, .slice pb mp cq, .string t.body, .int .i64 t.key, .string t.dig]] w' fun e w'' => e = .returned (.bool b) ∧ Ex w'.heap.size none w' w'') := Lib.hid (fun b w' hb h => asB (sealed03_any t lb pb nb cb mp cq w' (HLX.out w' h).2 htt) hb)
  have HQ1 := Lib.hid hq
  have HQ2 := Lib.hid hr
  clear hs ht hts htt hq hr
  obtain ⟨d0, d1, d2, d3, d4, d5, d6, d7, d8, d9, d10, d11, d12, d13, d14, d15, d16, d17, d18, d19, d20, d21, d22, d23, d24, d25⟩ := HQ.out _ (Ex.refl _ _ _)
  by_cases hq0 : q = 0
  · subst hq0
    have HP1 : Hid (checkI s = 0) := Lib.hid HQ1.out.symm
    by_cases hr0 : r = 0
    · subst hr0
      have HP2 : Hid (checkI t = 0) := Lib.hid HQ2.out.symm
      cases hsa : sealedB s with
      | true =>
        have HSA := Lib.hid hsa
        clear hsa
        cases hsb : sealedB t with
        | true =>
          have HSB := Lib.hid hsb
          clear hsb
          by_cases ha : s.author = t.author
          · have ha' : (s.author == t.author) = true := by simpa using ha
            have HAA := Lib.hid ha
            clear ha
            by_cases hn : s.number = t.number
            · have hn' : (s.number == t.number) = true := by simpa using hn
              have HNN := Lib.hid hn
              clear hn
              cases hl : Op.bytesLess s.dig.toList t.dig.toList with
              | true =>
                have HLL := Lib.hid hl
                have HI : Hid (forkCheckI s t = 0) := Lib.hid (fcI_5 HP1.out HP2.out HSA.out HSB.out HAA.out HNN.out HLL.out)
                go_enter Tryz.func23, Tryz.ntmps23
                go_upto_region 1 with (fail)
                rw [← hw0]
                clear hw0
                go_wp2_with (first
                  | (go_at_call 54
                     fail_if_success (first | have _x := HX1 | fail)
                     refine (HC1.out _ (Ex.refl _ _ _)).mono ?_
                     rintro e w1 ⟨rfl, hex⟩
                     have HX1 : Hid (Ex w0.heap.size none w0 w1) := Lib.hid (hex)
                     clear hex d0 d1 d2 d3 d4 d5 d6 d7 d8 d9 d10 d11 d12 d13 d14 d15 d16 d17 d18 d19 d20 d21 d22 d23 d24 d25
                     obtain ⟨d0, d1, d2, d3, d4, d5, d6, d7, d8, d9, d10, d11, d12, d13, d14, d15, d16, d17, d18, d19, d20, d21, d22, d23, d24, d25⟩ := HQ.out _ HX1.out)
                  | (go_at_call 54
                     fail_if_success (first | have _x := HX2 | fail)
                     have _y := HX1
                     refine (HC2.out _ HX1.out).mono ?_
                     rintro e w2 ⟨rfl, hex⟩
                     have HX2 : Hid (Ex w0.heap.size none w0 w2) := Lib.hid (HX1.out.trans hex HX1.out.size (by simp))
                     clear hex d0 d1 d2 d3 d4 d5 d6 d7 d8 d9 d10 d11 d12 d13 d14 d15 d16 d17 d18 d19 d20 d21 d22 d23 d24 d25
                     obtain ⟨d0, d1, d2, d3, d4, d5, d6, d7, d8, d9, d10, d11, d12, d13, d14, d15, d16, d17, d18, d19, d20, d21, d22, d23, d24, d25⟩ := HQ.out _ HX2.out)
                  | (go_at_call 55
                     fail_if_success (first | have _x := HX3 | fail)
                     have _y := HX2
                     refine (HS1.out true _ HSA.out HX2.out).mono ?_
                     rintro e w3 ⟨rfl, hex⟩
                     have HX3 : Hid (Ex w0.heap.size none w0 w3) := Lib.hid (HX2.out.trans hex HX2.out.size (by simp))
                     clear hex d0 d1 d2 d3 d4 d5 d6 d7 d8 d9 d10 d11 d12 d13 d14 d15 d16 d17 d18 d19 d20 d21 d22 d23 d24 d25
                     obtain ⟨d0, d1, d2, d3, d4, d5, d6, d7, d8, d9, d10, d11, d12, d13, d14, d15, d16, d17, d18, d19, d20, d21, d22, d23, d24, d25⟩ := HQ.out _ HX3.out)
                  | (go_at_call 55
                     fail_if_success (first | have _x := HX4 | fail)
                     have _y := HX3
                     refine (HS2.out true _ HSB.out HX3.out).mono ?_
                     rintro e w4 ⟨rfl, hex⟩
                     have HX4 : Hid (Ex w0.heap.size none w0 w4) := Lib.hid (HX3.out.trans hex HX3.out.size (by simp))
                     clear hex d0 d1 d2 d3 d4 d5 d6 d7 d8 d9 d10 d11 d12 d13 d14 d15 d16 d17 d18 d19 d20 d21 d22 d23 d24 d25
                     obtain ⟨d0, d1, d2, d3, d4, d5, d6, d7, d8, d9, d10, d11, d12, d13, d14, d15, d16, d17, d18, d19, d20, d21, d22, d23, d24, d25⟩ := HQ.out _ HX4.out)
                  | fail)
                go_ret
                exact ⟨by rw [HI.out]; rfl, HE0.out.trans HX4.out (by omega) (by simp)⟩
              | false =>
                have HLL := Lib.hid hl
                have HI : Hid (forkCheckI s t = 12) := Lib.hid (fcI_4 HP1.out HP2.out HSA.out HSB.out (.inr (.inr HLL.out)))
                go_enter Tryz.func23, Tryz.ntmps23
                go_upto_region 1 with (fail)
                rw [← hw0]
                clear hw0
                go_wp2_with (first
                  | (go_at_call 54
                     fail_if_success (first | have _x := HX1 | fail)
                     refine (HC1.out _ (Ex.refl _ _ _)).mono ?_
                     rintro e w1 ⟨rfl, hex⟩
                     have HX1 : Hid (Ex w0.heap.size none w0 w1) := Lib.hid (hex)
                     clear hex d0 d1 d2 d3 d4 d5 d6 d7 d8 d9 d10 d11 d12 d13 d14 d15 d16 d17 d18 d19 d20 d21 d22 d23 d24 d25
                     obtain ⟨d0, d1, d2, d3, d4, d5, d6, d7, d8, d9, d10, d11, d12, d13, d14, d15, d16, d17, d18, d19, d20, d21, d22, d23, d24, d25⟩ := HQ.out _ HX1.out)
                  | (go_at_call 54
                     fail_if_success (first | have _x := HX2 | fail)
                     have _y := HX1
                     refine (HC2.out _ HX1.out).mono ?_
                     rintro e w2 ⟨rfl, hex⟩
                     have HX2 : Hid (Ex w0.heap.size none w0 w2) := Lib.hid (HX1.out.trans hex HX1.out.size (by simp))
                     clear hex d0 d1 d2 d3 d4 d5 d6 d7 d8 d9 d10 d11 d12 d13 d14 d15 d16 d17 d18 d19 d20 d21 d22 d23 d24 d25
                     obtain ⟨d0, d1, d2, d3, d4, d5, d6, d7, d8, d9, d10, d11, d12, d13, d14, d15, d16, d17, d18, d19, d20, d21, d22, d23, d24, d25⟩ := HQ.out _ HX2.out)
                  | (go_at_call 55
                     fail_if_success (first | have _x := HX3 | fail)
                     have _y := HX2
                     refine (HS1.out true _ HSA.out HX2.out).mono ?_
                     rintro e w3 ⟨rfl, hex⟩
                     have HX3 : Hid (Ex w0.heap.size none w0 w3) := Lib.hid (HX2.out.trans hex HX2.out.size (by simp))
                     clear hex d0 d1 d2 d3 d4 d5 d6 d7 d8 d9 d10 d11 d12 d13 d14 d15 d16 d17 d18 d19 d20 d21 d22 d23 d24 d25
                     obtain ⟨d0, d1, d2, d3, d4, d5, d6, d7, d8, d9, d10, d11, d12, d13, d14, d15, d16, d17, d18, d19, d20, d21, d22, d23, d24, d25⟩ := HQ.out _ HX3.out)
                  | (go_at_call 55
                     fail_if_success (first | have _x := HX4 | fail)
                     have _y := HX3
                     refine (HS2.out true _ HSB.out HX3.out).mono ?_
                     rintro e w4 ⟨rfl, hex⟩
                     have HX4 : Hid (Ex w0.heap.size none w0 w4) := Lib.hid (HX3.out.trans hex HX3.out.size (by simp))
                     clear hex d0 d1 d2 d3 d4 d5 d6 d7 d8 d9 d10 d11 d12 d13 d14 d15 d16 d17 d18 d19 d20 d21 d22 d23 d24 d25
                     obtain ⟨d0, d1, d2, d3, d4, d5, d6, d7, d8, d9, d10, d11, d12, d13, d14, d15, d16, d17, d18, d19, d20, d21, d22, d23, d24, d25⟩ := HQ.out _ HX4.out)
                  | fail)
                go_ret
                exact ⟨by rw [HI.out]; rfl, HE0.out.trans HX4.out (by omega) (by simp)⟩
            · have hn' : (s.number == t.number) = false := by simpa using hn
              have HNN := Lib.hid hn
              clear hn
              have HI : Hid (forkCheckI s t = 12) := Lib.hid (fcI_4 HP1.out HP2.out HSA.out HSB.out (.inr (.inl HNN.out)))
              go_enter Tryz.func23, Tryz.ntmps23
              go_upto_region 1 with (fail)
              rw [← hw0]
              clear hw0
              go_wp2_with (first
                | (go_at_call 54
                   fail_if_success (first | have _x := HX1 | fail)
                   refine (HC1.out _ (Ex.refl _ _ _)).mono ?_
                   rintro e w1 ⟨rfl, hex⟩
                   have HX1 : Hid (Ex w0.heap.size none w0 w1) := Lib.hid (hex)
                   clear hex d0 d1 d2 d3 d4 d5 d6 d7 d8 d9 d10 d11 d12 d13 d14 d15 d16 d17 d18 d19 d20 d21 d22 d23 d24 d25
                   obtain ⟨d0, d1, d2, d3, d4, d5, d6, d7, d8, d9, d10, d11, d12, d13, d14, d15, d16, d17, d18, d19, d20, d21, d22, d23, d24, d25⟩ := HQ.out _ HX1.out)
                | (go_at_call 54
                   fail_if_success (first | have _x := HX2 | fail)
                   have _y := HX1
                   refine (HC2.out _ HX1.out).mono ?_
                   rintro e w2 ⟨rfl, hex⟩
                   have HX2 : Hid (Ex w0.heap.size none w0 w2) := Lib.hid (HX1.out.trans hex HX1.out.size (by simp))
                   clear hex d0 d1 d2 d3 d4 d5 d6 d7 d8 d9 d10 d11 d12 d13 d14 d15 d16 d17 d18 d19 d20 d21 d22 d23 d24 d25
                   obtain ⟨d0, d1, d2, d3, d4, d5, d6, d7, d8, d9, d10, d11, d12, d13, d14, d15, d16, d17, d18, d19, d20, d21, d22, d23, d24, d25⟩ := HQ.out _ HX2.out)
                | (go_at_call 55
                   fail_if_success (first | have _x := HX3 | fail)
                   have _y := HX2
                   refine (HS1.out true _ HSA.out HX2.out).mono ?_
                   rintro e w3 ⟨rfl, hex⟩
                   have HX3 : Hid (Ex w0.heap.size none w0 w3) := Lib.hid (HX2.out.trans hex HX2.out.size (by simp))
                   clear hex d0 d1 d2 d3 d4 d5 d6 d7 d8 d9 d10 d11 d12 d13 d14 d15 d16 d17 d18 d19 d20 d21 d22 d23 d24 d25
                   obtain ⟨d0, d1, d2, d3, d4, d5, d6, d7, d8, d9, d10, d11, d12, d13, d14, d15, d16, d17, d18, d19, d20, d21, d22, d23, d24, d25⟩ := HQ.out _ HX3.out)
                | (go_at_call 55
                   fail_if_success (first | have _x := HX4 | fail)
                   have _y := HX3
                   refine (HS2.out true _ HSB.out HX3.out).mono ?_
                   rintro e w4 ⟨rfl, hex⟩
                   have HX4 : Hid (Ex w0.heap.size none w0 w4) := Lib.hid (HX3.out.trans hex HX3.out.size (by simp))
                   clear hex d0 d1 d2 d3 d4 d5 d6 d7 d8 d9 d10 d11 d12 d13 d14 d15 d16 d17 d18 d19 d20 d21 d22 d23 d24 d25
                   obtain ⟨d0, d1, d2, d3, d4, d5, d6, d7, d8, d9, d10, d11, d12, d13, d14, d15, d16, d17, d18, d19, d20, d21, d22, d23, d24, d25⟩ := HQ.out _ HX4.out)
                | fail)
              go_ret
              exact ⟨by rw [HI.out]; rfl, HE0.out.trans HX4.out (by omega) (by simp)⟩
          · have ha' : (s.author == t.author) = false := by simpa using ha
            have HAA := Lib.hid ha
            clear ha
            have HI : Hid (forkCheckI s t = 12) := Lib.hid (fcI_4 HP1.out HP2.out HSA.out HSB.out (.inl HAA.out))
            go_enter Tryz.func23, Tryz.ntmps23
            go_upto_region 1 with (fail)
            rw [← hw0]
            clear hw0
            go_wp2_with (first
              | (go_at_call 54
                 fail_if_success (first | have _x := HX1 | fail)
                 refine (HC1.out _ (Ex.refl _ _ _)).mono ?_
                 rintro e w1 ⟨rfl, hex⟩
                 have HX1 : Hid (Ex w0.heap.size none w0 w1) := Lib.hid (hex)
                 clear hex d0 d1 d2 d3 d4 d5 d6 d7 d8 d9 d10 d11 d12 d13 d14 d15 d16 d17 d18 d19 d20 d21 d22 d23 d24 d25
                 obtain ⟨d0, d1, d2, d3, d4, d5, d6, d7, d8, d9, d10, d11, d12, d13, d14, d15, d16, d17, d18, d19, d20, d21, d22, d23, d24, d25⟩ := HQ.out _ HX1.out)
              | (go_at_call 54
                 fail_if_success (first | have _x := HX2 | fail)
                 have _y := HX1
                 refine (HC2.out _ HX1.out).mono ?_
                 rintro e w2 ⟨rfl, hex⟩
                 have HX2 : Hid (Ex w0.heap.size none w0 w2) := Lib.hid (HX1.out.trans hex HX1.out.size (by simp))
                 clear hex d0 d1 d2 d3 d4 d5 d6 d7 d8 d9 d10 d11 d12 d13 d14 d15 d16 d17 d18 d19 d20 d21 d22 d23 d24 d25
                 obtain ⟨d0, d1, d2, d3, d4, d5, d6, d7, d8, d9, d10, d11, d12, d13, d14, d15, d16, d17, d18, d19, d20, d21, d22, d23, d24, d25⟩ := HQ.out _ HX2.out)
              | (go_at_call 55
                 fail_if_success (first | have _x := HX3 | fail)
                 have _y := HX2
                 refine (HS1.out true _ HSA.out HX2.out).mono ?_
                 rintro e w3 ⟨rfl, hex⟩
                 have HX3 : Hid (Ex w0.heap.size none w0 w3) := Lib.hid (HX2.out.trans hex HX2.out.size (by simp))
                 clear hex d0 d1 d2 d3 d4 d5 d6 d7 d8 d9 d10 d11 d12 d13 d14 d15 d16 d17 d18 d19 d20 d21 d22 d23 d24 d25
                 obtain ⟨d0, d1, d2, d3, d4, d5, d6, d7, d8, d9, d10, d11, d12, d13, d14, d15, d16, d17, d18, d19, d20, d21, d22, d23, d24, d25⟩ := HQ.out _ HX3.out)
              | (go_at_call 55
                 fail_if_success (first | have _x := HX4 | fail)
                 have _y := HX3
                 refine (HS2.out true _ HSB.out HX3.out).mono ?_
                 rintro e w4 ⟨rfl, hex⟩
                 have HX4 : Hid (Ex w0.heap.size none w0 w4) := Lib.hid (HX3.out.trans hex HX3.out.size (by simp))
                 clear hex d0 d1 d2 d3 d4 d5 d6 d7 d8 d9 d10 d11 d12 d13 d14 d15 d16 d17 d18 d19 d20 d21 d22 d23 d24 d25
                 obtain ⟨d0, d1, d2, d3, d4, d5, d6, d7, d8, d9, d10, d11, d12, d13, d14, d15, d16, d17, d18, d19, d20, d21, d22, d23, d24, d25⟩ := HQ.out _ HX4.out)
              | fail)
            go_ret
            exact ⟨by rw [HI.out]; rfl, HE0.out.trans HX4.out (by omega) (by simp)⟩
        | false =>
          have HSB := Lib.hid hsb
          clear hsb
          have HI : Hid (forkCheckI s t = 6) := Lib.hid (fcI_3 HP1.out HP2.out (.inr HSB.out))
          go_enter Tryz.func23, Tryz.ntmps23
          go_upto_region 1 with (fail)
          rw [← hw0]
          clear hw0
          go_wp2_with (first
            | (go_at_call 54
               fail_if_success (first | have _x := HX1 | fail)
               refine (HC1.out _ (Ex.refl _ _ _)).mono ?_
               rintro e w1 ⟨rfl, hex⟩
               have HX1 : Hid (Ex w0.heap.size none w0 w1) := Lib.hid (hex)
               clear hex d0 d1 d2 d3 d4 d5 d6 d7 d8 d9 d10 d11 d12 d13 d14 d15 d16 d17 d18 d19 d20 d21 d22 d23 d24 d25
               obtain ⟨d0, d1, d2, d3, d4, d5, d6, d7, d8, d9, d10, d11, d12, d13, d14, d15, d16, d17, d18, d19, d20, d21, d22, d23, d24, d25⟩ := HQ.out _ HX1.out)
            | (go_at_call 54
               fail_if_success (first | have _x := HX2 | fail)
               have _y := HX1
               refine (HC2.out _ HX1.out).mono ?_
               rintro e w2 ⟨rfl, hex⟩
               have HX2 : Hid (Ex w0.heap.size none w0 w2) := Lib.hid (HX1.out.trans hex HX1.out.size (by simp))
               clear hex d0 d1 d2 d3 d4 d5 d6 d7 d8 d9 d10 d11 d12 d13 d14 d15 d16 d17 d18 d19 d20 d21 d22 d23 d24 d25
               obtain ⟨d0, d1, d2, d3, d4, d5, d6, d7, d8, d9, d10, d11, d12, d13, d14, d15, d16, d17, d18, d19, d20, d21, d22, d23, d24, d25⟩ := HQ.out _ HX2.out)
            | (go_at_call 55
               fail_if_success (first | have _x := HX3 | fail)
               have _y := HX2
               refine (HS1.out true _ HSA.out HX2.out).mono ?_
               rintro e w3 ⟨rfl, hex⟩
               have HX3 : Hid (Ex w0.heap.size none w0 w3) := Lib.hid (HX2.out.trans hex HX2.out.size (by simp))
               clear hex d0 d1 d2 d3 d4 d5 d6 d7 d8 d9 d10 d11 d12 d13 d14 d15 d16 d17 d18 d19 d20 d21 d22 d23 d24 d25
               obtain ⟨d0, d1, d2, d3, d4, d5, d6, d7, d8, d9, d10, d11, d12, d13, d14, d15, d16, d17, d18, d19, d20, d21, d22, d23, d24, d25⟩ := HQ.out _ HX3.out)
            | (go_at_call 55
               fail_if_success (first | have _x := HX4 | fail)
               have _y := HX3
               refine (HS2.out false _ HSB.out HX3.out).mono ?_
               rintro e w4 ⟨rfl, hex⟩
               have HX4 : Hid (Ex w0.heap.size none w0 w4) := Lib.hid (HX3.out.trans hex HX3.out.size (by simp))
               clear hex d0 d1 d2 d3 d4 d5 d6 d7 d8 d9 d10 d11 d12 d13 d14 d15 d16 d17 d18 d19 d20 d21 d22 d23 d24 d25)
            | fail)
          go_ret
          exact ⟨by rw [HI.out]; rfl, HE0.out.trans HX4.out (by omega) (by simp)⟩
      | false =>
        have HSA := Lib.hid hsa
        clear hsa
        have HI : Hid (forkCheckI s t = 6) := Lib.hid (fcI_3 HP1.out HP2.out (.inl HSA.out))
        go_enter Tryz.func23, Tryz.ntmps23
        go_upto_region 1 with (fail)
        rw [← hw0]
        clear hw0
        go_wp2_with (first
          | (go_at_call 54
             fail_if_success (first | have _x := HX1 | fail)
             refine (HC1.out _ (Ex.refl _ _ _)).mono ?_
             rintro e w1 ⟨rfl, hex⟩
             have HX1 : Hid (Ex w0.heap.size none w0 w1) := Lib.hid (hex)
             clear hex d0 d1 d2 d3 d4 d5 d6 d7 d8 d9 d10 d11 d12 d13 d14 d15 d16 d17 d18 d19 d20 d21 d22 d23 d24 d25
             obtain ⟨d0, d1, d2, d3, d4, d5, d6, d7, d8, d9, d10, d11, d12, d13, d14, d15, d16, d17, d18, d19, d20, d21, d22, d23, d24, d25⟩ := HQ.out _ HX1.out)
          | (go_at_call 54
             fail_if_success (first | have _x := HX2 | fail)
             have _y := HX1
             refine (HC2.out _ HX1.out).mono ?_
             rintro e w2 ⟨rfl, hex⟩
             have HX2 : Hid (Ex w0.heap.size none w0 w2) := Lib.hid (HX1.out.trans hex HX1.out.size (by simp))
             clear hex d0 d1 d2 d3 d4 d5 d6 d7 d8 d9 d10 d11 d12 d13 d14 d15 d16 d17 d18 d19 d20 d21 d22 d23 d24 d25
             obtain ⟨d0, d1, d2, d3, d4, d5, d6, d7, d8, d9, d10, d11, d12, d13, d14, d15, d16, d17, d18, d19, d20, d21, d22, d23, d24, d25⟩ := HQ.out _ HX2.out)
          | (go_at_call 55
             fail_if_success (first | have _x := HX3 | fail)
             have _y := HX2
             refine (HS1.out false _ HSA.out HX2.out).mono ?_
             rintro e w3 ⟨rfl, hex⟩
             have HX3 : Hid (Ex w0.heap.size none w0 w3) := Lib.hid (HX2.out.trans hex HX2.out.size (by simp))
             clear hex d0 d1 d2 d3 d4 d5 d6 d7 d8 d9 d10 d11 d12 d13 d14 d15 d16 d17 d18 d19 d20 d21 d22 d23 d24 d25)
          | fail)
        go_ret
        exact ⟨by rw [HI.out]; rfl, HE0.out.trans HX3.out (by omega) (by simp)⟩
    · have hrb : (r == 0) = false := by simpa using hr0
      have HI : Hid (forkCheckI s t = r) := Lib.hid (by rw [fcI_2 HP1.out (fun h => hr0 (HQ2.out.trans h))]; exact HQ2.out.symm)
      go_enter Tryz.func23, Tryz.ntmps23
      go_upto_region 1 with (fail)
      rw [← hw0]
      clear hw0
      go_wp2_with (first
        | (go_at_call 54
           fail_if_success (first | have _x := HX1 | fail)
           refine (HC1.out _ (Ex.refl _ _ _)).mono ?_
           rintro e w1 ⟨rfl, hex⟩
           have HX1 : Hid (Ex w0.heap.size none w0 w1) := Lib.hid (hex)
           clear hex d0 d1 d2 d3 d4 d5 d6 d7 d8 d9 d10 d11 d12 d13 d14 d15 d16 d17 d18 d19 d20 d21 d22 d23 d24 d25
           obtain ⟨d0, d1, d2, d3, d4, d5, d6, d7, d8, d9, d10, d11, d12, d13, d14, d15, d16, d17, d18, d19, d20, d21, d22, d23, d24, d25⟩ := HQ.out _ HX1.out)
        | (go_at_call 54
           fail_if_success (first | have _x := HX2 | fail)
           have _y := HX1
           refine (HC2.out _ HX1.out).mono ?_
           rintro e w2 ⟨rfl, hex⟩
           have HX2 : Hid (Ex w0.heap.size none w0 w2) := Lib.hid (HX1.out.trans hex HX1.out.size (by simp))
           clear hex d0 d1 d2 d3 d4 d5 d6 d7 d8 d9 d10 d11 d12 d13 d14 d15 d16 d17 d18 d19 d20 d21 d22 d23 d24 d25)
        | fail)
      go_ret
      exact ⟨by rw [HI.out]; rfl, HE0.out.trans HX2.out (by omega) (by simp)⟩
  · have hqb : (q == 0) = false := by simpa using hq0
    have HI : Hid (forkCheckI s t = q) := Lib.hid (by rw [fcI_1 (fun h => hq0 (HQ1.out.trans h))]; exact HQ1.out.symm)
    go_enter Tryz.func23, Tryz.ntmps23
    go_upto_region 1 with (fail)
    rw [← hw0]
    clear hw0
    go_wp2_with (first
      | (go_at_call 54
         fail_if_success (first | have _x := HX1 | fail)
         refine (HC1.out _ (Ex.refl _ _ _)).mono ?_
         rintro e w1 ⟨rfl, hex⟩
         have HX1 : Hid (Ex w0.heap.size none w0 w1) := Lib.hid (hex)
         clear hex d0 d1 d2 d3 d4 d5 d6 d7 d8 d9 d10 d11 d12 d13 d14 d15 d16 d17 d18 d19 d20 d21 d22 d23 d24 d25)
      | fail)
    go_ret
    exact ⟨by rw [HI.out]; rfl, HE0.out.trans HX1.out (by omega) (by simp)⟩
end Go.Proofs.YtoeklgbajggndaaGreat
