/- The chains that law04.ChainEnds makes, with their digests (reckoned by the kernel). No program in sight; no statement of the seat. | The digests of the chains of law04.ChainEnds that have up to three statements, reckoned by the kernel. No statement of the seat. | The digests of the chains of law04.ChainEnds that have four statements, reckoned by the kernel. No statement of the seat. | chain.back's iterator: a contract for whatever rounds, and the plain words of chain.Branch. No statement of the seat. | A range over chain.back's iterator, whatever its body: a law. No statement of the seat. | slices.Reverse at statements, over whatever program that bears it: a contract, after the guide's walk at numbers. No statement of the seat. | append of one statement to a slice of statements that the call owns, as a run and in a fence. No statement of the seat. | chain.back; the links of a chain laid into a map: parts of chain.Branch. No statement of the seat. -/
import Derived.Test.YtaakacahblndcaaMg09
import Derived.Test.YtaakacahblndcaaMg07
import Derived.Test.YtaakacahblndcaaMg01
import Derived.StringKeys
import Derived.Maps.OwnIn
import Derived.RangeFuncNested
import Derived.RangeFuncBound
import Derived.RangeFuncCalls
import Derived.RangeFuncLeaves
import Derived.Shelf.Abstract
import Derived.Shelf.RegionOpen
import Derived.OwnWalkIn
import Derived.TacticsInMore
import Derived.LoopNIn
import Derived.LoopIn
import Derived.Test.YtaakacahblndcaaMg02
import Derived.Test.YtaakacahblndcaaRows
import Derived.Test.YtaakacahblndcaaMg00
import Derived.Lib.SlicesMore
import Derived.Deep.LoopGhost
import Derived.Test.YtaakacahblndcaaMg03
import Derived.Laws.ResultCell
namespace Go.Proofs.Ytaakacahblndcaa
open Go.RowKit Go.Sort

/-- Two numbers differ, and what comes then. -/
noncomputable def nzN (a b : Nat) (k : Bool) : Bool := Nat.rec (motive := fun _ => Bool) false (fun _ _ => k) (Nat.add (Nat.sub a b) (Nat.sub b a))
noncomputable def uptoN (n : Nat) (f : Nat → Bool) : Bool := Nat.rec (motive := fun _ => Bool) true (fun i ih => Bool.rec false ih (f i)) n
/-- m more statements behind the k that are there, whatever their times; and a resignation at the end: neighbours have two digests. -/
noncomputable def chkE (m : Nat) (N : Nat) : Nat → Nat → Nat → Nat → Nat → Nat → Nat → Nat → Nat → Nat → Bool :=
  Nat.rec (motive := fun _ => Nat → Nat → Nat → Nat → Nat → Nat → Nat → Nat → Nat → Nat → Bool)
    (fun k t d0 d1 d2 d3 d4 d5 d6 d7 => stN3 1 k d0 d1 d2 d3 d4 d5 d6 d7 t 3 0 0 0 fun g0 _ _ _ _ _ _ _ => nzN d0 g0 true)
    (fun _ ih k t d0 d1 d2 d3 d4 d5 d6 d7 => uptoN 9 fun i => fc (Nat.add t i) fun u => stN3 1 k d0 d1 d2 d3 d4 d5 d6 d7 u 10 (Nat.sub N k) 0 0 fun e0 e1 e2 e3 e4 e5 e6 e7 => nzN d0 e0 (ih (Nat.succ k) u e0 e1 e2 e3 e4 e5 e6 e7)) m
noncomputable def chk0 (m : Nat) : Bool := stN2 1 0 50 10 (Nat.succ m) 0 0 fun a0 a1 a2 a3 a4 a5 a6 a7 => chkE m (Nat.succ m) 1 50 a0 a1 a2 a3 a4 a5 a6 a7
theorem nzN_true {a b : Nat} {k : Bool} (h : nzN a b k = true) : a ≠ b ∧ k = true := by
  unfold nzN at h
  cases hn : Nat.add (Nat.sub a b) (Nat.sub b a) with
  | zero => rw [hn] at h; cases h
  | succ n =>
    rw [hn] at h
    refine ⟨fun e => ?_, h⟩
    subst e
    have : Nat.add (Nat.sub a a) (Nat.sub a a) = 0 := by show (a - a) + (a - a) = 0; omega
    omega
theorem uptoN_true {n : Nat} {f : Nat → Bool} (h : uptoN n f = true) : ∀ i, i < n → f i = true := by
  induction n with
  | zero => intro i hi; omega
  | succ n ih =>
    unfold uptoN at h
    have h' : (Bool.rec false (uptoN n f) (f n) : Bool) = true := h
    intro i hi
    cases hf : f n with
    | false => rw [hf] at h'; cases h'
    | true =>
      rw [hf] at h'
      by_cases e : i = n
      · rw [e]; exact hf
      · exact ih h' i (by omega)
theorem eightU (r : List UInt32) (h : r.length = 8) : ∃ a0 a1 a2 a3 a4 a5 a6 a7, r = [a0, a1, a2, a3, a4, a5, a6, a7] := by
  match r, h with
  | [a0, a1, a2, a3, a4, a5, a6, a7], _ => exact ⟨a0, a1, a2, a3, a4, a5, a6, a7, rfl⟩

/-- The statement with the number k: behind one with the digest p, at a time, of a kind, that says a. -/
def eU (k : Nat) (p : ByteArray) (t ki a : Nat) : St := ⟨((1 : Nat) : Int), (k : Int), p, (t : Int), (ki : Int), (a : Int), ((0 : Nat) : Int), ((0 : Nat) : Int), [], [], ⟨#[]⟩, 0, ⟨#[]⟩⟩
def eS (k : Nat) (p : ByteArray) (t ki a : Nat) : St := sealS (eU k p t ki a)
theorem eS_dig (k : Nat) (p : ByteArray) (t ki a : Nat) : (eS k p t ki a).dig = sha (stB (eU k p t ki a)) := rfl
theorem eS_check {k : Nat} {p : ByteArray} {t ki a : Nat} (hi : k < 200) (h0 : k = 0 → p = ⟨#[]⟩) (h1 : 0 < k → p.size = 32) (ht : t ≤ 2147483648) (hk : 10 ≤ ki ∧ ki ≤ 31) (hA : a ≤ 1000) : checkI (eS k p t ki a) = 0 :=
  plain_check (au := 1) (by decide) hi h0 h1 ht hk hA
theorem gone_check {k : Nat} {p : ByteArray} {t : Nat} (hi : k < 200) (h0 : k = 0 → p = ⟨#[]⟩) (h1 : 0 < k → p.size = 32) (ht : t ≤ 2147483648) : checkI (eS k p t 3 0) = 0 := by
  have e1 : keyB ((1 : Nat) : Int) = true := keyB_iff.2 (by omega)
  have e2 : inB (k : Int) 199 = true := inB_iff.2 (by omega)
  have e4 : inB (t : Int) 2147483648 = true := inB_iff.2 (by omega)
  have e3 : ¬ (((k : Int) = 0 ∧ p ≠ ⟨#[]⟩) ∨ ((0 : Int) < (k : Int) ∧ p.size ≠ 32) ∨ pinsB [] = false) := by
    rintro (⟨h, h'⟩ | ⟨h, h'⟩ | h)
    · exact h' (h0 (by omega))
    · exact h' (h1 (by omega))
    · cases h
  have e6 : numB (eS k p t 3 0) = true := by
    have e7 : kindB (eS k p t 3 0) = true := by
      unfold kindB eS sealS eU
      simp only
      rw [if_neg (by omega), if_neg (by omega), if_pos (by omega)]
      rfl
    unfold numB
    rw [e7]
    unfold eS sealS eU
    simp only
    rw [e2]
    rfl
  unfold checkI
  rw [e6]
  unfold eS sealS eU
  simp only
  rw [if_neg (by rw [e1]; simp), if_neg (by omega), if_neg (by rw [e4]; simp), if_neg (by simp), if_neg (by decide), if_neg e3, if_neg (by simp)]
theorem eS_ok {k : Nat} {p : ByteArray} {t ki a : Nat} (h : checkI (eS k p t ki a) = 0) : okB 1 (eS k p t ki a) = true := okB_iff.2 ⟨rfl, h, sealS_sealed _⟩
/-- A chain of k statements on its way to N, the last one at the time t: what is reckoned from there on is so. -/
structure EndG (N k t : Nat) (l : List St) : Prop where
  num : NumL 1 l
  fol : FolL l
  len : l.length = k
  pos : 1 ≤ k
  le : k ≤ N
  last : ∃ q, l.getLast? = some q ∧ q.time = (t : Int) ∧ q.kind = 10 ∧ q.author = 1 ∧ q.number = ((k - 1 : Nat) : Int) ∧ ∃ d0 d1 d2 d3 d4 d5 d6 d7 : UInt32, q.dig = dgW [d0, d1, d2, d3, d4, d5, d6, d7] ∧ chkE (N - k) N k t d0.toNat d1.toNat d2.toNat d3.toNat d4.toNat d5.toNat d6.toNat d7.toNat = true
  kind : ∀ s ∈ l, s.kind = 10
  time : 50 ≤ t ∧ t ≤ 50 + 9 * k
theorem EndG.lastIs {N k t : Nat} {l : List St} (h : EndG N k t l) : ∃ q, l.getLast? = some q ∧ q.time = (t : Int) ∧ q.kind = 10 ∧ q.dig.size = 32 := by
  obtain ⟨q, h1, h2, h3, _, _, d0, d1, d2, d3, d4, d5, d6, d7, h4, _⟩ := h.last
  exact ⟨q, h1, h2, h3, by rw [h4]; exact dgW_size _ rfl⟩
theorem EndG.first {m : Nat} (h : chk0 m = true) (hm : m < 100) : EndG (m + 1) 1 50 [eS 0 ⟨#[]⟩ 50 10 (m + 1)] := by
  unfold chk0 at h
  obtain ⟨r, hr, e1, e2⟩ := stN2_eq 1 0 50 10 (Nat.succ m) 0 0 0 ⟨#[]⟩ (by omega) (by omega) (by omega) (by omega) (by omega) (by omega) (by omega) fun a0 a1 a2 a3 a4 a5 a6 a7 => chkE m (Nat.succ m) 1 50 a0 a1 a2 a3 a4 a5 a6 a7
  rw [e2] at h
  obtain ⟨a0, a1, a2, a3, a4, a5, a6, a7, rfl⟩ := eightU r hr
  have hc : checkI (eS 0 ⟨#[]⟩ 50 10 (m + 1)) = 0 := eS_check (by omega) (fun _ => rfl) (fun h => by omega) (by omega) (by omega) (by omega)
  have h1 : NumL 1 ([] ++ [eS 0 ⟨#[]⟩ 50 10 (m + 1)]) := (NumL.nil 1).snoc (eS_ok hc) rfl (by simp)
  have h2 : FolL ([] ++ [eS 0 ⟨#[]⟩ 50 10 (m + 1)]) := FolL.nil.snoc (by simp)
  refine ⟨h1, h2, rfl, by omega, by omega, ⟨_, rfl, rfl, rfl, rfl, rfl, a0, a1, a2, a3, a4, a5, a6, a7, e1, h⟩, by simp [eS, eU, sealS], by omega⟩
theorem EndG.step {N k t i : Nat} {l : List St} {q : St} (h : EndG N k t l) (hN : N ≤ 100) (hk : k < N) (hi : i < 9) (hq : l.getLast? = some q) : EndG N (k + 1) (t + i) (l ++ [eS k q.dig (t + i) 10 (N - k)]) := by
  have hT := h.time
  have hp := h.pos
  obtain ⟨q', hq', hqt, hqk, hqa, hqn, d0, d1, d2, d3, d4, d5, d6, d7, hd, hchk⟩ := h.last
  rw [hq] at hq'
  cases hq'
  obtain ⟨m, hm⟩ : ∃ m, N - k = m + 1 := ⟨N - k - 1, by omega⟩
  rw [hm] at hchk
  have h1 := uptoN_true (n := 9) (f := fun i => fc (Nat.add t i) fun u => stN3 1 k d0.toNat d1.toNat d2.toNat d3.toNat d4.toNat d5.toNat d6.toNat d7.toNat u 10 (Nat.sub N k) 0 0 fun e0 e1 e2 e3 e4 e5 e6 e7 => nzN d0.toNat e0 (chkE m N (Nat.succ k) u e0 e1 e2 e3 e4 e5 e6 e7)) hchk i hi
  simp only [fc_eq] at h1
  obtain ⟨r, hr, e1, e2⟩ := stN3_eq 1 k (Nat.add t i) 10 (Nat.sub N k) 0 0 d0 d1 d2 d3 d4 d5 d6 d7 0 ⟨#[]⟩ (by omega) (by omega) (by show t + i < _; omega) (by omega) (by show N - k < _; omega) (by omega) (by omega) fun e0 e1 e2 e3 e4 e5 e6 e7 => nzN d0.toNat e0 (chkE m N (Nat.succ k) (Nat.add t i) e0 e1 e2 e3 e4 e5 e6 e7)
  have h2 := e2.symm.trans h1
  obtain ⟨a0, a1, a2, a3, a4, a5, a6, a7, rfl⟩ := eightU r hr
  obtain ⟨h3, h4⟩ := nzN_true h2
  have e3 : (eS k q.dig (t + i) 10 (N - k)).dig = dgW [a0, a1, a2, a3, a4, a5, a6, a7] := by rw [eS_dig, hd]; exact e1
  have hc : checkI (eS k q.dig (t + i) 10 (N - k)) = 0 := eS_check (by omega) (fun h => by omega) (fun _ => by rw [hd]; exact dgW_size _ rfl) (by omega) (by omega) (by omega)
  have hdd : q.dig ≠ (eS k q.dig (t + i) 10 (N - k)).dig := fun e => by
    rw [e3, hd] at e
    exact h3 (congrArg UInt32.toNat (dgW_head e))
  refine ⟨h.num.snoc (eS_ok hc) (by rw [h.len]; rfl) fun s hs => by rw [hq] at hs; cases hs; exact hdd, h.fol.snoc fun s hs => ?_, by rw [List.length_append, h.len]; rfl, by omega, by omega, ⟨_, List.getLast?_concat, rfl, rfl, rfl, rfl, a0, a1, a2, a3, a4, a5, a6, a7, e3, ?_⟩, fun s hs => ?_, by omega⟩
  · rw [hq] at hs
    cases hs
    refine ⟨followsL_iff.2 ⟨hqa.symm, ?_, rfl, ?_⟩, by omega⟩
    · rw [hqn]; show (k : Int) = _; omega
    · rw [hqt]; show (t : Int) ≤ ((t + i : Nat) : Int); omega
  · rw [show N - (k + 1) = m by omega]
    exact h4
  · rcases List.mem_append.1 hs with hs | hs
    · exact h.kind s hs
    · rw [List.mem_singleton.1 hs]; rfl
/-- The resignation behind it. -/
theorem EndG.gone {N t : Nat} {l : List St} {q : St} (h : EndG N N t l) (hN : N ≤ 100) (hq : l.getLast? = some q) : checkI (eS N q.dig t 3 0) = 0 ∧ q.dig ≠ (eS N q.dig t 3 0).dig := by
  have hT := h.time
  have hp := h.pos
  obtain ⟨q', hq', hqt, hqk, hqa, hqn, d0, d1, d2, d3, d4, d5, d6, d7, hd, hchk⟩ := h.last
  rw [hq] at hq'
  cases hq'
  rw [Nat.sub_self] at hchk
  have h1 : (stN3 1 N d0.toNat d1.toNat d2.toNat d3.toNat d4.toNat d5.toNat d6.toNat d7.toNat t 3 0 0 0 fun g0 _ _ _ _ _ _ _ => nzN d0.toNat g0 true) = true := hchk
  obtain ⟨r, hr, e1, e2⟩ := stN3_eq 1 N t 3 0 0 0 d0 d1 d2 d3 d4 d5 d6 d7 0 ⟨#[]⟩ (by omega) (by omega) (by omega) (by omega) (by omega) (by omega) (by omega) fun g0 _ _ _ _ _ _ _ => nzN d0.toNat g0 true
  have h2 := e2.symm.trans h1
  obtain ⟨a0, a1, a2, a3, a4, a5, a6, a7, rfl⟩ := eightU r hr
  obtain ⟨h3, _⟩ := nzN_true h2
  have e3 : (eS N q.dig t 3 0).dig = dgW [a0, a1, a2, a3, a4, a5, a6, a7] := by rw [eS_dig, hd]; exact e1
  refine ⟨gone_check (by omega) (fun h => by omega) (fun _ => by rw [hd]; exact dgW_size _ rfl) (by omega), fun e => ?_⟩
  rw [e3, hd] at e
  exact h3 (congrArg UInt32.toNat (dgW_head e))
/-- With it the row counts wholly. -/
theorem EndG.withGone {N t : Nat} {l : List St} {q : St} (h : EndG N N t l) (hN : N ≤ 100) (hq : l.getLast? = some q) : NumL 1 (l ++ [eS N q.dig t 3 0]) ∧ FolL (l ++ [eS N q.dig t 3 0]) := by
  obtain ⟨h1, h2⟩ := h.gone hN hq
  have hp := h.pos
  obtain ⟨q', hq', hqt, hqk, hqa, hqn, _⟩ := h.last
  rw [hq] at hq'
  cases hq'
  refine ⟨h.num.snoc (eS_ok h1) (by rw [h.len]; rfl) fun s hs => by rw [hq] at hs; cases hs; exact h2, h.fol.snoc fun s hs => ?_⟩
  rw [hq] at hs
  cases hs
  refine ⟨followsL_iff.2 ⟨hqa.symm, ?_, rfl, ?_⟩, by omega⟩
  · rw [hqn]; show (N : Int) = _; omega
  · rw [hqt]; exact Int.le_refl _
/-- A statement whose time falls does not count. -/
theorem EndG.late {N t : Nat} {l : List St} {q : St} (h : EndG N N t l) (hN : N ≤ 100) (hq : l.getLast? = some q) {ls : List St} (hl : LinksR 1 (l ++ [eS N q.dig (t - 1) 10 0]) ls) : countN ls = l.length := by
  have hT := h.time
  have hp := h.pos
  obtain ⟨q', hq', hqt, hqk, hqs⟩ := h.lastIs
  rw [hq] at hq'
  cases hq'
  have hc : checkI (eS N q.dig (t - 1) 10 0) = 0 := eS_check (by omega) (fun h => by omega) (fun _ => hqs) (by omega) (by omega) (by omega)
  refine count_snoc h.num h.fol (eS_ok hc) (by rw [h.len]; rfl) hq (.inl ?_) hl
  cases hf : followsL q (eS N q.dig (t - 1) 10 0) with
  | false => rfl
  | true =>
    have h1 := (followsL_iff.1 hf).2.2.2
    rw [hqt] at h1
    have h2 : (t : Int) ≤ ((t - 1 : Nat) : Int) := h1
    omega
/-- Nor does what stands behind the resignation. -/
theorem EndG.after {N t : Nat} {l : List St} {q : St} (h : EndG N N t l) (hN : N ≤ 100) (hq : l.getLast? = some q) {ls : List St} (hl : LinksR 1 (l ++ [eS N q.dig t 3 0] ++ [eS (N + 1) (eS N q.dig t 3 0).dig 900 10 0]) ls) : countN ls = l.length + 1 := by
  obtain ⟨h1, h2⟩ := h.withGone hN hq
  have hc : checkI (eS (N + 1) (eS N q.dig t 3 0).dig 900 10 0) = 0 := eS_check (by omega) (fun h => by omega) (fun _ => by rw [eS_dig]; exact sha_size _) (by omega) (by omega) (by omega)
  have := count_snoc h1 h2 (eS_ok hc) (by rw [List.length_append, h.len]; rfl) List.getLast?_concat (.inr rfl) hl
  rw [this, List.length_append]
  rfl
end Go.Proofs.Ytaakacahblndcaa

namespace Go.Proofs.Ytaakacahblndcaa

theorem chk0_0 : chk0 0 = true := by kernel_rfl
theorem chk0_1 : chk0 1 = true := by kernel_rfl
theorem chk0_2 : chk0 2 = true := by kernel_rfl
end Go.Proofs.Ytaakacahblndcaa

namespace Go.Proofs.Ytaakacahblndcaa

theorem chk0_3 : chk0 3 = true := by kernel_rfl
theorem chk0_all {m : Nat} (h : m < 4) : chk0 m = true := by
  match m, h with
  | 0, _ => exact chk0_0
  | 1, _ => exact chk0_1
  | 2, _ => exact chk0_2
  | 3, _ => exact chk0_3
end Go.Proofs.Ytaakacahblndcaa

namespace Go.Proofs.Ytaakacahblndcaa
open Go.RowKit Go.Sort Go.Maps
attribute [local go_sem] Oper.semAt_some
attribute [local go_sem ↓] rowLoad_stv rowStore_stv rowLoad_lkv rowStore_lkv

/-- A key of the map of links. -/
def keyS (s : ByteArray) : Lit := .string s.data.toList
theorem keyS_inj {s t : ByteArray} (h : keyS s = keyS t) : s = t := by
  simp only [keyS, Lit.string.injEq] at h
  apply ByteArray.ext
  exact Array.ext' h
/-- What is stored for a link. -/
def storeL (x : St × Sv × Sv) : Lit × Value := (keyS x.1.dig, linkV x)
/-- The last link with a digest. -/
def lookX (X : List (St × Sv × Sv)) (d : ByteArray) : Option (St × Sv × Sv) := X.foldl (fun r x => if x.1.dig = d then some x else r) none
theorem lookX_snoc (X : List (St × Sv × Sv)) (x : St × Sv × Sv) (d : ByteArray) : lookX (X ++ [x]) d = if x.1.dig = d then some x else lookX X d := by
  unfold lookX; rw [List.foldl_append]; rfl
theorem lastV_look (X : List (St × Sv × Sv)) (d : ByteArray) : lastV (X.map storeL) (keyS d) = (lookX X d).map linkV := by
  induction X using snoc_ind with
  | nil => rfl
  | snoc X x ih =>
    rw [List.map_append, List.map_singleton, lastV_snoc, lookX_snoc, ih]
    by_cases h : x.1.dig = d
    · rw [if_pos h, if_pos (by simp [storeL, h])]; rfl
    · rw [if_neg h, if_neg (show ¬ (storeL x).1 = keyS d from fun e => h (keyS_inj e))]
theorem lookX_mem {X : List (St × Sv × Sv)} {d : ByteArray} {x : St × Sv × Sv} (h : lookX X d = some x) : x ∈ X ∧ x.1.dig = d := by
  induction X using snoc_ind with
  | nil => cases h
  | snoc X y ih =>
    rw [lookX_snoc] at h
    split at h
    · next e => cases h; exact ⟨by simp, e⟩
    · have := ih h; exact ⟨List.mem_append_left _ this.1, this.2⟩
/-- The link behind which another stands. -/
def beforeX (X : List (St × Sv × Sv)) (x : St × Sv × Sv) : Option (St × Sv × Sv) := (lookX X x.1.prev).filter fun y => followsL y.1 x.1
/-- From a link back, as far as each follows the one before. -/
def backX (X : List (St × Sv × Sv)) : Nat → St × Sv × Sv → List (St × Sv × Sv)
  | 0, _ => []
  | f + 1, x => x :: (match beforeX X x with
    | none => []
    | some y => backX X f y)
theorem backX_none {X : List (St × Sv × Sv)} {x : St × Sv × Sv} {f : Nat} (h : beforeX X x = none) : backX X (f + 1) x = [x] := by simp only [backX, h]
theorem backX_some {X : List (St × Sv × Sv)} {x y : St × Sv × Sv} {f : Nat} (h : beforeX X x = some y) : backX X (f + 1) x = x :: backX X f y := by simp only [backX, h]

theorem backX_len (X : List (St × Sv × Sv)) : ∀ (f : Nat) (x : St × Sv × Sv), (backX X f x).length ≤ f
  | 0, _ => Nat.le_refl _
  | f + 1, x => by
    cases h : beforeX X x with
    | none => rw [backX_none h]; simp
    | some y => rw [backX_some h]; have := backX_len X f y; simp; omega
theorem ownsMap_same {H : Type} {P : Program} {k : TypeId} {R : Value → Option (DataW H × List MemPlace)} {w w' : World} {b n : Nat} {D : DataW H} (h : w.ownsMap P k R b n D) (hb : w'.heap[b]? = w.heap[b]?) : w'.ownsMap P k R b n D := by
  obtain ⟨es, clock, h1, h2⟩ := h
  exact ⟨es, clock, hb.trans h1, h2⟩
/-- 'v, ok := m[k]' in a fence. -/
theorem wpListIn_lookV {F : Fence} {nF : Nat} {P : Program} (w : World) {ops : Array Oper} {rest : List Oper} {o : Oper} {a : Act} {Q : Exit → Act → World → Prop}
    (hg : o.guard = none) (m x : Operand) (t : TypeId) (hop : o.op = Op.lookup t m x true)
    (k e : TypeId) (K : Keyed P k) (ht : P.underlying t = some (.map k e)) (z : Value) (hz : (zeroValue e).run P w = .ok z w) (b n : Nat) (l : List (Lit × Value))
    (hm : a.eval m = .map (some b)) (hown : w.ownsMap P k valElem b n (mapV l)) (key : Value) (kl : Lit) (hx : a.eval x = key) (hkey : keyOf P k key = some kl) (hkl : WideAt.IsKeyLit kl)
    (v : Value) (ok : Bool) (hv : (lastV l kl).getD z = v) (hok : (lastV l kl).isSome = ok)
    (hK : wpListIn F nF P ops Q rest (a.put o.dst (.tuple #[v, .bool ok])) w) :
    wpListIn F nF P ops Q (o :: rest) a w := by
  refine wpListIn_plain hg fun K' hK' => ?_
  obtain ⟨u, ps, hrun, hr⟩ := hown.look_ok K ht hz (zd := .held z) (zp := []) rfl hkey
  have h1 := valElem_inv hr
  rw [mapV_at z hkl, hv] at h1
  cases h1
  rw [mapV_has hkl, hok] at hrun
  unfold Oper.wpIn
  refine ⟨by simp [Oper.about, hop], ?_⟩
  rw [Oper.semAt_plain F _ _ (by rw [hop]; intro c hc'; cases hc')]
  simp [execOp, hop, hm, hx, hrun, Result.andThen]
  exact hK' _ _ hK

/-- The cells of no link. -/
def zeroLk : St × Sv × Sv := (⟨0, 0, ⟨#[]⟩, 0, 0, 0, 0, 0, [], [], ⟨#[]⟩, 0, ⟨#[]⟩⟩, ⟨none, 0, 0⟩, ⟨none, 0, 0⟩)
theorem zeroLk_val (w : World) : (zeroValue 56).run Try.prog w = .ok (linkV zeroLk) w := Try.zeroValue56 w
/-- What a link's number says, read off a box. -/
def numAt (w : World) (g : Nat) : Nat := match w.cell? ⟨g, 1, none⟩ with
  | some (.int _ n) => n.toNat
  | _ => 0
theorem numAt_eq {w : World} {g : Nat} {x : St × Sv × Sv} {t : TypeId} {fr : Nat × Nat} (h : w.heap[g]? = some (.cells (linkV x).cells t fr)) : numAt w g = x.1.number.toNat := by
  unfold numAt
  rw [(linkV_cells5 h).2.1]

set_option maxHeartbeats 8000000 in
set_option maxRecDepth 100000 in
/-- The iterator, whatever the rounds do that keep what lies below N but block go. -/
theorem back1_in (l gx gm mb cnt N go : Nat) (X : List (St × Sv × Sv)) (x0 : St × Sv × Sv) (J Jx : List (St × Sv × Sv) → World → Prop) (W : World)
    (hX : ∀ x ∈ X, (0 ≤ x.1.number ∧ x.1.number ≤ 200) ∧ x.1.prev.size ≤ maxLen) (hx0 : x0 ∈ X) (hgx : gx < N ∧ gx ≠ go) (hgm : gm < N ∧ gm ≠ go ∧ gm ≠ gx) (hmb : mb < N ∧ mb ≠ go ∧ mb ≠ gx) (hN : N ≤ W.heap.size)
    (hJ : ∀ pre A B, J pre A → Ex A.heap.size (some gx) A B → J pre B)
    (hY : ∀ pre x W1, J pre W1 → x ∈ X → pre.length ≤ 200 → YieldAt Fence.wide 0 Try.prog l #[linkV x] W1 fun e W' => (e = .returned (.bool true) ∧ J (pre ++ [x]) W' ∧ Ex N (some go) W1 W') ∨ (e = .returned (.bool false) ∧ Jx (pre ++ [x]) W'))
    (hW1 : W.heap[gx]? = some (.cells (linkV x0).cells 56 (0, 0))) (hW2 : W.cell? ⟨gm, 0, none⟩ = some (.map (some mb))) (hW3 : W.ownsMap Try.prog 9 valElem mb cnt (mapV (X.map storeL))) (h0 : J [] W) :
    CallsIn Fence.wide 1 Try.prog 49 #[.func (.yield l) #[] #[], .pointer (some ⟨gx, 0, none⟩), .pointer (some ⟨gm, 0, none⟩)] W fun e W' => (∃ v, e = .returned v) ∧ (J (backX X 201 x0) W' ∨ ∃ pre rest, pre ++ rest = backX X 201 x0 ∧ Jx pre W') := by
  have HX := Lib.hid hX
  have HJ := Lib.hid hJ
  have HY := Lib.hid hY
  clear hX hJ hY
  refine callsIn_of_wp Try.func49 rfl trivial ?_ rfl
  simp only [Try.ntmps49, List.size_toArray, List.length_cons, List.length_nil, Nat.reduceAdd, Nat.reduceSub, Array.replicate_succ, Array.replicate_zero, List.push_toArray, List.append_toArray, List.nil_append, List.cons_append]
  gi_wp2
  gi_loopw [] (fun wr => ∃ (pre : List (St × Sv × Sv)) (x : St × Sv × Sv) (f : Nat), Hid (pre ++ backX X (f + 1) x = backX X 201 x0) ∧ x ∈ X ∧ x.1.number.toNat ≤ f ∧ Hid (wr.heap[gx]? = some (.cells (linkV x).cells 56 (0, 0))) ∧ wr.cell? ⟨gm, 0, none⟩ = some (.map (some mb)) ∧ Hid (wr.ownsMap Try.prog 9 valElem mb cnt (mapV (X.map storeL))) ∧ Hid (J pre wr) ∧ N ≤ wr.heap.size)
    (fun wr => numAt wr gx)
  case atStart => exact ⟨[], x0, 200, Lib.hid rfl, hx0, by have := (HX.out x0 hx0).1; omega, Lib.hid hW1, hW2, Lib.hid hW3, Lib.hid h0, hN⟩
  case round =>
    obtain ⟨pre, x, f, HP, hxm, hxf, HB, hcm, HM, HJp, hNr⟩ := hrel
    have hpl : pre.length ≤ 200 := by
      have h1 := congrArg List.length HP.out
      have h2 := backX_len X 201 x0
      have h3 : 1 ≤ (backX X (f + 1) x).length := by simp [backX]
      rw [List.length_append] at h1
      omega
    obtain ⟨fn, tmps, assign, body, hy, hR⟩ := HY.out pre x wr HJp.out hxm hpl
    have hl1 := linkV_box HB.out
    have HFL : Hid ((0 ≤ x.1.number ∧ x.1.number ≤ 200) ∧ x.1.prev.size ≤ maxLen) := Lib.hid (HX.out x hxm)
    gi_wp2
    refine hR.mono ?_
    rintro e W3 (⟨rfl, hJ3, hk3⟩ | ⟨rfl, hJx3⟩)
    · have HJ3 := Lib.hid hJ3
      have HK3 := Lib.hid hk3
      have hN3 : N ≤ W3.heap.size := Nat.le_trans hNr hk3.size
      have HB3 : Hid (W3.heap[gx]? = some (.cells (linkV x).cells 56 (0, 0))) := Lib.hid ((hk3.block gx hgx.1 (fun e => hgx.2 (Option.some.inj e))).trans HB.out)
      have hcm3 : W3.cell? ⟨gm, 0, none⟩ = some (.map (some mb)) := (World.cell?_of_block (w := wr) (a := ⟨gm, 0, none⟩) (hk3.block gm hgm.1 (fun e => hgm.2.1 (Option.some.inj e)))).trans hcm
      have HM3 : Hid (W3.ownsMap Try.prog 9 valElem mb cnt (mapV (X.map storeL))) := Lib.hid (ownsMap_same HM.out (hk3.block mb hmb.1 (fun e => hmb.2.1 (Option.some.inj e))))
      have hcp : W3.cell? ⟨gx, 2, none⟩ = some (.string x.1.prev) := (linkV_cells5 HB3.out).2.2.1
      clear hJ3 hk3 hl1 hcm hy hR
      cases hlk : lookX X x.1.prev with
      | none =>
        have HLK : Hid (lastV (X.map storeL) (keyS x.1.prev) = none) := Lib.hid (by rw [lastV_look, hlk]; rfl)
        have HBE : Hid (pre ++ [x] = backX X 201 x0) := Lib.hid (by rw [← HP.out, backX_none (show beforeX X x = none by unfold beforeX; rw [hlk]; rfl)])
        have hnew := linkV_new W3 #[.int .i64 0, .int .i64 0, .string ⟨#[]⟩, .int .i64 0, .int .i64 0, .int .i64 0, .int .i64 0, .int .i64 0, .slice none 0 0, .slice none 0 0, .string ⟨#[]⟩, .int .i64 0, .string ⟨#[]⟩, .string ⟨#[]⟩] zeroLk rfl
        clear hlk
        gi_wp2_with (gi_at_lookup; go_loud (refine wpListIn_lookV _ rfl _ _ _ (by rfl) 9 56 (string_keyed Try.underlying9) Try.underlying58 (linkV zeroLk) (zeroLk_val _) mb cnt (X.map storeL) (by rfl) HM3.out _ (keyS x.1.prev) (by rfl) (WideMaps.keyOf_string_mk Try.underlying9 HFL.out.2) trivial (linkV zeroLk) false (by rw [HLK.out]; rfl) (by rw [HLK.out]; rfl) ?_))
        refine ⟨trivial, ?_⟩
        gi_wp2
        refine bodyPost_ret (results_none rfl _ _ _) rfl ?_
        exact ⟨⟨_, rfl⟩, .inl (by rw [← HBE.out]; exact HJ.out _ _ _ HJ3.out ((Ex.refl _ _ W3).alloc (Nat.le_refl _) _))⟩
      | some y =>
        have HLK : Hid (lastV (X.map storeL) (keyS x.1.prev) = some (linkV y)) := Lib.hid (by rw [lastV_look, hlk]; rfl)
        have hym := (lookX_mem hlk).1
        have HFY := Lib.hid (HX.out y hym)
        have hnew := linkV_new W3 #[.int .i64 0, .int .i64 0, .string ⟨#[]⟩, .int .i64 0, .int .i64 0, .int .i64 0, .int .i64 0, .int .i64 0, .slice none 0 0, .slice none 0 0, .string ⟨#[]⟩, .int .i64 0, .string ⟨#[]⟩, .string ⟨#[]⟩] y rfl
        obtain ⟨fw, hfw⟩ : ∃ fw, fw = followsL y.1 x.1 := ⟨_, rfl⟩
        have HBF : Hid (beforeX X x = if fw then some y else none) := Lib.hid (by
          unfold beforeX; rw [hlk, hfw]
          cases h : followsL y.1 x.1 <;> simp [Option.filter, h])
        have HFW := Lib.hid hfw
        have HCF : Hid (∀ w', Calls Try.prog 24 #[linkV y, linkV x] w' fun e w'' => e = .returned (.bool fw) ∧ Ex w'.heap.size none w' w'') := Lib.hid (fun w' => by rw [hfw]; exact follows_v y x w' (by have := HFY.out.1; omega) (by have := HFL.out.1; omega))
        clear hlk hfw
        obtain ⟨W4, hW4⟩ : ∃ W4, W4 = W3.alloc (.cells (linkV y).cells 56) := ⟨_, rfl⟩
        have HE4 : Hid (Ex W3.heap.size none W3 W4) := Lib.hid (by rw [hW4]; exact Ex.new W3 _)
        have hz4 : W4.heap.size = W3.heap.size + 1 := by rw [hW4]; simp
        have HQ4 : Hid (∀ w', Ex W4.heap.size none W4 w' → w'.heap[W3.heap.size]? = some (.cells (linkV y).cells 56 (0, 0)) ∧ w'.heap[gx]? = some (.cells (linkV x).cells 56 (0, 0))) := Lib.hid (fun w' h => ⟨(h.block _ (by omega) (by simp)).trans (by rw [hW4]; exact heap_alloc_new W3 _), (h.block gx (by omega) (by simp)).trans ((HE4.out.block gx (by omega) (by simp)).trans HB3.out)⟩)
        have r1 := linkV_box (HQ4.out _ (Ex.refl _ _ W4)).1
        have r2 := linkV_box (HQ4.out _ (Ex.refl _ _ W4)).2
        rw [← hW4] at hnew
        clear hW4
        cases fw with
        | false =>
          gi_wp2_with (first
            | (gi_at_lookup; refine wpListIn_lookV _ rfl _ _ _ (by rfl) 9 56 (string_keyed Try.underlying9) Try.underlying58 (linkV zeroLk) (zeroLk_val _) mb cnt (X.map storeL) (by rfl) HM3.out _ (keyS x.1.prev) (by rfl) (WideMaps.keyOf_string_mk Try.underlying9 HFL.out.2) trivial (linkV y) true (by rw [HLK.out]; rfl) (by rw [HLK.out]; rfl) ?_)
            | (refine ⟨trivial, ?_⟩; gi_at_call 24; refine (callsIn_wide.2 (HCF.out _)).mono ?_; rintro e W5 ⟨rfl, hex⟩; have HE5 := Lib.hid hex; clear hex)
            | fail)
          refine bodyPost_ret (results_none rfl _ _ _) rfl ?_
          exact ⟨⟨_, rfl⟩, .inl (by rw [← HP.out, backX_none (show beforeX X x = none by rw [HBF.out]; rfl)]; exact HJ.out _ _ _ HJ3.out ⟨(HE4.out.trans HE5.out (by omega) (by simp)).os, (HE4.out.trans HE5.out (by omega) (by simp)).tape, (HE4.out.trans HE5.out (by omega) (by simp)).output, (HE4.out.trans HE5.out (by omega) (by simp)).size, fun b hb _ => (HE4.out.trans HE5.out (by omega) (by simp)).block b hb (by simp)⟩)⟩
        | true =>
          gi_wp2_with (first
            | (gi_at_lookup; refine wpListIn_lookV _ rfl _ _ _ (by rfl) 9 56 (string_keyed Try.underlying9) Try.underlying58 (linkV zeroLk) (zeroLk_val _) mb cnt (X.map storeL) (by rfl) HM3.out _ (keyS x.1.prev) (by rfl) (WideMaps.keyOf_string_mk Try.underlying9 HFL.out.2) trivial (linkV y) true (by rw [HLK.out]; rfl) (by rw [HLK.out]; rfl) ?_)
            | (refine ⟨trivial, ?_⟩; gi_at_call 24; refine (callsIn_wide.2 (HCF.out _)).mono ?_; rintro e W5 ⟨rfl, hex⟩
               have HE5 := Lib.hid hex
               have r3 := linkV_box (HQ4.out _ hex).1
               have hst : (rowStore 56 ⟨gx, 0, none⟩ (linkV y)).run Try.prog W5 = .ok () (W5.setRow gx (linkV y).cells) := run_rowStore (P := Try.prog) W5 gx 56 56 (linkV x).cells (linkV y).cells (HQ4.out _ hex).2 Try.sizeLkv rfl (linkV_one y)
               obtain ⟨W6, hW6⟩ : ∃ W6, W6 = W5.setRow gx (linkV y).cells := ⟨_, rfl⟩
               rw [← hW6] at hst
               have HW6 := Lib.hid hW6
               clear hex r1 r2 hW6)
            | fail)
          have HE6 : Hid (Ex W3.heap.size (some gx) W3 W6) := Lib.hid (by
            rw [HW6.out]
            have h := HE4.out.trans HE5.out (by omega) (by simp)
            have h' : Ex W3.heap.size (some gx) W3 W5 := ⟨h.os, h.tape, h.output, h.size, fun b hb _ => h.block b hb (by simp)⟩
            exact h'.setRow _ _ (.inl rfl))
          have HB6 : Hid (W6.heap[gx]? = some (.cells (linkV y).cells 56 (0, 0))) := Lib.hid (by rw [HW6.out]; exact setRow_heap _ _ _ _ _ _ (HQ4.out _ HE5.out).2)
          have hcm6 : W6.cell? ⟨gm, 0, none⟩ = some (.map (some mb)) := (World.cell?_of_block (w := W3) (a := ⟨gm, 0, none⟩) (HE6.out.block gm (by omega) (fun e => hgm.2.2 (Option.some.inj e)))).trans hcm3
          have HM6 : Hid (W6.ownsMap Try.prog 9 valElem mb cnt (mapV (X.map storeL))) := Lib.hid (ownsMap_same HM3.out (HE6.out.block mb (by omega) (fun e => hmb.2.2 (Option.some.inj e))))
          have hz6 : N ≤ W6.heap.size := Nat.le_trans hN3 HE6.out.size
          have HFO := Lib.hid (followsL_iff.1 HFW.out.symm)
          have hnum := HFO.out.2.1
          have hf1 : 1 ≤ f := by have h1 := HFY.out.1; have h2 := HFL.out.1; omega
          obtain ⟨f', rfl⟩ : ∃ f', f = f' + 1 := ⟨f - 1, by omega⟩
          go_roundw
          case rel => exact ⟨pre ++ [x], y, f', Lib.hid (by rw [← HP.out, backX_some (show beforeX X x = some y by rw [HBF.out]; rfl), List.append_assoc]; rfl), hym, by have h1 := HFY.out.1; omega, HB6, hcm6, HM6, Lib.hid (HJ.out _ _ _ HJ3.out HE6.out), hz6⟩
          case measure => rw [numAt_eq HB6.out, numAt_eq HB.out]; have h1 := HFY.out.1; omega
    · gi_wp2
      go_end0
      exact ⟨⟨_, rfl⟩, .inr ⟨pre ++ [x], (backX X (f + 1) x).drop 1, by rw [← HP.out, List.append_assoc]; congr 1, hJx3⟩⟩
end Go.Proofs.Ytaakacahblndcaa

namespace Go.Proofs.Ytaakacahblndcaa
open Go.RowKit Go.Sort Go.Maps

/-- All that lay there lies as it lay, but for three blocks. -/
def Beside (gx N : Nat) (A B : World) : Prop := A.heap.size ≤ B.heap.size ∧ B.os = A.os ∧ B.tape = A.tape ∧ B.output = A.output ∧ ∀ b, b < A.heap.size → b ≠ gx → b ≠ N → b ≠ N + 1 → B.heap[b]? = A.heap[b]?
theorem beside_putObj {gx N : Nat} {A : World} (l : Nat) (o : Obj) (hl : l = N ∨ l = N + 1) : Beside gx N A (A.putObj l o) :=
  ⟨by simp, rfl, rfl, rfl, fun b _ _ h1 h2 => World.putObj_heap_other (by rcases hl with h | h <;> omega)⟩
theorem beside_alloc {gx N : Nat} {A : World} (o : Obj) : Beside gx N A (A.alloc o) :=
  ⟨by simp, rfl, rfl, rfl, fun b hb _ _ _ => (Ex.new A o).block b hb (by simp)⟩
theorem beside_ex {gx N : Nat} {A B : World} (h : Ex A.heap.size (some gx) A B) : Beside gx N A B :=
  ⟨h.size, h.os, h.tape, h.output, fun b hb h1 _ _ => h.block b hb (fun e => h1 (Option.some.inj e))⟩
theorem OwnS.keepB {w w' : World} {base : Nat} {ao : Option Addr} {cap : Nat} {l : List St} (h : OwnS w base ao cap l) (hb : ∀ b, base ≤ b → b < w.heap.size → w'.heap[b]? = w.heap[b]?) : OwnS w' base ao cap l := by
  obtain ⟨xs, e, h1, h2⟩ := h
  refine ⟨xs, e, ⟨h1.1, ?_⟩, fun x hx => (h2 x hx).keep fun b h hlt => hb b h.1 hlt⟩
  rcases h1.2 with h | ⟨g, c, cur, e1, e2, e3, e4⟩
  · exact .inl h
  · exact .inr ⟨g, c, cur, e1, e2, (hb g e2 (Array.getElem?_eq_some_iff.1 e3).1).trans e3, e4⟩
/-- What a round's body owes. -/
def backPost (N go : Nat) (I Ix : List (St × Sv × Sv) → World → Prop) (xs : List (St × Sv × Sv)) (W : World) : Exit → Act → World → Prop
  | .normal, _, W' => Ex (N + 2) (some go) W W' ∧ I xs W'
  | .ret, _, W' => (W'.heap[N]? = W.heap[N]? ∧ W'.heap[N + 1]? = W.heap[N + 1]?) ∧ Ix xs W'
  | _, _, _ => False

set_option maxHeartbeats 2000000 in
theorem wpIn_rangeBack {n : Nat} {g : Operand} {p : Tmp} {assign body : Code} {Q : Exit → Act → World → Prop} {a : Act} {w : World}
    (N gx gm mb cnt go : Nat) (X : List (St × Sv × Sv)) (x0 : St × Sv × Sv) (hN : w.heap.size = N)
    (hX : ∀ x ∈ X, (0 ≤ x.1.number ∧ x.1.number ≤ 200) ∧ x.1.prev.size ≤ maxLen) (hx0 : x0 ∈ X) (hgo : go < N) (hgx : gx < N ∧ gx ≠ go) (hgm : gm < N ∧ gm ≠ go ∧ gm ≠ gx) (hmb : mb < N ∧ mb ≠ go ∧ mb ≠ gx)
    (hW1 : w.heap[gx]? = some (.cells (linkV x0).cells 56 (0, 0))) (hW2 : w.cell? ⟨gm, 0, none⟩ = some (.map (some mb))) (hW3 : w.ownsMap Try.prog 9 valElem mb cnt (mapV (X.map storeL)))
    (hg : a.eval g = .func (.func 49) #[] #[.pointer (some ⟨gx, 0, none⟩), .pointer (some ⟨gm, 0, none⟩)])
    (I Ix : List (St × Sv × Sv) → World → Prop) (hI : ∀ pre A B, I pre A → Beside gx N A B → I pre B) (hIx : ∀ pre A B, Ix pre A → Beside gx N A B → Ix pre B) (h0 : I [] w) (a₁ : St × Sv × Sv → Nat → Act)
    (hassign : ∀ (l : Nat) (x : St × Sv × Sv) (W : World) (K : Act → World → Prop) (gb : Nat), gb = W.heap.size → K (a₁ x gb) (W.alloc (.cells (linkV x).cells 56)) →
      assign.wpIn (Fence.wide.inRound l) 0 Try.prog (Exit.then K (fun _ _ _ => False)) { tmps := (#[p].zip #[linkV x]).foldl (fun t (q, v) => t.setIfInBounds q v) a.tmps, defers := [] } W)
    (hbody : ∀ (pre : List (St × Sv × Sv)) (x : St × Sv × Sv) (W : World) (gb : Nat), I pre W → x ∈ X → pre.length ≤ 200 → W.heap[gb]? = some (.cells (linkV x).cells 56 (0, 0)) → N + 2 ≤ gb → gb < W.heap.size →
      body.wpIn (Fence.wide.inRound (N + 1)) 0 Try.prog (backPost N go I Ix (pre ++ [x]) W) (a₁ x gb) W)
    (hdone : ∀ (W : World), I (backX X 201 x0) W → W.heap[N]? = some (.deferred (some [])) → Q .normal { a with defers := { target := .collected N, args := #[] } :: a.defers } W)
    (hstop : ∀ (pre rest : List (St × Sv × Sv)) (W : World), pre ++ rest = backX X 201 x0 → Ix pre W → W.heap[N]? = some (.deferred (some [])) → Q .ret { a with defers := { target := .collected N, args := #[] } :: a.defers } W) :
    (Code.rangeFunc g #[p] assign body).wpIn Fence.wide n Try.prog Q a w := by
  subst hN
  refine wpIn_rangeFunc ?_
  intro fn hfn
  obtain ⟨rec, hrec⟩ : ∃ rec : LoopState → Option Code → Loop, rec = fun st pe => { state := st, pending := pe, fn, tmps := a.tmps, params := #[p], assign, body, defers := w.heap.size } := ⟨_, rfl⟩
  obtain ⟨W1, hW1'⟩ : ∃ W1, (w.alloc (.deferred (some []))).alloc (.loop (rec .ready none)) = W1 := ⟨_, rfl⟩
  have hL1 : W1.heap[w.heap.size + 1]? = some (.loop (rec .ready none)) := by
    rw [← hW1']; have := World.alloc_heap_new (w.alloc (.deferred (some []))) (.loop (rec .ready none)); rwa [World.size_alloc] at this
  have hK1 : W1.heap[w.heap.size]? = some (.deferred (some [])) := by
    rw [← hW1']; exact (Below.heap_alloc _ _ _ (by simp)).trans (World.alloc_heap_new w _)
  have hS1 : W1.heap.size = w.heap.size + 2 := by rw [← hW1']; simp
  have hE1 : Ex w.heap.size none w W1 := by rw [← hW1']; exact (Ex.new w _).alloc (by simp) _
  have hI1 : I [] W1 := by rw [← hW1']; exact hI _ _ _ (hI _ _ _ h0 (beside_alloc _)) (beside_alloc _)
  refine ⟨w.heap.size + 1, [{ target := .collected w.heap.size, args := #[] }], W1, { target := .fn (.func 49) #[.pointer (some ⟨gx, 0, none⟩), .pointer (some ⟨gm, 0, none⟩)], args := #[.func (.yield (w.heap.size + 1)) #[] #[]] }, W1, 49,
    #[.func (.yield (w.heap.size + 1)) #[] #[]] ++ #[.pointer (some ⟨gx, 0, none⟩), .pointer (some ⟨gm, 0, none⟩)], W1, ?_, ?_, ?_, ?_, fun h => (by cases h), ?_⟩
  · rw [← hW1', hrec]; exact run_enterLoop_outer _ _ _ _ _
  · simp only [resolve, hg]
    simp [go_sem]
  · intro f' hf'; trivial
  · simp [invoke, go_sem]
  · refine ((callsIn_wide (n := n - 1)).2 ((callsIn_wide (n := 1)).1 (back1_in (w.heap.size + 1) gx gm mb cnt w.heap.size go X x0
      (fun pre W => I pre W ∧ W.heap[w.heap.size + 1]? = some (.loop (rec .ready none)) ∧ W.heap[w.heap.size]? = some (.deferred (some [])) ∧ w.heap.size + 2 ≤ W.heap.size)
      (fun pre W => Ix pre W ∧ W.heap[w.heap.size + 1]? = some (.loop (rec .done (some .ret))) ∧ W.heap[w.heap.size]? = some (.deferred (some [])))
      W1 hX hx0 hgx hgm hmb (by omega) ?_ ?_ ((hE1.block gx hgx.1 (by simp)).trans hW1) ((World.cell?_of_block (w := w) (a := ⟨gm, 0, none⟩) (hE1.block gm hgm.1 (by simp))).trans hW2) (ownsMap_same hW3 (hE1.block mb hmb.1 (by simp))) ⟨hI1, hL1, hK1, by omega⟩))).mono ?_
    · rintro pre A B ⟨hi, hl, hk, hs⟩ hex
      exact ⟨hI _ _ _ hi (beside_ex hex), (hex.block _ (by omega) (fun e => by have := Option.some.inj e; omega)).trans hl, (hex.block _ (by omega) (fun e => by have := Option.some.inj e; omega)).trans hk, Nat.le_trans hs hex.size⟩
    · rintro pre x W ⟨hi, hl, hk, hs⟩ hxm hpl
      have hy := run_yield (P := Try.prog) (args := #[linkV x]) hl (by rw [hrec]; rfl)
      rw [hrec] at hy
      refine ⟨fn, _, assign, body, hy, roundIn_of_wpIn hfn (hassign _ x W _ _ rfl ?_)⟩
      have hlA : (W.alloc (.cells (linkV x).cells 56)).heap[w.heap.size + 1]? = some (.loop (rec .ready none)) := ((Ex.new W _).block _ (by omega) (by simp)).trans hl
      have hkA : (W.alloc (.cells (linkV x).cells 56)).heap[w.heap.size]? = some (.deferred (some [])) := ((Ex.new W _).block _ (by omega) (by simp)).trans hk
      have hsA : (W.alloc (.cells (linkV x).cells 56)).heap.size = W.heap.size + 1 := by simp
      have hbA : (W.alloc (.cells (linkV x).cells 56)).heap[W.heap.size]? = some (.cells (linkV x).cells 56 (0, 0)) := heap_alloc_new W _
      have hiA := hI _ _ _ hi (beside_alloc (gx := gx) (N := w.heap.size) (.cells (linkV x).cells 56))
      have hEA : Ex (w.heap.size + 2) none W (W.alloc (.cells (linkV x).cells 56)) := (Ex.new W _).mono hs
      generalize W.alloc (.cells (linkV x).cells 56) = WA at hlA hkA hsA hbA hiA hEA ⊢
      refine ⟨_, run_beginRound hlA (by rw [hrec]), ?_⟩
      obtain ⟨WB, hWB⟩ : ∃ WB, WB = WA.putObj (w.heap.size + 1) (.loop { rec .ready none with state := .busy }) := ⟨_, rfl⟩
      have hlB : WB.heap[w.heap.size + 1]? = some (.loop { rec .ready none with state := .busy }) := by rw [hWB]; exact World.putObj_heap_same (by omega)
      have hkB : WB.heap[w.heap.size]? = some (.deferred (some [])) := by rw [hWB]; exact (World.putObj_heap_other (by omega)).trans hkA
      have hsB : WB.heap.size = W.heap.size + 1 := by rw [hWB]; simp; omega
      have hbB : WB.heap[W.heap.size]? = some (.cells (linkV x).cells 56 (0, 0)) := by rw [hWB]; exact (World.putObj_heap_other (by omega)).trans hbA
      have hiB := hI _ _ _ hiA (beside_putObj (gx := gx) (N := w.heap.size) (w.heap.size + 1) (.loop { rec .ready none with state := .busy }) (.inr rfl))
      rw [← hWB] at hiB ⊢
      have hEB : Ex w.heap.size none W WB := by
        rw [hWB]
        exact ⟨hEA.os, hEA.tape, hEA.output, by simp; omega, fun b hb _ => (World.putObj_heap_other (by omega)).trans (hEA.block b (by omega) (by simp))⟩
      clear hWB
      refine wpIn_mono (hbody pre x WB W.heap.size hiB hxm hpl hbB hs (by omega)) ?_
      rintro e a3 W3 hp
      cases e with
      | normal =>
        obtain ⟨hk3, hi3⟩ := hp
        have hl3 : W3.heap[w.heap.size + 1]? = some (.loop { rec .ready none with state := .busy }) := (hk3.block _ (by omega) (fun e => by have := Option.some.inj e; omega)).trans hlB
        have hd3 : W3.heap[w.heap.size]? = some (.deferred (some [])) := (hk3.block _ (by omega) (fun e => by have := Option.some.inj e; omega)).trans hkB
        have hr := run_endRound (P := Try.prog) none hl3
        refine ⟨_, _, hr, .inl ⟨rfl, ⟨hI _ _ _ hi3 (beside_putObj _ _ (.inr rfl)), ?_, (World.putObj_heap_other (by omega)).trans hd3, by have := hk3.size; simp; omega⟩, ?_⟩⟩
        · rw [World.putObj_heap_same (Array.getElem?_eq_some_iff.1 hl3).1, hrec]; rfl
        · have hE3 := hEB.trans (hk3.mono (show w.heap.size ≤ w.heap.size + 2 by omega)) (Nat.le_refl _) (p' := some go)
          exact ⟨hk3.os.trans hEB.os, hk3.tape.trans hEB.tape, hk3.output.trans hEB.output, by have := hk3.size; have := hEB.size; simp; omega, fun b hb hne => (World.putObj_heap_other (by omega)).trans ((hk3.block b (by omega) hne).trans (hEB.block b hb (by simp)))⟩
      | ret =>
        obtain ⟨⟨hd, hl⟩, hi3⟩ := hp
        have hl3 := hl.trans hlB
        have hd3 := hd.trans hkB
        have hr := run_endRound (P := Try.prog) (some .ret) hl3
        refine ⟨_, _, hr, .inr ⟨rfl, hIx _ _ _ hi3 (beside_putObj _ _ (.inr rfl)), ?_, (World.putObj_heap_other (by omega)).trans hd3⟩⟩
        rw [World.putObj_heap_same (Array.getElem?_eq_some_iff.1 hl3).1, hrec]; rfl
      | exit id => exact hp.elim
      | goto t => exact hp.elim
      | panic ch => exact hp.elim
      | outgrown => exact hp.elim
    · rintro e W2 ⟨⟨v, rfl⟩, (⟨hi, hl, hk, hs⟩ | ⟨pre, rest, hpr, hi, hl, hk⟩)⟩
      · have hr := run_endLoop (P := Try.prog) hl (by rw [hrec]; simp)
        refine ⟨none, _, by have h9 := hr; rw [hrec] at h9; exact h9, ?_⟩
        exact hdone _ (hI _ _ _ hi (beside_putObj _ _ (.inr rfl))) ((World.putObj_heap_other (by omega)).trans hk)
      · have hr := run_endLoop (P := Try.prog) hl (by rw [hrec]; simp)
        refine ⟨some .ret, _, by have h9 := hr; rw [hrec] at h9; exact h9, ?_⟩
        exact wpIn_ret (hstop pre rest _ hpr (hIx _ _ _ hi (beside_putObj _ _ (.inr rfl))) ((World.putObj_heap_other (by omega)).trans hk))
end Go.Proofs.Ytaakacahblndcaa

namespace Go.Proofs.Ytaakacahblndcaa
open Go.RowKit Go.Sort Go.Lib

/-- What slices.Reverse leans on of a program. -/
structure LayRev (P : Program) (k : Nat) : Prop where
  mixed : P.follows .mixedOrders = true
  fR : P.funcs[26]? = some Try.f26
  t0 : P.underlying 0 = some (TypeDesc.tuple #[])
  a0 : ∀ w, (isAgg 0).run P w = .ok false w
  z0 : ∀ w, (Go.sizeOf 0).run P w = .ok 1 w
  v0 : ∀ w, (zeroValue 0).run P w = .ok (Value.tuple #[]) w
  t1 : P.underlying 3 = some (TypeDesc.int IntKind.i64)
  a1 : ∀ w, (isAgg 3).run P w = .ok false w
  z1 : ∀ w, (Go.sizeOf 3).run P w = .ok 1 w
  v1 : ∀ w, (zeroValue 3).run P w = .ok (Value.int IntKind.i64 0) w
  t2 : P.underlying 4 = some (TypeDesc.bool)
  a2 : ∀ w, (isAgg 4).run P w = .ok false w
  z2 : ∀ w, (Go.sizeOf 4).run P w = .ok 1 w
  v2 : ∀ w, (zeroValue 4).run P w = .ok (Value.bool false) w
  t4 : P.underlying 27 = some (TypeDesc.slice 33)
  a4 : ∀ w, (isAgg 27).run P w = .ok false w
  z4 : ∀ w, (Go.sizeOf 27).run P w = .ok 1 w
  v4 : ∀ w, (zeroValue 27).run P w = .ok (Value.slice none 0 0) w
  aE : ∀ w, (isAgg 33).run P w = .ok true w
  zE : ∀ w, (Go.sizeOf 33).run P w = .ok k w
theorem layRev : LayRev Try.prog 13 := {
  mixed := by kernel_rfl
  fR := Try.func26
  t0 := Try.underlying0
  a0 := Try.isAgg0
  z0 := Try.sizeOf0
  v0 := Try.zeroValue0
  t1 := Try.underlying3
  a1 := Try.isAgg3
  z1 := Try.sizeOf3
  v1 := Try.zeroValue3
  t2 := Try.underlying4
  a2 := Try.isAgg4
  z2 := Try.sizeOf4
  v2 := Try.zeroValue4
  t4 := Try.underlying27
  a4 := Try.isAgg27
  z4 := Try.sizeOf27
  v4 := Try.zeroValue27
  aE := Try.isAgg33
  zE := Try.sizeOf33 }

variable {P : Program} {α : Type} [Inhabited α]
set_option maxHeartbeats 8000000 in
set_option maxRecDepth 1000000 in
theorem reverseK_any {k : Nat} (L : LayRev P k) (enc : α → List Value) (hk : ∀ x, (enc x).length = k) (h1 : ∀ x, ∀ v ∈ enc x, v.oneCell' = true) (g off cap n : Nat) (d : Array α) (w : World) (hH : HoldsK enc k w g off d) (hg : g < w.heap.size) (hn : d.size = n) (hsz : n ≤ 1000000) (cur : Array Value) (ty : TypeId) (fr : Nat × Nat) (hB : w.heap[g]? = some (.cells cur ty fr)) :
    Calls P 26 #[.slice (some ⟨g, off, none⟩) n cap] w fun e w' => e = .returned (.tuple #[]) ∧ HoldsK enc k w' g off d.reverse ∧ Ex w.heap.size (some g) w w' ∧ ∃ cur', w'.heap[g]? = some (.cells cur' ty fr) ∧ cur'.size = cur.size := by
  have mixed := L.mixed; have t0 := L.t0; have a0 := L.a0; have z0 := L.z0; have v0 := L.v0; have t1 := L.t1; have a1 := L.a1; have z1 := L.z1; have v1 := L.v1; have t2 := L.t2; have a2 := L.a2; have z2 := L.z2; have v2 := L.v2; have t4 := L.t4; have a4 := L.a4; have z4 := L.z4; have v4 := L.v4; have aE := L.aE; have zE := L.zE
  have u4 := run_underlying L.t4
  have HK : Hid (∀ x, (enc x).length = k) := hk
  have H1 : Hid (∀ x, ∀ v ∈ enc x, v.oneCell' = true) := h1
  clear hk h1
  go_enter L.fR, Try.ntmps26
  go_wp2
  go_loopg [2, 3] n (fun kk s2 s3 wr => ∃ (i jn : Nat) (jz : Int) (dk : Array α), s2 = .int .i64 i ∧ s3 = .int .i64 jz ∧ ((i : Int) < jz → jz = jn ∧ jn < n) ∧ (¬ (i : Int) < jz → ¬ i < jn) ∧ jn - i ≤ kk ∧
    dk.size = n ∧ HoldsK enc k wr g off dk ∧ Ex w.heap.size (some g) w wr ∧ reverseLoop i jn dk = reverseLoop 0 (n - 1) d ∧ Hid (∃ cur', wr.heap[g]? = some (.cells cur' ty fr) ∧ cur'.size = cur.size))
  case atStart => exact ⟨0, n - 1, (n : Int) - 1, d, rfl, rfl, fun h => ⟨by omega, by omega⟩, fun h => by omega, by omega, hn, hH, Ex.refl _ _ _, rfl, Lib.hid ⟨cur, hB, rfl⟩⟩
  case round =>
    obtain ⟨i, jn, jz, dk, rfl, rfl, c1, c2, hkk, hdk, hHk, hex, heq, HCB⟩ := hrel
    have hsz' := hex.size
    by_cases hlt : (i : Int) < jz
    · obtain ⟨rfl, hjn⟩ := c1 hlt
      have hij : i < jn := by omega
      have hHd : HoldsK enc k wr.drew g off dk := hHk
      obtain ⟨vx, hvx⟩ : ∃ v, dk[i]! = v := ⟨_, rfl⟩
      obtain ⟨vy, hvy⟩ : ∃ v, dk[jn]! = v := ⟨_, rfl⟩
      have bnd : ∀ x, x < dk.size → x * k + k ≤ dk.size * k := fun x hx => by
        have := Nat.mul_le_mul_right k (show x + 1 ≤ dk.size from hx); rwa [Nat.add_mul, Nat.one_mul] at this
      have lx : Sem.run P (loadCellsFrom ⟨g, off + i * k, none⟩ 0 k #[]) wr.drew = .ok (enc vx).toArray wr.drew := by rw [← hvx]; exact run_loadCellsFrom_list P _ _ _ k (HK.out _) (HoldsK.cells hHd HK.out (by omega))
      have ly : Sem.run P (loadCellsFrom ⟨g, off + jn * k, none⟩ 0 k #[]) wr.drew = .ok (enc vy).toArray wr.drew := by rw [← hvy]; exact run_loadCellsFrom_list P _ _ _ k (HK.out _) (HoldsK.cells hHd HK.out (by omega))
      have s1 : Sem.run P (storeCells ⟨g, off + i * k, none⟩ (enc vy) 0) wr.drew = .ok () (wr.drew.setCells g (off + i * k) (enc vy)) := stores_of_holds P hHd (i * k) _ (by rw [HK.out, size_flatK]; exact bnd i (by omega)) (H1.out _)
      have s2 : Sem.run P (storeCells ⟨g, off + jn * k, none⟩ (enc vx) 0) (wr.drew.setCells g (off + i * k) (enc vy)) = .ok () ((wr.drew.setCells g (off + i * k) (enc vy)).setCells g (off + jn * k) (enc vx)) :=
        stores_of_holds P (holds_setCells_c hHd (i * k) _ (by rw [HK.out, size_flatK]; exact bnd i (by omega))) (jn * k) _ (by rw [HK.out, size_setMany, size_flatK]; exact bnd jn (by omega)) (H1.out _)
      have hsX : (enc vx).length = k := HK.out _
      have hsY : (enc vy).length = k := HK.out _
      clear bnd
      have HHk := Lib.hid hHk
      clear hHd hHk
      obtain ⟨cX, hcX⟩ : ∃ c, c = enc vx := ⟨_, rfl⟩
      obtain ⟨cY, hcY⟩ : ∃ c, c = enc vy := ⟨_, rfl⟩
      rw [← hcX] at lx hsX
      rw [← hcY] at ly hsY
      rw [← hcY] at s1
      rw [← hcX, ← hcY] at s2
      have CC : Hid (cX = enc vx ∧ cY = enc vy ∧ dk[i]! = vx ∧ dk[jn]! = vy) := ⟨hcX, hcY, hvx, hvy⟩
      clear hcX hcY hvx hvy
      have HD := Lib.hid hdk
      have HEQ := Lib.hid heq
      have HEX := Lib.hid hex
      clear hdk heq hex c1 c2 hH hn
      go_wp2_with fail
      go_big_region_o
      all_goals go_wp2
      go_roundg (jn - 1 - (i + 1))
      case measure => omega
      case rel =>
        have hdk := HD.out
        obtain ⟨k1, k2⟩ := swapWorldK enc k HK.out wr g off dk i jn HHk.out (by omega) (by omega) (by omega)
        have heq := HEQ.out
        rw [reverseLoop, if_pos hij] at heq
        refine ⟨i + 1, jn - 1, (jn : Int) - 1, swp dk i jn, by go_num, rfl, fun h => ⟨by omega, by omega⟩, fun h => by omega, Nat.le_refl _, by rw [size_swp]; exact hdk, ?_, ?_, heq, Lib.hid ?_⟩
        · rw [CC.out.1, CC.out.2.1, ← CC.out.2.2.1, ← CC.out.2.2.2]; exact k1
        · rw [CC.out.1, CC.out.2.1, ← CC.out.2.2.1, ← CC.out.2.2.2]; exact HEX.out.trans k2 hsz' (fun q e _ => by cases e; rfl)
        · obtain ⟨cu, hcu, hcs⟩ := HCB.out
          obtain ⟨cv, hcv, hcs2⟩ := setCells_there (w := wr.drew) cY (off + i * k) hcu
          obtain ⟨cz, hcz, hcs3⟩ := setCells_there cX (off + jn * k) hcv
          exact ⟨cz, hcz, by omega⟩
    · have hnot := c2 hlt
      go_wp2
      go_end0
      rw [reverseLoop, if_neg hnot] at heq
      refine ⟨rfl, ?_, hex, HCB.out⟩
      have e := reverseLoop_reverse d
      rw [hn] at e
      rw [← e, ← heq]; exact hHk

theorem reverseSt_none (p : Option Addr) (cap : Nat) (w : World) : Calls Try.prog 26 #[.slice p 0 cap] w fun e w' => e = .returned (.tuple #[]) ∧ w' = w := by
  go_enter Try.func26, Try.ntmps26
  go_wp2
  go_loopw [2, 3] (fun a b wr => a = .int .i64 0 ∧ b = .int .i64 (-1) ∧ wr = w) (fun _ _ _ => 0)
  case atStart => exact ⟨rfl, rfl, rfl⟩
  case round =>
    obtain ⟨rfl, rfl, rfl⟩ := hrel
    go_wp2
    go_end0
    exact ⟨rfl, rfl⟩
/-- slices.Reverse at an owned row of statements. -/
theorem reverse_own (base n rc : Nat) (ro : Option Addr) (l : List St) (w : World) (hO : OwnS w base ro rc l) (hn : l.length = n) (hm : n ≤ 1000000) (hb : base ≤ w.heap.size) :
    Calls Try.prog 26 #[.slice ro n rc] w fun e w' => e = .returned (.tuple #[]) ∧ OwnS w' base ro rc l.reverse ∧ Ex base none w w' ∧ Ex w.heap.size (rowOf ro) w w' := by
  obtain ⟨xs, hxs, hown, hlies⟩ := hO
  have hxl : xs.length = n := by rw [← hn, ← hxs]; simp
  have hres : xs.reverse.map (·.1) = l.reverse := by rw [List.map_reverse, hxs]
  rcases hown.2 with ⟨e, e2⟩ | ⟨g, cap, cur, e, hg, hh, hnc, hcm, hcs, htk⟩
  · have hl0 : xs = [] := List.eq_nil_of_length_eq_zero e2
    obtain rfl : n = 0 := by rw [← hxl, hl0]; rfl
    have hl1 : l = [] := by rw [← hxs, hl0]; rfl
    subst hl1
    exact (reverseSt_none ro rc w).mono fun e w' ⟨h1, h2⟩ => by subst h2; exact ⟨h1, ⟨xs, by rw [hxs]; rfl, hown, hlies⟩, Ex.refl _ _ _, Ex.refl _ _ _⟩
  · simp only [Value.slice.injEq] at e
    obtain ⟨rfl, _, rfl⟩ := e
    have hgw : g < w.heap.size := (Array.getElem?_eq_some_iff.1 hh).1
    refine (reverseK_any layRev stE stE_len one_stE g 0 rc n xs.toArray w (hown.holds stE_len) hgw (by simpa using hxl) hm cur _ _ hh).mono ?_
    rintro e w' ⟨rfl, hH, hex, cur', hc1, hc2⟩
    have hE : Ex base none w w' := ⟨hex.os, hex.tape, hex.output, hex.size, fun b hb' _ => hex.block b (by omega) (fun e => by have := Option.some.inj e; omega)⟩
    refine ⟨rfl, ⟨xs.reverse, hres, ?_, fun x hx => ?_⟩, hE, hex⟩
    · refine own_of_cells (n := xs.length) stE_len hg hc1 (by rw [List.length_reverse]) hnc hcm (by rw [hc2]; exact hcs) fun j v hj => ?_
      have hl := flatL_len stE_len xs.reverse
      have hjl := (List.getElem?_eq_some_iff.1 hj).1
      rw [hl] at hjl
      have hm1 : j / 13 * 13 + j % 13 = j := Nat.div_add_mod' j 13
      have hq : j / 13 < xs.reverse.length := by omega
      have hc : j % 13 < 13 := Nat.mod_lt _ (by decide)
      have e1 := flatL_get stE_len xs.reverse (j / 13) (j % 13) hq hc
      rw [hm1, hj] at e1
      have hr := holdsK_range stE_len hH (j / 13) (by simpa using hq)
      have e3 : (xs.toArray.reverse)[j / 13]! = xs.reverse[j / 13] := by
        rw [getElem!_pos (xs.toArray.reverse) (j / 13) (by simpa using hq)]
        simp
      rw [e3] at hr
      have := hr (j % 13) v e1.symm
      rw [show 0 + j / 13 * 13 + j % 13 = j by omega] at this
      exact this
    · exact (hlies x (List.mem_reverse.1 hx)).keep fun b hb' hlt => hex.block b hlt (fun e => hb'.2 e.symm)
end Go.Proofs.Ytaakacahblndcaa

namespace Go.Proofs.Ytaakacahblndcaa
open Go.RowKit Go.Sort

theorem run_appOne {P : Program} {w : World} (t ty : TypeId) (ht : P.underlying t = some (.slice 33))
    (hinfo : (P.info? 33).map (fun i => (i.zero, i.size, i.bytes)) = some (some (.agg #[.int .i64 0, .int .i64 0, .string ⟨#[]⟩, .int .i64 0, .int .i64 0, .int .i64 0, .int .i64 0, .int .i64 0, .slice none 0 0, .slice none 0 0, .string ⟨#[]⟩, .int .i64 0, .string ⟨#[]⟩]), 13, 160))
    (rb base : Nat) (ao : Option Addr) (cap n : Nat) (l : List St) (hn : l.length = n) (g : Nat) (y : St × Sv × Sv)
    (hown : OwnT w rb base ao cap l) (hc : ∀ (j : Nat) (v : Value), (stE y)[j]? = some v → w.cell? ⟨g, j, none⟩ = some v) (hx : Lies (fun b => base ≤ b ∧ rowOf ao ≠ some b) w y) (hlen : n + 1 ≤ 10000000) (hbase : rb ≤ w.heap.size) :
    ∃ ao' cap' w', (Builtin.append_ #[t, t] ty #[.slice ao n cap, .slice (some ⟨g, 0, none⟩) 1 1]).run P w = .ok (.slice ao' (n + 1) cap') w' ∧ OwnT w' rb base ao' cap' (l ++ [y.1]) ∧ Ex rb none w w' ∧ ∀ b, b < w.heap.size → rowOf ao ≠ some b → w'.heap[b]? = w.heap[b]? := by
  subst hn
  obtain ⟨i0, hi, hz0, hz1, hz2⟩ := info_parts hinfo
  obtain ⟨xs, rfl, h1, h2⟩ := hown
  have e1 : (xs.map (·.1)).length = xs.length := by simp
  rw [e1] at hlen ⊢
  have hc' : ∀ (j : Nat) (v : Value), (flatL stE [y])[j]? = some v → w.cell? ((⟨g, 0, none⟩ : Addr).add j) = some v := fun j v hj => by
    have h3 : (stE y)[j]? = some v := by simpa [flatL] using hj
    rw [Addr.add_lit, Nat.zero_add]; exact hc j v h3
  obtain ⟨v', w', hr, ho', hg, _, hnew⟩ := run_append_own_at (P := P) w rb t ty 33 i0 _ 13 160 ht hi hz0 hz1 hz2 rfl (by decide) _ _ _ h1 ⟨g, 0, none⟩ 1 1 (flatL stE [y]) (flatL_len stE_len [y]) hc' (flatL_one one_stE [y]) (by simp only [maxLen]; omega) (by omega) hbase
  obtain ⟨ao', cap', rfl⟩ := own_shape ho'
  have hrow : (Value.slice ao xs.length cap).ownBlock = rowOf ao := by cases ao <;> rfl
  have hrow' : (Value.slice ao' (xs.length + 1) cap').ownBlock = rowOf ao' := by cases ao' <;> rfl
  rw [hrow] at hg hnew
  rw [hrow'] at hnew
  have hkeep : ∀ y, Lies (fun b => base ≤ b ∧ rowOf ao ≠ some b) w y → Lies (fun b => base ≤ b ∧ rowOf ao' ≠ some b) w' y := fun y hy => by
    refine Lies.mono (P := fun b => (base ≤ b ∧ rowOf ao ≠ some b) ∧ b < w.heap.size) (Lies.keep (w := w) (hy.mono fun b hb hlt => ⟨hb, hlt⟩) fun b hb hlt => hg.block b hlt (fun e => hb.1.2 e.symm)) (fun b hb _ => ⟨hb.1.1, fun e => ?_⟩)
    rcases hb with ⟨⟨_, hb1⟩, hb2⟩
    rcases hnew with h0 | h0
    · exact hb1 (h0 ▸ e)
    · rw [e] at h0; cases h0; omega
  refine ⟨ao', cap', w', hr, ⟨xs ++ [y], by simp, ?_, fun z hz => ?_⟩, ?_⟩
  · unfold OwnE
    have e2 : flatL stE (xs ++ [y]) = flatL stE xs ++ flatL stE [y] := by simp [flatL]
    rw [e2, List.length_append]; exact ho'
  · simp only [List.mem_append, List.mem_singleton] at hz
    rcases hz with hz | rfl
    · exact hkeep z (h2 z hz)
    · exact hkeep z hx
  · refine ⟨⟨hg.os, hg.tape, hg.output, hg.size, fun k hk _ => hg.block k (by omega) (fun e => ?_)⟩, fun b hb hne => hg.block b hb (fun e => hne e.symm)⟩
    cases ao with
    | none => cases e
    | some ad =>
      have := (h1.lt ad rfl).1
      simp [rowOf] at e
      omega
/-- A block of another kind is not the row. -/
theorem OwnS.other {w : World} {base : Nat} {ao : Option Addr} {cap : Nat} {l : List St} (h : OwnS w base ao cap l) {b : Nat} {cs : Array Value} {t : TypeId} {fr : Nat × Nat} (hb : w.heap[b]? = some (.cells cs t fr)) (ht : t ≠ 33) : rowOf ao ≠ some b := by
  obtain ⟨xs, _, h1, _⟩ := h
  rcases h1.2 with ⟨e, _⟩ | ⟨g, cap', cur, e, hg, hh, _⟩
  · injection e with e1
    subst e1
    intro h; cases h
  · injection e with e1
    subst e1
    intro h
    simp only [rowOf, Option.map_some, Option.some.injEq] at h
    subst h
    rw [hh] at hb
    simp only [Option.some.injEq, Obj.cells.injEq] at hb
    exact ht hb.2.1.symm
/-- append in one word: the walk looks up its run. -/
def appR (ats : Array TypeId) (ty : TypeId) (args : Array Value) : Sem Value := Builtin.append_ ats ty args
theorem builtin_appR (ats : Array TypeId) (ty : TypeId) (cs : Array Bool) (args : Array Value) : builtin .append ats ty cs args = (do pure (.value (← appR ats ty args))) := rfl
theorem run_appSt {w : World} (rb base : Nat) (ao : Option Addr) (cap n : Nat) (l : List St) (hn : l.length = n) (g : Nat) (y : St × Sv × Sv) (hown : OwnT w rb base ao cap l)
    (hc : w.heap[g]? = some (.cells (stV y).cells 33 (0, 0))) (hx : Lies (fun b => base ≤ b ∧ rowOf ao ≠ some b) w y) (hlen : n + 1 ≤ 10000000) (hbase : rb ≤ w.heap.size) :
    ∃ ao' cap' w', (appR #[27, 27] 27 #[.slice ao n cap, .slice (some ⟨g, 0, none⟩) 1 1]).run Try.prog w = .ok (.slice ao' (n + 1) cap') w' ∧ OwnT w' rb base ao' cap' (l ++ [y.1]) ∧ Ex rb none w w' ∧ ∀ b, b < w.heap.size → rowOf ao ≠ some b → w'.heap[b]? = w.heap[b]? :=
  run_appOne _ _ Try.underlying27 Try.infoSt rb base ao cap n l hn g y hown (fun j v hj => by rw [cell_of_row _ _ _ _ _ _ hc, stV_cells]; simpa using hj) hx hlen hbase
end Go.Proofs.Ytaakacahblndcaa

namespace Go.Proofs.Ytaakacahblndcaa
open Go.RowKit Go.Sort Go.Maps
attribute [local go_sem ↓] rowLoad_stv rowStore_stv rowBuild_stv rowLoad_lkv rowStore_lkv

/-- A row of links, all told. -/
theorem links_all {P : Nat → Prop} {w : World} {ao : Option Addr} {ls : List St} (h : SlAt linkRep P w ao ls) :
    ∃ X : List (St × Sv × Sv), X.map (·.1) = ls ∧ (∀ x ∈ X, Lies P w x) ∧ ∀ (i : Nat) (x : St × Sv × Sv), X[i]? = some x → ∃ b off, ao = some ⟨b, off, none⟩ ∧ P b ∧ b < w.heap.size ∧ w.rangeAt b (off + i * 14) (linkE x) := by
  have hc : ∀ i : Fin ls.length, ∃ lp : Sv × Sv, Lies P w (ls[i.1], lp.1, lp.2) ∧ ∃ b off, ao = some ⟨b, off, none⟩ ∧ P b ∧ b < w.heap.size ∧ w.rangeAt b (off + i.1 * 14) (linkE (ls[i.1], lp.1, lp.2)) := fun i => by
    obtain ⟨b, off, x, e, hp, hb, hx, hl, hr⟩ := lkv_get h i.1 i.2
    obtain ⟨s, l, p⟩ := x
    have hs : ls[i.1] = s := by have := hx.out; rw [List.getElem?_eq_getElem i.2] at this; exact Option.some.inj this
    rw [hs]
    exact ⟨(l, p), hl, b, off, e, hp, hb, hr.out⟩
  let f := fun i => Classical.choose (hc i)
  have hf := fun i => Classical.choose_spec (hc i)
  refine ⟨List.ofFn fun i : Fin ls.length => (ls[i.1], (f i).1, (f i).2), ?_, ?_, ?_⟩
  · apply List.ext_getElem
    · simp
    · intro i h1 h2; simp
  · intro x hx
    obtain ⟨i, rfl⟩ := List.mem_ofFn.1 hx
    exact (hf i).1
  · intro i x hx
    obtain ⟨hi, rfl⟩ := List.getElem?_eq_some_iff.1 hx
    have hi' : i < ls.length := by simpa using hi
    rw [List.getElem_ofFn]
    exact (hf ⟨i, hi'⟩).2
theorem Ex.grownP {B : Nat} {p row : Option Nat} {a w w' : World} (h : Ex B p a w) (hg : w.grownBy w' row) (hB : B ≤ w.heap.size) (hr : ∀ k, row = some k → p = some k ∨ B ≤ k) : Ex B p a w' :=
  ⟨hg.os.trans h.os, hg.tape.trans h.tape, hg.output.trans h.output, Nat.le_trans h.size hg.size, fun k hk hne => (hg.block k (by omega) (fun e => by
    rcases hr k e.symm with h1 | h1
    · exact hne h1.symm
    · omega)).trans (h.block k hk hne)⟩
theorem heap_setCell' {w : World} {b o : Nat} {cs : Array Value} {e : TypeId} {fr : Nat × Nat} (h : w.heap[b]? = some (.cells cs e fr)) (v : Value) : (w.setCell ⟨b, o, none⟩ v).heap[b]? = some (.cells (cs.setIfInBounds o v) e fr) := by
  simp [World.setCell, Array.getElem?_modify, h]

theorem heap_setCell_ne {w : World} {b q o : Nat} (v : Value) (h : b ≠ q) : (w.setCell ⟨q, o, none⟩ v).heap[b]? = w.heap[b]? := ((Ex.refl (b + 1) (some q) w).setCell o none v (.inl rfl)).block b (by omega) (fun e => h (Option.some.inj e))
theorem row_frz' {w : World} {g : Nat} {cs : Array Value} {t : TypeId} (h : w.heap[g]? = some (.cells cs t (0, 0))) (o : Nat) : w.frozen? ⟨g, o, none⟩ = false := by
  simp [World.frozen?, h]
theorem heap_putObj_ne {w : World} {b N : Nat} (o : Obj) (h : b ≠ N) : (w.putObj N o).heap[b]? = w.heap[b]? := World.putObj_heap_other (by omega)
theorem Ex.putObj {B : Nat} {p : Option Nat} {a w : World} (h : Ex B p a w) (N : Nat) (o : Obj) (hN : B ≤ N) : Ex B p a (w.putObj N o) :=
  ⟨h.os, h.tape, h.output, by simpa using h.size, fun b hb hne => (World.putObj_heap_other (by omega)).trans (h.block b hb hne)⟩
/-- The two results, and what is taken off the list of the deferred. -/
theorem two_results {W : World} {g N : Nat} {u0 ub0 : Value} (u ub : Value) {t t' : TypeId} {o : Obj} (h6 : W.heap[g]? = some (.cells #[u0] t (0, 0))) (h7 : W.heap[g + 1]? = some (.cells #[ub0] t' (0, 0))) (hN : g + 1 < N) :
    (((W.setCell ⟨g, 0, none⟩ u).setCell ⟨g + 1, 0, none⟩ ub).putObj N o).cell? ⟨g, 0, none⟩ = some u ∧ (((W.setCell ⟨g, 0, none⟩ u).setCell ⟨g + 1, 0, none⟩ ub).putObj N o).cell? ⟨g + 1, 0, none⟩ = some ub := by
  constructor
  · refine box_cell (t := t) ((World.putObj_heap_other (by omega)).trans ((heap_setCell_ne _ (by omega)).trans ?_))
    rw [heap_setCell' h6]; rfl
  · refine box_cell (t := t') ((World.putObj_heap_other (by omega)).trans ?_)
    rw [heap_setCell' ((heap_setCell_ne _ (by omega)).trans h7)]; rfl
theorem sha_size_le (b : List UInt8) : (sha b).size ≤ maxLen := by
  rw [sha_size b]; decide
theorem okB_dig {a : Int} {s : St} (h : okB a s = true) : s.dig.size ≤ maxLen := by
  have h1 := (okB_iff.1 h).2.2
  simp only [sealedB, Bool.and_eq_true, decide_eq_true_eq] at h1
  rw [h1.2]
  exact sha_size_le _
theorem okB_prev {a : Int} {s : St} (h : okB a s = true) : s.prev.size ≤ maxLen := by
  have h1 := (checkI_tame (okB_iff.1 h).2.1).prev
  unfold maxLen; omega
/-- Between two rounds of chain.Branch: what has come lies in the row, none of it has the number 0. -/
def BrI (w5 : World) (go gx : Nat) (pre : List (St × Sv × Sv)) (W : World) : Prop := ∃ ro rc, W.heap[go]? = some (.cells #[.slice ro pre.length rc] 27 (0, 0)) ∧ OwnS W (w5.heap.size + 2) ro rc (pre.map (·.1)) ∧ (∀ y ∈ pre, y.1.number ≠ 0) ∧ w5.heap.size ≤ W.heap.size ∧ (W.os = w5.os ∧ W.tape = w5.tape ∧ W.output = w5.output) ∧ ∀ b, b < w5.heap.size → b ≠ gx → b ≠ go → W.heap[b]? = w5.heap[b]?
/-- Where a round has left: the row is turned and in the results. -/
def BrX (w5 : World) (g6 go gx : Nat) (pre : List (St × Sv × Sv)) (W : World) : Prop := ∃ ro rc n, n = pre.length ∧ W.heap[g6]? = some (.cells #[.slice ro n rc] 27 (0, 0)) ∧ W.heap[g6 + 1]? = some (.cells #[.bool true] 4 (0, 0)) ∧ OwnS W (w5.heap.size + 2) ro rc (pre.map (·.1)).reverse ∧ (∃ p z, pre = p ++ [z] ∧ z.1.number = 0) ∧ w5.heap.size ≤ W.heap.size ∧ (W.os = w5.os ∧ W.tape = w5.tape ∧ W.output = w5.output) ∧ ∀ b, b < w5.heap.size → b ≠ gx → b ≠ go → b ≠ g6 → b ≠ g6 + 1 → W.heap[b]? = w5.heap[b]?
theorem BrI.beside {w5 A B : World} {go gx : Nat} {pre : List (St × Sv × Sv)} (hgo : go < w5.heap.size ∧ go ≠ gx) (hgx : gx < w5.heap.size) (h : BrI w5 go gx pre A) (hb : Beside gx w5.heap.size A B) : BrI w5 go gx pre B := by
  obtain ⟨ro, rc, h1, h2, h3, h4, ⟨h5, h6, h7⟩, h8⟩ := h
  obtain ⟨b1, b2, b3, b4, b5⟩ := hb
  exact ⟨ro, rc, (b5 go (by omega) hgo.2 (by omega) (by omega)).trans h1, h2.keepB fun b hb hlt => b5 b hlt (by omega) (by omega) (by omega), h3, by omega, ⟨b2.trans h5, b3.trans h6, b4.trans h7⟩, fun b hb c1 c2 => (b5 b (by omega) c1 (by omega) (by omega)).trans (h8 b hb c1 c2)⟩
theorem BrX.beside {w5 A B : World} {g6 go gx : Nat} {pre : List (St × Sv × Sv)} (hg6 : g6 + 1 < w5.heap.size ∧ g6 ≠ gx ∧ g6 + 1 ≠ gx) (hgx : gx < w5.heap.size) (h : BrX w5 g6 go gx pre A) (hb : Beside gx w5.heap.size A B) : BrX w5 g6 go gx pre B := by
  obtain ⟨ro, rc, n, hn, h1, h1', h2, h3, h4, ⟨h5, h6, h7⟩, h8⟩ := h
  obtain ⟨b1, b2, b3, b4, b5⟩ := hb
  exact ⟨ro, rc, n, hn, (b5 g6 (by omega) hg6.2.1 (by omega) (by omega)).trans h1, (b5 (g6 + 1) (by omega) hg6.2.2 (by omega) (by omega)).trans h1', h2.keepB fun b hb hlt => b5 b hlt (by omega) (by omega) (by omega), h3, by omega, ⟨b2.trans h5, b3.trans h6, b4.trans h7⟩, fun b hb c1 c2 c3 c4 => (b5 b (by omega) c1 (by omega) (by omega)).trans (h8 b hb c1 c2 c3 c4)⟩
theorem backP_any (mb : Nat) (x : St × Sv × Sv) (w : World) :
    Calls Try.prog 25 #[.map (some mb), linkV x] w fun e w' => e = .returned (.func (.func 49) #[] #[.pointer (some ⟨w.heap.size + 1, 0, none⟩), .pointer (some ⟨w.heap.size, 0, none⟩)]) ∧ w' = (w.alloc (.cells #[.map (some mb)] 58)).alloc (.cells (linkV x).cells 56) := by
  go_enter Try.func25, Try.ntmps25
  go_upto_region 1 with (fail)
  refine wp_world (fun W => W = (w.alloc (.cells #[.map (some mb)] 58)).alloc (.cells (linkV x).cells 56)) rfl (fun W hW => ?_)
  have HW := Lib.hid hW
  clear hW
  go_wp2
  go_ret
  exact ⟨rfl, HW.out⟩
end Go.Proofs.Ytaakacahblndcaa
