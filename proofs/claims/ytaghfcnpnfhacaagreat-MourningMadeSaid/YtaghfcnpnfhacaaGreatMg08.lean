/- Which statements are losses that count, and the votes that they give: plain. No statement of the seat. | What the program and the reference say of guardians and heirs: plain, no program in sight. No statement of the seat. | Guardians in memory. No statement of the seat. | Small functions of the mourning layer and the statement layer's. No statement of the seat. | statement.value, meant; slices.IndexFunc with the program's closure: contracts at whatever statement. No statement of the seat. | statement.pinned: a contract, no statement of the seat. | statement.Check and Sealed at a statement of a loss. No statement of the seat. | slices.DeleteFunc with the closure of mourning.Heirs: contracts, no statement of the seat. -/
import Derived.Test.YtaghfcnpnfhacaaGreatMg00
import Derived.Test.YtaghfcnpnfhacaaGreatMg06
import Derived.Test.YtaghfcnpnfhacaaGreatMg07
import Derived.Test.YtaghfcnpnfhacaaGreatSeal03G
import Derived.Test.YtaghfcnpnfhacaaGreatMg01
import Derived.Test.YtaghfcnpnfhacaaGreatMg04
import Derived.Maps.OwnSet
import Derived.IntWalk
import Derived.Deep.Cut
import Derived.BigQuiet
import Derived.Test.YtaghfcnpnfhacaaGreatMg05
import Derived.Lib.SliceRun
namespace Go.Proofs.YtaghfcnpnfhacaaGreat
open Go.RowKit Go.Maps Go.Sort

/-- A loss that counts. -/
def lossB (s : St) : Bool := decide (s.kind = 13) && rightB s.a s.b && decide (s.c = 0) && decide (s.list.length = 0) && decide (s.pins.length = 0) && decide (s.body = ⟨#[]⟩) && decide (checkI s = 0) && sealedB s
def voteG (s : St) : Vote := (s.author, s.a, s.b)
/-- The votes of statements. -/
def votesG (l : List St) : List Vote := (l.filter lossB).map voteG
theorem votesG_yes {l : List St} {k : Nat} {s : St} (h : l[k]? = some s) (hs : lossB s = true) : votesG (l.take (k + 1)) = votesG (l.take k) ++ [(s.author, s.a, s.b)] := by
  unfold votesG; rw [List.take_add_one, h]; simp [hs, voteG]
theorem votesG_no {l : List St} {k : Nat} {s : St} (h : l[k]? = some s) (hs : lossB s = false) : votesG (l.take (k + 1)) = votesG (l.take k) := by
  unfold votesG; rw [List.take_add_one, h]; simp [hs]
theorem lossB_parts {s : St} (h : lossB s = true) : s.kind = 13 ∧ rightB s.a s.b = true ∧ s.c = 0 ∧ s.list.length = 0 ∧ s.pins.length = 0 ∧ s.body = ⟨#[]⟩ ∧ checkI s = 0 ∧ sealedB s = true := by
  simp only [lossB, Bool.and_eq_true, decide_eq_true_eq] at h
  obtain ⟨⟨⟨⟨⟨⟨⟨h1, h2⟩, h3⟩, h4⟩, h5⟩, h6⟩, h7⟩, h8⟩ := h
  exact ⟨h1, h2, h3, h4, h5, h6, h7, h8⟩
theorem rightB_parts {a b : Int} (h : rightB a b = true) : (0 ≤ a ∧ a < 64) ∧ (0 ≤ b ∧ b < 64) ∧ a ≠ b := by
  simp only [rightB, Bool.and_eq_true, decide_eq_true_eq, Bool.not_eq_true', decide_eq_false_iff_not] at h
  exact ⟨⟨h.1.1.1.1, h.1.1.1.2⟩, ⟨h.1.1.2, h.1.2⟩, h.2⟩
theorem votesG_mem {l : List St} {p : Vote} (h : p ∈ votesG l) : ∃ s ∈ l, lossB s = true ∧ p = (s.author, s.a, s.b) := by
  unfold votesG at h
  simp only [List.mem_map, List.mem_filter] at h
  obtain ⟨s, ⟨h1, h2⟩, rfl⟩ := h
  exact ⟨s, h1, h2, rfl⟩
theorem votesG_ok (l : List St) : KeysOK (votesG l) := by
  intro p hp
  obtain ⟨s, _, hs, rfl⟩ := votesG_mem hp
  obtain ⟨_, h2, _, _, _, _, h7, _⟩ := lossB_parts hs
  exact ⟨(checkI_right h7).author, (rightB_parts h2).1⟩
end Go.Proofs.YtaghfcnpnfhacaaGreat

namespace Go.Proofs.YtaghfcnpnfhacaaGreat
open Go.RowKit Go.Sort

/-- Guardians: owner, need, guardians. -/
abbrev GuardD := Int × Int × List Int
/-- A statement that names guardians, rightly. -/
def guardB (s : St) : Bool := decide (checkI s = 0) && sealedB s && decide (s.kind = 12) && decide (s.b = 0) && decide (s.c = 0) && decide (s.pins.length = 0) && decide (s.body = ⟨#[]⟩) && validG s.author s.a s.list
def guardS (s : St) : GuardD := (s.author, s.a, s.list)
theorem guardB_valid {s : St} (h : guardB s = true) : validG s.author s.a s.list = true := by
  simp only [guardB, Bool.and_eq_true] at h
  exact h.2
/-- The last guardians that a key has named. -/
def lastG (l : List St) (k : Int) : Option GuardD := ((l.filter fun s => guardB s && decide (s.author = k)).getLast?).map guardS
theorem lastG_yes {l : List St} {i : Nat} {s : St} {k : Int} (h : l[i]? = some s) (hg : guardB s = true) (hk : s.author = k) : lastG (l.take (i + 1)) k = some (guardS s) := by
  unfold lastG; rw [List.take_add_one, h, List.filter_append]; simp [hg, hk]
theorem lastG_no {l : List St} {i : Nat} {s : St} {k : Int} (h : l[i]? = some s) (hg : guardB s = false ∨ s.author ≠ k) : lastG (l.take (i + 1)) k = lastG (l.take i) k := by
  unfold lastG; rw [List.take_add_one, h, List.filter_append]
  rcases hg with hg | hg <;> simp [hg]
theorem lastG_valid {l : List St} {k : Int} {g : GuardD} (h : lastG l k = some g) : g.1 = k ∧ validG g.1 g.2.1 g.2.2 = true := by
  unfold lastG at h
  simp only [Option.map_eq_some_iff] at h
  obtain ⟨s, hs, rfl⟩ := h
  have hm := List.mem_of_getLast? hs
  simp only [List.mem_filter, Bool.and_eq_true, decide_eq_true_eq] at hm
  exact ⟨hm.2.2, guardB_valid hm.2.1⟩
def guardsTo (l : List St) (n : Nat) : List GuardD := (List.range n).filterMap fun (k : Nat) => lastG l (k : Int)
theorem guardsTo_succ (l : List St) (n : Nat) : guardsTo l (n + 1) = guardsTo l n ++ (lastG l (n : Int)).toList := by
  unfold guardsTo
  rw [List.range_succ, List.filterMap_append]
  cases h : lastG l (n : Int) <;> simp [h]
theorem guardsTo_len (l : List St) (n : Nat) : (guardsTo l n).length ≤ n := by
  unfold guardsTo
  have := List.length_filterMap_le (fun (k : Nat) => lastG l (k : Int)) (List.range n)
  simpa using this
theorem guardsTo_valid {l : List St} {n : Nat} {g : GuardD} (h : g ∈ guardsTo l n) : validG g.1 g.2.1 g.2.2 = true ∧ 0 ≤ g.1 ∧ g.1 < n := by
  unfold guardsTo at h
  simp only [List.mem_filterMap, List.mem_range] at h
  obtain ⟨k, hk, hg⟩ := h
  obtain ⟨e, hv⟩ := lastG_valid hg
  exact ⟨hv, by omega, by omega⟩
/-- The program's choice, key by key: the best so far, and how many guardians name it. -/
def mineP (vl : List Vote) (g : GuardD) (next : Int) : List Int := (voicesL (onLost vl g.1) next 64).filter (hasI g.2.2)
def allP (vl : List Vote) (g : GuardD) (next : Int) : List Int := voicesL (onLost vl g.1) next 64
def stepP (vl : List Vote) (g : GuardD) (b : Int × Nat) (next : Nat) : Int × Nat :=
  if enoughG g.1 g.2.1 g.2.2 (allP vl g next) = true ∧ b.2 < (mineP vl g next).length then ((next : Int), (mineP vl g next).length) else b
def pickP (vl : List Vote) (g : GuardD) (n : Nat) : Int × Nat := (List.range n).foldl (stepP vl g) (0, 0)
theorem pickP_succ (vl : List Vote) (g : GuardD) (n : Nat) : pickP vl g (n + 1) = stepP vl g (pickP vl g n) n := by
  unfold pickP; rw [List.range_succ, List.foldl_append]; rfl
def heirP (vl : List Vote) (g : GuardD) : List (Int × Int) := if 0 < (pickP vl g 64).2 then [(g.1, (pickP vl g 64).1)] else []
def heirsP (vl : List Vote) (gs : List GuardD) : List (Int × Int) := gs.flatMap (heirP vl)
/-- The reference's. -/
def stepR (l : List St) (g : GuardD) (b : Int × Nat) (next : Nat) : Int × Nat :=
  if namedS l g.1 next = true ∧ enoughG g.1 g.2.1 g.2.2 (allP (votesG l) g next) = true ∧ b.2 < countG g.2.2 (allP (votesG l) g next) then ((next : Int), countG g.2.2 (allP (votesG l) g next)) else b
def pickR (l : List St) (g : GuardD) (n : Nat) : Int × Nat := (List.range n).foldl (stepR l g) (-1, 0)
theorem pickR_succ (l : List St) (g : GuardD) (n : Nat) : pickR l g (n + 1) = stepR l g (pickR l g n) n := by
  unfold pickR; rw [List.range_succ, List.foldl_append]; rfl
def heirR (l : List St) (g : GuardD) : List (Int × Int) := if 0 ≤ (pickR l g 64).1 then [(g.1, (pickR l g 64).1)] else []
def heirsR (l : List St) (gs : List GuardD) : List (Int × Int) := gs.flatMap (heirR l)

theorem hasI_mem {l : List Int} {x : Int} : hasI l x = true ↔ x ∈ l := by
  unfold hasI; simp
theorem okTo_lt {xs : List Int} {n : Nat} (h : okTo xs n = true) : ∀ j, j < n → ∀ i, i < j → xs.getD i 0 < xs.getD j 0 := by
  intro j
  induction j with
  | zero => intro _ i hi; omega
  | succ j ih =>
    intro hj i hi
    have h1 : okAt xs (j + 1) = true := by
      unfold okTo at h; rw [List.all_eq_true] at h; exact h (j + 1) (by simpa using hj)
    have h2 : xs.getD j 0 < xs.getD (j + 1) 0 := by
      unfold okAt at h1
      simp only [Bool.and_eq_true, Bool.or_eq_true, decide_eq_true_eq] at h1
      rcases h1.2 with h | h
      · omega
      · simpa using h
    by_cases e : i = j
    · subst e; exact h2
    · have := ih (by omega) i (by omega); omega
theorem validI_sorted {xs : List Int} (h : validI xs = true) : xs.Pairwise (· < ·) := by
  unfold validI at h
  simp only [Bool.and_eq_true] at h
  rw [List.pairwise_iff_getElem]
  intro i j hi hj hij
  have := okTo_lt h.2 j hj i hij
  simpa [List.getD, hi, hj] using this
theorem sorted_nodup {xs : List Int} (h : xs.Pairwise (· < ·)) : xs.Nodup := h.imp fun h => by omega
theorem voicesL_sorted (l : List (Int × Int)) (next : Int) (n : Nat) : (voicesL l next n).Pairwise (· < ·) := by
  unfold voicesL
  rw [List.pairwise_map]
  refine List.Pairwise.filter _ ?_
  exact (List.pairwise_lt_range).imp fun h => by omega
theorem valid_nodup {o n : Int} {g : List Int} (h : validG o n g = true) : g.Nodup := by
  unfold validG at h
  simp only [Bool.and_eq_true] at h
  exact sorted_nodup (validI_sorted h.1.1.1.2)
/-- How many of the one are in the other: the same as the other way round. -/
theorem count_swap {g v : List Int} (hg : g.Nodup) (hv : v.Nodup) : countG g v = (v.filter (hasI g)).length := by
  unfold countG
  rw [List.countP_eq_length_filter]
  refine List.Perm.length_eq ?_
  refine (List.perm_ext_iff_of_nodup (hg.filter _) (hv.filter _)).2 fun x => ?_
  simp only [List.mem_filter, hasI_mem]
  exact ⟨fun h => ⟨h.2, h.1⟩, fun h => ⟨h.2, h.1⟩⟩
theorem voicesL_none {l : List (Int × Int)} {next : Int} {n : Nat} (h : ∀ k, lastOf l k ≠ some next) : voicesL l next n = [] := by
  unfold voicesL
  rw [List.map_eq_nil_iff, List.filter_eq_nil_iff]
  intro k _
  simpa using h (k : Int)
theorem named_no {l : List St} {lost next : Int} (h : namedS l lost next = false) (n : Nat) : voicesL (onLost (votesG l) lost) next n = [] := by
  refine voicesL_none fun k hk => ?_
  have h1 := onLost_mem (lastOf_mem hk)
  obtain ⟨s, hs, hb, e⟩ := votesG_mem h1
  cases e
  unfold namedS at h
  rw [List.any_eq_false] at h
  refine h s hs ?_
  simp [namesB, (lossB_parts hb).1]
theorem countG_nil (g : List Int) : countG g [] = 0 := by
  unfold countG; rw [List.countP_eq_zero]; intro x _; simp [hasI]
/-- Both choose alike. -/
theorem pick_same {l : List St} {g : GuardD} (hg : validG g.1 g.2.1 g.2.2 = true) (n : Nat) :
    (pickP (votesG l) g n).2 = (pickR l g n).2 ∧ (((pickP (votesG l) g n).2 = 0 ∧ (pickR l g n).1 = -1) ∨ (0 < (pickP (votesG l) g n).2 ∧ (pickP (votesG l) g n).1 = (pickR l g n).1 ∧ 0 ≤ (pickR l g n).1)) := by
  induction n with
  | zero => exact ⟨rfl, .inl ⟨rfl, rfl⟩⟩
  | succ n ih =>
    obtain ⟨h1, h2⟩ := ih
    rw [pickP_succ, pickR_succ]
    have hc : countG g.2.2 (allP (votesG l) g n) = (mineP (votesG l) g n).length := count_swap (valid_nodup hg) (sorted_nodup (voicesL_sorted _ _ _))
    unfold stepP stepR
    cases hn : namedS l g.1 n with
    | false =>
      have ha : allP (votesG l) g n = [] := named_no hn 64
      have hm : (mineP (votesG l) g n).length = 0 := by rw [← hc, ha, countG_nil]
      rw [if_neg (by omega), if_neg (by simp)]
      exact ⟨h1, h2⟩
    | true =>
      by_cases hp : enoughG g.1 g.2.1 g.2.2 (allP (votesG l) g n) = true ∧ (pickP (votesG l) g n).2 < (mineP (votesG l) g n).length
      · rw [if_pos hp, if_pos ⟨rfl, hp.1, by rw [← h1, hc]; exact hp.2⟩]
        exact ⟨hc.symm, .inr ⟨by have := hp.2; show 0 < (mineP (votesG l) g n).length; omega, rfl, by show (0 : Int) ≤ (n : Int); omega⟩⟩
      · rw [if_neg hp, if_neg (fun h => hp ⟨h.2.1, by rw [h1, ← hc]; exact h.2.2⟩)]
        exact ⟨h1, h2⟩
theorem heirs_same {l : List St} {gs : List GuardD} (h : ∀ g ∈ gs, validG g.1 g.2.1 g.2.2 = true) : heirsP (votesG l) gs = heirsR l gs := by
  induction gs with
  | nil => rfl
  | cons g r ih =>
    have ih := ih fun x hx => h x (by simp [hx])
    unfold heirsP heirsR at *
    rw [List.flatMap_cons, List.flatMap_cons, ih]
    congr 1
    obtain ⟨h1, h2⟩ := pick_same (l := l) (h g (by simp)) 64
    unfold heirP heirR
    rcases h2 with ⟨h2, h3⟩ | ⟨h2, h3, h4⟩
    · rw [if_neg (by omega), if_neg (by omega)]
    · rw [if_pos h2, if_pos h4, h3]
end Go.Proofs.YtaghfcnpnfhacaaGreat

namespace Go.Proofs.YtaghfcnpnfhacaaGreat
open Go.RowKit Go.Maps Go.Sort

/-- The cells of guardians whose list lies at x.2. -/
def gE (x : GuardD × Sv) : List Value := [.int .i64 x.1.1, .int .i64 x.1.2.1, x.2.v]
theorem gE_len (x : GuardD × Sv) : (gE x).length = 3 := rfl
theorem one_gE : ∀ x, ∀ v ∈ gE x, v.oneCell' = true := fun x v hv => by
  simp only [gE, List.mem_cons, List.not_mem_nil, or_false] at hv
  rcases hv with rfl | rfl | rfl <;> rfl
def guardRep : Rep GuardD where
  k := 3
  R := fun P w cs g => ∃ v : Sv, cs = gE (g, v) ∧ Sl intRep P w v.v g.2.2
  len := fun ⟨v, h, _⟩ => by subst h; exact gE_len _
  one := fun ⟨v, h, _⟩ => by subst h; exact one_gE _
  keep := fun ⟨v, h, hs⟩ hx => ⟨v, h, hs.keep (by decide) hx⟩
  mono := fun ⟨v, h, hs⟩ hx => ⟨v, h, hs.mono (by decide) hx⟩
/-- The lists of guardians lie where their headers say. -/
def LieG (P : Nat → Prop) (w : World) (x : GuardD × Sv) : Prop := Sl intRep P w x.2.v x.1.2.2
theorem LieG.keep {P : Nat → Prop} {w w' : World} {x : GuardD × Sv} (h : LieG P w x) (hx : ∀ b, P b → b < w.heap.size → w'.heap[b]? = w.heap[b]?) : LieG P w' x := Sl.keep h (by decide) hx
theorem LieG.mono {P P' : Nat → Prop} {w : World} {x : GuardD × Sv} (h : LieG P w x) (hx : ∀ b, P b → b < w.heap.size → P' b) : LieG P' w x := Sl.mono h (by decide) hx
theorem g_sl {P : Nat → Prop} {w : World} {g : Nat} {xs : List (GuardD × Sv)} (hP : P g) (h : HoldsK gE 3 w g 0 xs.toArray) (hl : ∀ x ∈ xs, LieG P w x) : SlAt guardRep P w (some ⟨g, 0, none⟩) (xs.map (·.1)) := fun i hi => by
  have hi' : i < xs.length := by simpa using hi
  refine ⟨g, 0, gE xs[i], rfl, hP, ?_, xs[i].2, by simp, by simpa [LieG] using hl _ (List.getElem_mem hi')⟩
  have := holdsK_range gE_len h i (by simpa using hi')
  rwa [getElem!_pos xs.toArray i hi', List.getElem_toArray] at this
theorem own_g_sl {w : World} {base : Nat} {ro : Option Addr} {rc : Nat} {xs : List (GuardD × Sv)} (h : OwnE gE 3 113 w base ro rc xs) (hl : ∀ x ∈ xs, LieG (fun _ => True) w x) : SlAt guardRep (fun _ => True) w ro (xs.map (·.1)) := by
  rcases h.cases with ⟨rfl, _, rfl⟩ | ⟨g, rfl, _, _, _⟩
  · exact SlAt.nil _ _ _
  · exact g_sl trivial (h.holds gE_len) hl
/-- The guardians at a place: the cells. -/
theorem guard_get {P : Nat → Prop} {w : World} {ao : Option Addr} {xs : List GuardD} (h : SlAt guardRep P w ao xs) (i : Nat) (hi : i < xs.length) : ∃ b off o n gs go gn gc, ao = some ⟨b, off, none⟩ ∧ P b ∧ LieG P w ((o, n, gs), ⟨go, gn, gc⟩) ∧ w.cell? ⟨b, off + i * 3, none⟩ = some (.int .i64 o) ∧ w.cell? ⟨b, off + i * 3 + 1, none⟩ = some (.int .i64 n) ∧ w.cell? ⟨b, off + i * 3 + 2, none⟩ = some (.slice go gn gc) ∧ Hid (xs[i]? = some (o, n, gs)) := by
  obtain ⟨b, off, cs, e, hp, hr, ⟨v, hc, hl⟩⟩ := h i hi
  obtain ⟨go, gn, gc⟩ := v
  subst hc
  refine ⟨b, off, xs[i].1, xs[i].2.1, xs[i].2.2, go, gn, gc, e, hp, hl, hr 0 _ rfl, hr 1 _ rfl, hr 2 _ rfl, ?_⟩
  show _ = _
  simp [hi]
theorem Tryz.infoG : (Tryz.prog.info? 113).map (fun i => (i.zero, i.size, i.bytes)) = some (some (.agg #[.int .i64 0, .int .i64 0, .slice none 0 0]), 3, 40) := by kernel_rfl

/-- What guardian.All stores: key and value. -/
def storeG (y : GuardD × Sv) : Lit × Value := (.int .i64 y.1.1, .agg (gE y).toArray)
/-- Last of the stores at a key. -/
def lastY (ys : List (GuardD × Sv)) (k : Int) : Option (GuardD × Sv) := (ys.filter fun y => decide (y.1.1 = k)).getLast?
theorem lastY_snoc (ys : List (GuardD × Sv)) (y : GuardD × Sv) (k : Int) : lastY (ys ++ [y]) k = if y.1.1 = k then some y else lastY ys k := by
  unfold lastY
  rw [List.filter_append]
  by_cases h : y.1.1 = k
  · rw [if_pos h]; simp [h]
  · rw [if_neg h]; simp [h]
theorem lastV_storeG (ys : List (GuardD × Sv)) (k : Int) : lastV (ys.map storeG) (.int .i64 k) = (lastY ys k).map fun y => .agg (gE y).toArray := by
  induction ys using snoc_ind with
  | nil => rfl
  | snoc ys y ih =>
    rw [List.map_append, List.map_singleton, lastV_snoc, lastY_snoc, ih]
    by_cases h : y.1.1 = k
    · rw [if_pos h, if_pos (by unfold storeG; rw [h])]; rfl
    · rw [if_neg h, if_neg (fun e => h (by unfold storeG at e; simpa using e))]
theorem lastY_mem {ys : List (GuardD × Sv)} {k : Int} {y : GuardD × Sv} (h : lastY ys k = some y) : y ∈ ys := by
  have := List.mem_of_getLast? h
  exact (List.mem_filter.1 this).1
theorem lastY_G {l : List St} {ys : List (GuardD × Sv)} (h : ys.map (·.1) = (l.filter guardB).map guardS) (k : Int) : (lastY ys k).map (·.1) = lastG l k := by
  unfold lastY lastG
  have h1 : (ys.filter fun y => decide (y.1.1 = k)).map (·.1) = ((l.filter guardB).map guardS).filter fun g => decide (g.1 = k) := by
    rw [← h, List.filter_map]; rfl
  rw [← List.getLast?_map, h1, List.filter_map, List.getLast?_map, List.filter_filter]
  congr 3
  funext s
  show (decide (s.author = k) && guardB s) = (guardB s && decide (s.author = k))
  rw [Bool.and_comm]
theorem guardsY_yes {l : List St} {ys : List (GuardD × Sv)} {k : Nat} {s : St} (hs : l[k]? = some s) (h : ys.map (·.1) = ((l.take k).filter guardB).map guardS) (hg : guardB s = true) (v : Sv) : (ys ++ [((s.author, s.a, s.list), v)]).map (·.1) = ((l.take (k + 1)).filter guardB).map guardS := by
  rw [List.take_add_one, hs, List.filter_append, List.map_append, List.map_append, h]
  simp [hg, guardS]
theorem guardsY_no {l : List St} {ys : List (GuardD × Sv)} {k : Nat} {s : St} (hs : l[k]? = some s) (h : ys.map (·.1) = ((l.take k).filter guardB).map guardS) (hg : guardB s = false) : ys.map (·.1) = ((l.take (k + 1)).filter guardB).map guardS := by
  rw [List.take_add_one, hs, List.filter_append, List.map_append, h]
  simp [hg]
/-- The guardians of the first n keys, with their headers. -/
def outY (ys : List (GuardD × Sv)) (n : Nat) : List (GuardD × Sv) := (List.range n).filterMap fun (k : Nat) => lastY ys (k : Int)
theorem outY_succ (ys : List (GuardD × Sv)) (n : Nat) : outY ys (n + 1) = outY ys n ++ (lastY ys (n : Int)).toList := by
  unfold outY
  rw [List.range_succ, List.filterMap_append]
  cases h : lastY ys (n : Int) <;> simp [h]
theorem outY_mem {ys : List (GuardD × Sv)} {n : Nat} {y : GuardD × Sv} (h : y ∈ outY ys n) : y ∈ ys := by
  unfold outY at h
  simp only [List.mem_filterMap] at h
  obtain ⟨k, _, hk⟩ := h
  exact lastY_mem hk
theorem outY_G {l : List St} {ys : List (GuardD × Sv)} (h : ys.map (·.1) = (l.filter guardB).map guardS) (n : Nat) : (outY ys n).map (·.1) = guardsTo l n := by
  unfold outY guardsTo
  rw [List.map_filterMap]
  congr 1
  funext k
  rw [← lastY_G h]
end Go.Proofs.YtaghfcnpnfhacaaGreat

namespace Go.Proofs.YtaghfcnpnfhacaaGreat
open Go.RowKit Go.Sort

set_option maxHeartbeats 1000000 in
theorem listsIn_any (n lo hi : Int) (w : World) : Calls Tryz.prog 171 #[.int .i64 n, .int .i64 lo, .int .i64 hi] w fun e w' => e = .returned (.bool (decide (lo ≤ n) && decide (n ≤ hi))) ∧ w = w' := by
  by_cases h1 : lo ≤ n
  · have d1 : decide (lo ≤ n) = true := decide_eq_true h1
    go_enter Tryz.func171, Tryz.ntmps171
    go_wp2
    go_ret
    exact ⟨by rw [d1, Bool.true_and]; rfl, rfl⟩
  · have d1 : decide (lo ≤ n) = false := decide_eq_false h1
    go_enter Tryz.func171, Tryz.ntmps171
    go_wp2
    go_ret
    exact ⟨rfl, rfl⟩
end Go.Proofs.YtaghfcnpnfhacaaGreat

namespace Go.Proofs.YtaghfcnpnfhacaaGreat
open Go.RowKit Go.Sort

theorem valueAny_any (n : Int) (w : World) : Calls Tryz.prog 172 #[.int .i64 n] w fun e w' => e = .returned (.bool (inB n 1099511627776)) ∧ w = w' := by
  go_enter Tryz.func172, Tryz.ntmps172
  go_wp2_with (go_at_call 171; refine (listsIn_any _ _ _ _).mono ?_; rintro e w' ⟨rfl, rfl⟩)
  go_ret
  exact ⟨rfl, rfl⟩

set_option maxHeartbeats 4000000 in
set_option maxRecDepth 100000 in
theorem meantP_any (s : St) (lo po : Option Addr) (ln lc pn pc : Nat) (w : World) :
    Calls Tryz.prog 173 #[.agg #[.int .i64 s.author, .int .i64 s.number, .string s.prev, .int .i64 s.time, .int .i64 s.kind, .int .i64 s.a, .int .i64 s.b, .int .i64 s.c, .slice lo ln lc, .slice po pn pc, .string s.body, .int .i64 s.key, .string s.dig]] w fun e w' => e = .returned (.bool (kindB s)) ∧ Ex w.heap.size none w w' := by
  by_cases k1 : s.kind = 1
  · have k1d : (s.kind == 1) = true := by simp [k1]
    cases h1 : (decide (0 ≤ s.a) && decide (s.a ≤ 63))
    case false =>
      have HK : Hid (kindB s = false) := by show _ = _; (try simp only [Bool.and_eq_false_iff, decide_eq_false_iff_not] at *); simp [kindB, keyB, k1] <;> omega
      clear k1
      go_enter Tryz.func173, Tryz.ntmps173
      go_wp2_with (first | (go_at_call 171; refine (listsIn_any _ _ _ _).mono ?_; (first | rw [h1] | skip); rintro e w' ⟨rfl, rfl⟩) | fail)
      go_ret
      exact ⟨by rw [HK.out]; rfl, Ex.new _ _⟩
    by_cases h2 : s.a = s.author
    case pos =>
      have h2d : (s.a != s.author) = false := by simp [h2]
      have HK : Hid (kindB s = false) := by show _ = _; (try simp only [Bool.and_eq_true, decide_eq_true_eq] at *); simp [kindB, keyB, k1, h2] <;> omega
      clear k1 h2
      go_enter Tryz.func173, Tryz.ntmps173
      go_wp2_with (first | (go_at_call 171; refine (listsIn_any _ _ _ _).mono ?_; (first | rw [h1] | skip); rintro e w' ⟨rfl, rfl⟩) | fail)
      go_ret
      exact ⟨by rw [HK.out]; rfl, Ex.new _ _⟩
    have h2d : (s.a != s.author) = true := by simp [h2]
    cases h3 : (decide (1 ≤ s.b) && decide (s.b ≤ 3))
    case false =>
      have HK : Hid (kindB s = false) := by show _ = _; (try simp only [Bool.and_eq_false_iff, Bool.and_eq_true, decide_eq_false_iff_not, decide_eq_true_eq] at *); simp [kindB, keyB, k1, h2] <;> omega
      clear k1 h2
      go_enter Tryz.func173, Tryz.ntmps173
      go_wp2_with (first | (go_at_call 171; refine (listsIn_any _ _ _ _).mono ?_; (first | rw [h1] | rw [h3] | skip); rintro e w' ⟨rfl, rfl⟩) | fail)
      go_ret
      exact ⟨by rw [HK.out]; rfl, Ex.new _ _⟩
    cases h4 : (decide (s.time ≤ s.c) && decide (s.c ≤ 2147483648))
    case false =>
      have HK : Hid (kindB s = false) := by show _ = _; (try simp only [Bool.and_eq_false_iff, Bool.and_eq_true, decide_eq_false_iff_not, decide_eq_true_eq] at *); simp [kindB, keyB, k1, h2] <;> omega
      clear k1 h2
      go_enter Tryz.func173, Tryz.ntmps173
      go_wp2_with (first | (go_at_call 171; refine (listsIn_any _ _ _ _).mono ?_; (first | rw [h1] | rw [h3] | rw [h4] | skip); rintro e w' ⟨rfl, rfl⟩) | fail)
      go_ret
      exact ⟨by rw [HK.out]; rfl, Ex.new _ _⟩
    case true =>
      have HK : Hid (kindB s = true) := by show _ = _; (try simp only [Bool.and_eq_true, decide_eq_true_eq] at *); simp [kindB, keyB, k1, h2] <;> omega
      clear k1 h2
      go_enter Tryz.func173, Tryz.ntmps173
      go_wp2_with (first | (go_at_call 171; refine (listsIn_any _ _ _ _).mono ?_; (first | rw [h1] | rw [h3] | rw [h4] | skip); rintro e w' ⟨rfl, rfl⟩) | fail)
      go_ret
      exact ⟨by rw [HK.out]; rfl, Ex.new _ _⟩
  have k1d : (s.kind == 1) = false := by simpa using k1
  by_cases k2 : s.kind = 2
  · have k2d : (s.kind == 2) = true := by simp [k2]
    cases h1 : (decide (0 ≤ s.a) && decide (s.a ≤ 199))
    case false =>
      have HK : Hid (kindB s = false) := by show _ = _; (try simp only [Bool.and_eq_false_iff, decide_eq_false_iff_not] at *); simp [kindB, inB, k2] <;> omega
      clear k2
      go_enter Tryz.func173, Tryz.ntmps173
      go_wp2_with (first | (go_at_call 171; refine (listsIn_any _ _ _ _).mono ?_; (first | rw [h1] | skip); rintro e w' ⟨rfl, rfl⟩) | fail)
      go_ret
      exact ⟨by rw [HK.out]; rfl, Ex.new _ _⟩
    by_cases h2 : s.b = 0
    case neg =>
      have h2d : (s.b == 0) = false := by simpa using h2
      have HK : Hid (kindB s = false) := by show _ = _; (try simp only [Bool.and_eq_true, decide_eq_true_eq] at *); simp [kindB, inB, k2, h2] <;> omega
      clear k2 h2
      go_enter Tryz.func173, Tryz.ntmps173
      go_wp2_with (first | (go_at_call 171; refine (listsIn_any _ _ _ _).mono ?_; (first | rw [h1] | skip); rintro e w' ⟨rfl, rfl⟩) | fail)
      go_ret
      exact ⟨by rw [HK.out]; rfl, Ex.new _ _⟩
    have h2d : (s.b == 0) = true := by simp [h2]
    by_cases h3 : s.c = 0
    case neg =>
      have h3d : (s.c == 0) = false := by simpa using h3
      have HK : Hid (kindB s = false) := by show _ = _; (try simp only [Bool.and_eq_true, decide_eq_true_eq] at *); simp [kindB, inB, k2, h2, h3] <;> omega
      clear k2 h2 h3
      go_enter Tryz.func173, Tryz.ntmps173
      go_wp2_with (first | (go_at_call 171; refine (listsIn_any _ _ _ _).mono ?_; (first | rw [h1] | skip); rintro e w' ⟨rfl, rfl⟩) | fail)
      go_ret
      exact ⟨by rw [HK.out]; rfl, Ex.new _ _⟩
    have h3d : (s.c == 0) = true := by simp [h3]
    have HK : Hid (kindB s = true) := by show _ = _; (try simp only [Bool.and_eq_true, decide_eq_true_eq] at *); simp [kindB, inB, k2, h2, h3] <;> omega
    clear k2 h2 h3
    go_enter Tryz.func173, Tryz.ntmps173
    go_wp2_with (first | (go_at_call 171; refine (listsIn_any _ _ _ _).mono ?_; (first | rw [h1] | skip); rintro e w' ⟨rfl, rfl⟩) | fail)
    go_ret
    exact ⟨by rw [HK.out]; rfl, Ex.new _ _⟩
  have k2d : (s.kind == 2) = false := by simpa using k2
  by_cases k3 : s.kind = 3
  · have k3d : (s.kind == 3) = true := by simp [k3]
    by_cases h1 : s.a = 0
    case neg =>
      have h1d : (s.a == 0) = false := by simpa using h1
      have HK : Hid (kindB s = false) := by show _ = _; (try simp only [Bool.and_eq_false_iff, Bool.and_eq_true, decide_eq_false_iff_not, decide_eq_true_eq] at *); simp [kindB, k3, h1] <;> omega
      clear k3 h1
      go_enter Tryz.func173, Tryz.ntmps173
      go_wp2_with (first | (go_at_call 171; refine (listsIn_any _ _ _ _).mono ?_; (first  | skip); rintro e w' ⟨rfl, rfl⟩) | fail)
      go_ret
      exact ⟨by rw [HK.out]; rfl, Ex.new _ _⟩
    have h1d : (s.a == 0) = true := by simp [h1]
    by_cases h2 : s.b = 0
    case neg =>
      have h2d : (s.b == 0) = false := by simpa using h2
      have HK : Hid (kindB s = false) := by show _ = _; (try simp only [Bool.and_eq_false_iff, Bool.and_eq_true, decide_eq_false_iff_not, decide_eq_true_eq] at *); simp [kindB, k3, h1, h2] <;> omega
      clear k3 h1 h2
      go_enter Tryz.func173, Tryz.ntmps173
      go_wp2_with (first | (go_at_call 171; refine (listsIn_any _ _ _ _).mono ?_; (first  | skip); rintro e w' ⟨rfl, rfl⟩) | fail)
      go_ret
      exact ⟨by rw [HK.out]; rfl, Ex.new _ _⟩
    have h2d : (s.b == 0) = true := by simp [h2]
    by_cases h3 : s.c = 0
    case neg =>
      have h3d : (s.c == 0) = false := by simpa using h3
      have HK : Hid (kindB s = false) := by show _ = _; (try simp only [Bool.and_eq_false_iff, Bool.and_eq_true, decide_eq_false_iff_not, decide_eq_true_eq] at *); simp [kindB, k3, h1, h2, h3] <;> omega
      clear k3 h1 h2 h3
      go_enter Tryz.func173, Tryz.ntmps173
      go_wp2_with (first | (go_at_call 171; refine (listsIn_any _ _ _ _).mono ?_; (first  | skip); rintro e w' ⟨rfl, rfl⟩) | fail)
      go_ret
      exact ⟨by rw [HK.out]; rfl, Ex.new _ _⟩
    have h3d : (s.c == 0) = true := by simp [h3]
    have HK : Hid (kindB s = true) := by show _ = _; (try simp only [Bool.and_eq_false_iff, Bool.and_eq_true, decide_eq_false_iff_not, decide_eq_true_eq] at *); simp [kindB, k3, h1, h2, h3] <;> omega
    clear k3 h1 h2 h3
    go_enter Tryz.func173, Tryz.ntmps173
    go_wp2_with (first | (go_at_call 171; refine (listsIn_any _ _ _ _).mono ?_; (first  | skip); rintro e w' ⟨rfl, rfl⟩) | fail)
    go_ret
    exact ⟨by rw [HK.out]; rfl, Ex.new _ _⟩
  have k3d : (s.kind == 3) = false := by simpa using k3
  have HK : Hid (kindB s = true) := by show _ = _; (try simp only [Bool.and_eq_false_iff, Bool.and_eq_true, decide_eq_false_iff_not, decide_eq_true_eq] at *); simp [kindB, k1, k2, k3] <;> omega
  clear k1 k2 k3
  go_enter Tryz.func173, Tryz.ntmps173
  go_wp2_with (first | (go_at_call 171; refine (listsIn_any _ _ _ _).mono ?_; (first  | skip); rintro e w' ⟨rfl, rfl⟩) | fail)
  go_ret
  exact ⟨by rw [HK.out]; rfl, Ex.new _ _⟩

/-- All numbers of a list can be said. -/
def saidB (xs : List Int) : Bool := xs.all (fun x => inB x 1099511627776)
set_option maxHeartbeats 1000000 in
theorem unsaid_any (n : Int) (w : World) : Calls Tryz.prog 175 #[.int .i64 n] w fun e w' => e = .returned (.bool (!inB n 1099511627776)) ∧ w = w' := by
  go_enter Tryz.func175, Tryz.ntmps175
  cases h : inB n 1099511627776 with
  | true =>
    go_wp2_with (first | (go_at_call 172; refine (asB (valueAny_any _ _) h).mono ?_; rintro e w' ⟨rfl, rfl⟩) | fail)
    go_ret
    exact ⟨rfl, rfl⟩
  | false =>
    go_wp2_with (first | (go_at_call 172; refine (asB (valueAny_any _ _) h).mono ?_; rintro e w' ⟨rfl, rfl⟩) | fail)
    go_ret
    exact ⟨rfl, rfl⟩
set_option maxHeartbeats 1000000 in
theorem indexUnsaid_any (v : Value) (xs : List Int) (w : World) (hv : Ints w v xs) (hm : xs.length ≤ 9223372036854775807) :
    Calls Tryz.prog 153 #[v, .func (.func 175) #[] #[]] w fun e w' => ∃ i : Int, e = .returned (.int .i64 i) ∧ Hid (0 ≤ i ↔ saidB xs = false) ∧ w = w' := by
  obtain ⟨ao, cap, rfl, hx⟩ := hv
  go_enter Tryz.func153, Tryz.ntmps153
  go_wp2
  go_loop [5, 8] (fun _ i => ∃ k : Nat, k ≤ xs.length ∧ i = .int .i64 k ∧ Hid (saidB (xs.take k) = true)) (fun _ i => xs.length - (intOf i).toNat)
  case atStart => exact ⟨0, Nat.zero_le _, rfl, Lib.hid rfl⟩
  case round =>
    obtain ⟨k, hk, rfl, HN⟩ := hrel
    by_cases hlt : k < xs.length
    · have hltI : (k : Int) < (xs.length : Int) := by omega
      obtain ⟨b, off, y, rfl, hck, HY⟩ := hx.get k hlt
      have HG : Hid (xs[k]? = some y) := by
        have := HY.out
        simp only [List.getD_eq_getElem?_getD, List.getElem?_eq_getElem hlt, Option.getD_some] at this
        show _ = _
        rw [List.getElem?_eq_getElem hlt, this]
      cases h : inB y 1099511627776 with
      | false =>
        have HR : Hid (saidB xs = false) := by
          show xs.all _ = _
          rw [List.all_eq_false]
          exact ⟨y, List.mem_of_getElem? HG.out, by simp [h]⟩
        go_wp2_with (first | (refine (unsaid_any y _).mono ?_; rw [h]; rintro e w' ⟨rfl, rfl⟩) | fail)
        go_ret
        exact ⟨_, rfl, (by rw [HR.out]; simp : _ ↔ _), rfl⟩
      | true =>
        have HR : Hid (saidB (xs.take (k + 1)) = true) := by
          show _ = _
          have hn := HN.out
          unfold saidB at hn ⊢
          rw [List.take_add_one, HG.out, List.all_append, hn]
          simp [h]
        go_wp2_with (first | (refine (unsaid_any y _).mono ?_; rw [h]; rintro e w' ⟨rfl, rfl⟩) | fail)
        go_round
        case rel => exact ⟨k + 1, by omega, by go_num, HR⟩
        case measure => simp [intOf] <;> omega
    · have hltI : ¬ (k : Int) < (xs.length : Int) := by omega
      have HR : Hid (saidB xs = true) := by
        have h := HN.out
        rwa [List.take_of_length_le (by omega)] at h
      go_wp2
      go_ret
      exact ⟨_, rfl, (by rw [HR.out]; simp : _ ↔ _), rfl⟩
set_option maxHeartbeats 1000000 in
theorem containsUnsaid_any (v : Value) (xs : List Int) (w : World) (hv : Ints w v xs) (hm : xs.length ≤ 9223372036854775807) :
    Calls Tryz.prog 174 #[v, .func (.func 175) #[] #[]] w fun e w' => e = .returned (.bool (!saidB xs)) ∧ w = w' := by
  obtain ⟨ao, cap, rfl, hx⟩ := hv
  go_enter Tryz.func174, Tryz.ntmps174
  go_wp2_with (go_at_call 153; refine (indexUnsaid_any _ xs _ ⟨_, _, rfl, hx⟩ hm).mono ?_; rintro e w' ⟨i, rfl, hi, rfl⟩)
  go_ret
  refine ⟨ret_bool ?_, rfl⟩
  have h := hi.out
  show decide (0 ≤ i) = _
  rw [Bool.eq_iff_iff, decide_eq_true_eq, h]
  simp
end Go.Proofs.YtaghfcnpnfhacaaGreat

namespace Go.Proofs.YtaghfcnpnfhacaaGreat
open Go.RowKit Go.Sort

set_option maxHeartbeats 8000000 in
set_option maxRecDepth 100000 in
theorem pinned_any {P : Nat → Prop} (v : Value) (l : List PinD) (w : World) (hv : Sl pinRep P w v l) (hm : l.length ≤ 9223372036854775807) :
    Calls Tryz.prog 176 #[v] w fun e w' => e = .returned (.bool (pinsB l)) ∧ Ex w.heap.size none w w' := by
  obtain ⟨ao, cap, rfl, hx⟩ := hv
  have HX := Lib.hid hx
  clear hx
  go_enter Tryz.func176, Tryz.ntmps176
  go_wp2
  go_loopw [3, 4, 7] (fun _ _ i wr => ∃ k : Nat, k ≤ l.length ∧ i = .int .i64 k ∧ Hid (pinsTo l k = true) ∧ Ex w.heap.size none w wr) (fun _ _ i _ => l.length - (intOf i).toNat)
  case atStart => exact ⟨0, Nat.zero_le _, rfl, rfl, Ex.refl _ _ _⟩
  case round =>
    obtain ⟨k, hk, rfl, HT, hex⟩ := hrel
    have hsz := hex.size
    by_cases hlt : k < l.length
    · obtain ⟨b, off, p, rfl, _, hb, c0, c1, c2, HP⟩ := pin_get (HX.out.keep (by decide) (fun b _ hb => hex.block b hb (by simp))) k hlt
      have HW := Lib.hid hex
      clear hex
      by_cases a1 : 0 ≤ p.1 ∧ p.1 ≤ 63
      case neg =>
        have h1 : (decide (0 ≤ p.1) && decide (p.1 ≤ 63)) = false := by simp; omega
        have hkb : keyB p.1 = false := by simp [keyB]; omega
        have HK : Hid (pinsB l = false) := pinsTo_no hlt (by unfold pinAt; rw [HP.out]; simp [hkb])
        go_wp2_with fail
        go_quiet ((go_at_call 171; refine (listsIn_any _ _ _ _).mono ?_; (first | rw [h1] | rw [h3] | skip); exact fun _ _ h => ⟨h.1, _, h.2.symm⟩))
        go_wp2
        go_ret
        exact ⟨by rw [HK.out]; rfl, by (repeat (first | exact HW.out | refine Ex.drewN ?_ | refine Ex.drew ?_ | refine Ex.setCell ?_ _ none _ (.inr hsz) | refine Ex.alloc ?_ hsz _))⟩
      case pos =>
        have h1 : (decide (0 ≤ p.1) && decide (p.1 ≤ 63)) = true := by simp [a1]
        have hkb : keyB p.1 = true := by simp [keyB]; omega
        by_cases h0 : k = 0
        · have h0d : decide (0 < k) = false := by simp [h0]
          have HZ := Lib.hid h0
          clear h0
          by_cases a3 : 1 ≤ p.2.1 ∧ p.2.1 ≤ 200
          · have h3 : (decide (1 ≤ p.2.1) && decide (p.2.1 ≤ 200)) = true := by simp [a3]
            by_cases h5 : p.2.2.size = 32
            · have h5d : (((p.2.2.size : Nat) : Int) != 32) = false := by simp [h5]
              have HK : Hid (pinAt l k = true) := (show _ = _ by unfold pinAt; rw [HP.out]; simp [hkb, HZ.out, a3, h5])
              go_wp2_with fail
              go_quiet ((go_at_call 171; refine (listsIn_any _ _ _ _).mono ?_; (first | rw [h1] | rw [h3] | skip); exact fun _ _ h => ⟨h.1, _, h.2.symm⟩))
              go_wp2
              go_roundw
              case rel => exact ⟨k + 1, by omega, by go_num, (show _ = _ by rw [pinsTo_succ, HT.out, HK.out]; rfl), by (repeat (first | exact HW.out | refine Ex.drewN ?_ | refine Ex.drew ?_ | refine Ex.setCell ?_ _ none _ (.inr hsz) | refine Ex.alloc ?_ hsz _))⟩
              case measure => simp [intOf] <;> omega
            · have h5d : (((p.2.2.size : Nat) : Int) != 32) = true := by simp; omega
              have HK : Hid (pinsB l = false) := pinsTo_no hlt (by unfold pinAt; rw [HP.out]; simp [hkb, HZ.out, a3, h5])
              go_wp2_with fail
              go_quiet ((go_at_call 171; refine (listsIn_any _ _ _ _).mono ?_; (first | rw [h1] | rw [h3] | skip); exact fun _ _ h => ⟨h.1, _, h.2.symm⟩))
              go_wp2
              go_ret
              exact ⟨by rw [HK.out]; rfl, by (repeat (first | exact HW.out | refine Ex.drewN ?_ | refine Ex.drew ?_ | refine Ex.setCell ?_ _ none _ (.inr hsz) | refine Ex.alloc ?_ hsz _))⟩
          · have h3 : (decide (1 ≤ p.2.1) && decide (p.2.1 ≤ 200)) = false := by simp; omega
            have HK : Hid (pinsB l = false) := pinsTo_no hlt (by unfold pinAt; rw [HP.out]; have hx : ¬ 1 ≤ p.2.1 ∨ ¬ p.2.1 ≤ 200 := (by omega); rcases hx with hx | hx <;> simp [hkb, HZ.out, hx])
            go_wp2_with fail
            go_quiet ((go_at_call 171; refine (listsIn_any _ _ _ _).mono ?_; (first | rw [h1] | rw [h3] | skip); exact fun _ _ h => ⟨h.1, _, h.2.symm⟩))
            go_wp2
            go_ret
            exact ⟨by rw [HK.out]; rfl, by (repeat (first | exact HW.out | refine Ex.drewN ?_ | refine Ex.drew ?_ | refine Ex.setCell ?_ _ none _ (.inr hsz) | refine Ex.alloc ?_ hsz _))⟩
        · have h0d : 0 < k := by omega
          obtain ⟨i, hi⟩ : ∃ i, i = k - 1 := ⟨_, rfl⟩
          have hw1 : IntKind.i64.wrap ((k : Int) - 1) = i := by rw [show (k : Int) - 1 = i by omega]; exact IntWalk.i64_in _ (by omega)
          have hik : (i : Int) < (l.length : Int) := by omega
          obtain ⟨b', off', q, e', _, hb', c0', _, _, HQ⟩ := pin_get (HX.out.keep (by decide) (fun b _ hb => HW.out.block b hb (by simp))) i (by omega)
          cases e'
          have HI : Hid (l[k - 1]? = some q) := by rw [← hi]; exact HQ
          clear hi
          by_cases h2 : q.1 < p.1
          · have h2d : decide (p.1 ≤ q.1) = false := decide_eq_false (by omega)
            by_cases a3 : 1 ≤ p.2.1 ∧ p.2.1 ≤ 200
            · have h3 : (decide (1 ≤ p.2.1) && decide (p.2.1 ≤ 200)) = true := by simp [a3]
              by_cases h5 : p.2.2.size = 32
              · have h5d : (((p.2.2.size : Nat) : Int) != 32) = false := by simp [h5]
                have HK : Hid (pinAt l k = true) := (show _ = _ by unfold pinAt; rw [HP.out]; simp [hkb, h0, HI.out, h2, a3, h5])
                go_wp2_with fail
                go_quiet ((go_at_call 171; refine (listsIn_any _ _ _ _).mono ?_; (first | rw [h1] | rw [h3] | skip); exact fun _ _ h => ⟨h.1, _, h.2.symm⟩))
                go_wp2
                go_roundw
                case rel => exact ⟨k + 1, by omega, by go_num, (show _ = _ by rw [pinsTo_succ, HT.out, HK.out]; rfl), by (repeat (first | exact HW.out | refine Ex.drewN ?_ | refine Ex.drew ?_ | refine Ex.setCell ?_ _ none _ (.inr hsz) | refine Ex.alloc ?_ hsz _))⟩
                case measure => simp [intOf] <;> omega
              · have h5d : (((p.2.2.size : Nat) : Int) != 32) = true := by simp; omega
                have HK : Hid (pinsB l = false) := pinsTo_no hlt (by unfold pinAt; rw [HP.out]; simp [hkb, h0, HI.out, h2, a3, h5])
                go_wp2_with fail
                go_quiet ((go_at_call 171; refine (listsIn_any _ _ _ _).mono ?_; (first | rw [h1] | rw [h3] | skip); exact fun _ _ h => ⟨h.1, _, h.2.symm⟩))
                go_wp2
                go_ret
                exact ⟨by rw [HK.out]; rfl, by (repeat (first | exact HW.out | refine Ex.drewN ?_ | refine Ex.drew ?_ | refine Ex.setCell ?_ _ none _ (.inr hsz) | refine Ex.alloc ?_ hsz _))⟩
            · have h3 : (decide (1 ≤ p.2.1) && decide (p.2.1 ≤ 200)) = false := by simp; omega
              have HK : Hid (pinsB l = false) := pinsTo_no hlt (by unfold pinAt; rw [HP.out]; have hx : ¬ 1 ≤ p.2.1 ∨ ¬ p.2.1 ≤ 200 := (by omega); rcases hx with hx | hx <;> simp [hkb, h0, HI.out, h2, hx])
              go_wp2_with fail
              go_quiet ((go_at_call 171; refine (listsIn_any _ _ _ _).mono ?_; (first | rw [h1] | rw [h3] | skip); exact fun _ _ h => ⟨h.1, _, h.2.symm⟩))
              go_wp2
              go_ret
              exact ⟨by rw [HK.out]; rfl, by (repeat (first | exact HW.out | refine Ex.drewN ?_ | refine Ex.drew ?_ | refine Ex.setCell ?_ _ none _ (.inr hsz) | refine Ex.alloc ?_ hsz _))⟩
          · have h2d : decide (p.1 ≤ q.1) = true := decide_eq_true (by omega)
            have HK : Hid (pinsB l = false) := pinsTo_no hlt (by unfold pinAt; rw [HP.out]; simp [hkb, h0, HI.out, h2])
            go_wp2_with fail
            go_quiet ((go_at_call 171; refine (listsIn_any _ _ _ _).mono ?_; (first | rw [h1] | rw [h3] | skip); exact fun _ _ h => ⟨h.1, _, h.2.symm⟩))
            go_wp2
            go_ret
            exact ⟨by rw [HK.out]; rfl, by (repeat (first | exact HW.out | refine Ex.drewN ?_ | refine Ex.drew ?_ | refine Ex.setCell ?_ _ none _ (.inr hsz) | refine Ex.alloc ?_ hsz _))⟩
    · obtain rfl : k = l.length := by omega
      go_wp2
      go_ret
      exact ⟨by rw [show pinsB l = true from HT.out]; rfl, hex⟩
end Go.Proofs.YtaghfcnpnfhacaaGreat

namespace Go.Proofs.YtaghfcnpnfhacaaGreat
open Go.RowKit Go.Sort

/-- A statement of a loss that is right. -/
structure LossOK (s : St) : Prop where
  author : 0 ≤ s.author ∧ s.author ≤ 63
  number : 0 ≤ s.number ∧ s.number ≤ 199
  time : 0 ≤ s.time ∧ s.time ≤ 2147483648
  kind : s.kind = 13
  a : 0 ≤ s.a ∧ s.a ≤ 63
  b : 0 ≤ s.b ∧ s.b ≤ 63
  ne : s.a ≠ s.b
  c : s.c = 0
  list : s.list = []
  pins : s.pins = []
  body : s.body = ⟨#[]⟩
  prev : (s.number = 0 ∧ s.prev = ⟨#[]⟩) ∨ (0 < s.number ∧ s.prev.size = 32)

end Go.Proofs.YtaghfcnpnfhacaaGreat

namespace Go.Proofs.YtaghfcnpnfhacaaGreat
open Go.RowKit Go.Sort

theorem intK_cell {w : World} {g : Nat} {d : Array Int} (h : HoldsK iE 1 w g 0 d) (i : Nat) (hi : i < d.size) : w.cell? ⟨g, i, none⟩ = some (.int .i64 (d.toList.getD i 0)) ∧ w.frozen? ⟨g, i, none⟩ = false := by
  have := h.cell hi (show 0 < 1 by decide)
  simp only [Nat.zero_add, Nat.mul_one, Nat.add_zero] at this
  rw [this.1, getElem!_pos d i hi]
  refine ⟨?_, this.2⟩
  simp [iE, List.getD, hi]
theorem intK_set {w : World} {g : Nat} {d : Array Int} (h : HoldsK iE 1 w g 0 d) (i : Nat) (hi : i < d.size) (x : Int) : HoldsK iE 1 (w.setCell ⟨g, i, none⟩ (.int .i64 x)) g 0 (d.setIfInBounds i x) := by
  have := holdsK_set iE_len h i x hi
  simpa [iE, World.setCells] using this
/-- The block of a guard, as the closure sees it. -/
structure BoxG (w : World) (gb : Nat) (go : Option Addr) (gn gc : Nat) (gs : List Int) : Prop where
  cell : w.cell? ⟨gb, 2, none⟩ = some (.slice go gn gc)
  ints : IntsAt w go gs
  len : gs.length = gn
theorem BoxG.keep {w w' : World} {gb : Nat} {go : Option Addr} {gn gc : Nat} {gs : List Int} (h : BoxG w gb go gn gc gs) {B : Nat} (hx : Ex B none w w') (hB : w.heap.size ≤ B) : BoxG w' gb go gn gc gs :=
  ⟨(World.cell?_of_block (w := w) (hx.block gb (Nat.lt_of_lt_of_le (World.block_lt_of_cell? w _ h.cell) hB) (by simp))).trans h.cell, h.ints.keep hx hB (by simp), h.len⟩

set_option maxHeartbeats 1000000 in
theorem isOut_any (k : Int) (gb : Nat) (go : Option Addr) (gn gc : Nat) (gs : List Int) (w : World) (hb : BoxG w gb go gn gc gs) (hm : gn ≤ 1000000) :
    Calls Tryz.prog 76 #[.int .i64 k, .pointer (some ⟨gb, 0, none⟩)] w fun e w' => e = .returned (.bool (!hasI gs k)) ∧ w = w' := by
  obtain ⟨c2, hi, hl⟩ := hb
  have HI := Lib.hid hi
  have HL := Lib.hid hl
  clear hi hl
  go_enter Tryz.func76, Tryz.ntmps76
  cases h : hasI gs k with
  | true =>
    go_wp2_with (first | (go_at_call 77; refine (asB (contains_any (.slice go gn gc) gs k w ⟨go, gc, by rw [HL.out], HI.out⟩ (by rw [HL.out]; omega)) h).mono ?_; rintro e w' ⟨rfl, rfl⟩) | fail)
    go_ret
    exact ⟨rfl, rfl⟩
  | false =>
    go_wp2_with (first | (go_at_call 77; refine (asB (contains_any (.slice go gn gc) gs k w ⟨go, gc, by rw [HL.out], HI.out⟩ (by rw [HL.out]; omega)) h).mono ?_; rintro e w' ⟨rfl, rfl⟩) | fail)
    go_ret
    exact ⟨rfl, rfl⟩
/-- Where the first one lies that is not among gs. -/
def FirstOut (gs xs : List Int) (i : Int) : Prop := (i = -1 ∧ xs.filter (hasI gs) = xs) ∨ ∃ k : Nat, i = k ∧ k < xs.length ∧ ((xs.take (k + 1)).filter (hasI gs)).length = k
theorem filter_take_yes {gs xs : List Int} {k : Nat} {y : Int} (h : xs[k]? = some y) (hy : hasI gs y = true) : (xs.take (k + 1)).filter (hasI gs) = (xs.take k).filter (hasI gs) ++ [y] := by
  rw [List.take_add_one, h, List.filter_append]; simp [hy]
theorem filter_take_no {gs xs : List Int} {k : Nat} {y : Int} (h : xs[k]? = some y) (hy : hasI gs y = false) : (xs.take (k + 1)).filter (hasI gs) = (xs.take k).filter (hasI gs) := by
  rw [List.take_add_one, h, List.filter_append]; simp [hy]
theorem getD_some {xs : List Int} {k : Nat} {y : Int} (hk : k < xs.length) (h : xs.getD k 0 = y) : xs[k]? = some y := by
  simp only [List.getD_eq_getElem?_getD, List.getElem?_eq_getElem hk, Option.getD_some] at h
  rw [List.getElem?_eq_getElem hk, h]
set_option maxHeartbeats 1000000 in
theorem indexOut_any (v : Value) (xs : List Int) (gb : Nat) (go : Option Addr) (gn gc : Nat) (gs : List Int) (w : World) (hv : Ints w v xs) (hm : xs.length ≤ 1000000) (hb : BoxG w gb go gn gc gs) (hgm : gn ≤ 1000000) :
    Calls Tryz.prog 153 #[v, .func (.func 76) #[] #[.pointer (some ⟨gb, 0, none⟩)]] w fun e w' => ∃ i : Int, e = .returned (.int .i64 i) ∧ Hid (FirstOut gs xs i) ∧ w = w' := by
  obtain ⟨ao, cap, rfl, hx⟩ := hv
  have HB := Lib.hid hb
  clear hb
  go_enter Tryz.func153, Tryz.ntmps153
  go_wp2
  go_loop [5, 8] (fun _ i => ∃ k : Nat, k ≤ xs.length ∧ i = .int .i64 k ∧ Hid ((xs.take k).filter (hasI gs) = xs.take k)) (fun _ i => xs.length - (intOf i).toNat)
  case atStart => exact ⟨0, Nat.zero_le _, rfl, Lib.hid rfl⟩
  case round =>
    obtain ⟨k, hk, rfl, HN⟩ := hrel
    by_cases hlt : k < xs.length
    · have hltI : (k : Int) < (xs.length : Int) := by omega
      obtain ⟨b, off, y, rfl, hck, HY⟩ := hx.get k hlt
      have HG := Lib.hid (getD_some hlt HY.out)
      have HKL : Hid ((xs.take k).length = k) := Lib.hid (by rw [List.length_take]; omega)
      cases h : hasI gs y with
      | false =>
        have HR : Hid (FirstOut gs xs k) := .inr ⟨k, rfl, hlt, by rw [filter_take_no HG.out h, HN.out, HKL.out]⟩
        go_wp2_with (first | (refine (isOut_any y gb go gn gc gs _ HB.out hgm).mono ?_; rw [h]; rintro e w' ⟨rfl, rfl⟩) | fail)
        go_ret
        exact ⟨_, rfl, HR, rfl⟩
      | true =>
        have HR : Hid ((xs.take (k + 1)).filter (hasI gs) = xs.take (k + 1)) := by
          show _ = _
          rw [filter_take_yes HG.out h, HN.out, List.take_add_one, HG.out]; rfl
        go_wp2_with (first | (refine (isOut_any y gb go gn gc gs _ HB.out hgm).mono ?_; rw [h]; rintro e w' ⟨rfl, rfl⟩) | fail)
        go_round
        case rel => exact ⟨k + 1, by omega, by go_num, HR⟩
        case measure => simp [intOf] <;> omega
    · have hltI : ¬ (k : Int) < (xs.length : Int) := by omega
      have HR : Hid (FirstOut gs xs (-1)) := .inl ⟨rfl, by
        have h := HN.out
        rwa [List.take_of_length_le (by omega)] at h⟩
      go_wp2
      go_ret
      exact ⟨_, rfl, HR, rfl⟩
theorem filter_drop_eq {xs ys : List Int} {j : Nat} (h : ys.drop j = xs.drop j) : ys[j]? = xs[j]? := by
  have := congrArg (fun l => l[0]?) h
  simpa using this

set_option maxHeartbeats 4000000 in
set_option maxRecDepth 100000 in
theorem deleteOut_any (ro : Option Addr) (rc n base : Nat) (xs : List Int) (gb : Nat) (go : Option Addr) (gn gc : Nat) (gs : List Int) (w : World) (hn : xs.length = n) (hm : n ≤ 1000000) (hown : OwnE iE 1 3 w base ro rc xs) (hb : ∀ w', Ex base none w w' → BoxG w' gb go gn gc gs) (hgm : gn ≤ 1000000) (hbase : base ≤ w.heap.size) :
    Calls Tryz.prog 75 #[.slice ro n rc, .func (.func 76) #[] #[.pointer (some ⟨gb, 0, none⟩)]] w fun e w' => ∃ (ao : Option Addr) (c m : Nat), e = .returned (.slice ao m c) ∧ (xs.filter (hasI gs)).length = m ∧ m ≤ n ∧ Ex base none w w' := by
  have HB := Lib.hid hb
  have HN := Lib.hid hn
  have HO := Lib.hid hown
  have hcap : n ≤ rc := by
    rcases hown.cases with ⟨_, _, h⟩ | ⟨_, _, _, _, h⟩
    · rw [h] at hn; simp at hn; omega
    · rw [← hn]; exact h
  have HV : Hid (Ints w (.slice ro n rc) xs) := Lib.hid (by
    subst hn
    rcases hown.cases with ⟨rfl, rfl, rfl⟩ | ⟨g, rfl, _, _, _⟩
    · exact Ints.nil _
    · refine ⟨_, _, rfl, fun j hj => ⟨g, 0, rfl, fun i hi => ?_⟩⟩
      have := (intK_cell (hown.holds iE_len) i (by simpa using hi)).1
      simpa using this)
  clear hb hown
  go_enter Tryz.func75, Tryz.ntmps75
  go_upto_region 2 with (first | (go_at_call 153; refine (indexOut_any _ xs gb go gn gc gs _ HV.out (by omega) (HB.out _ (Ex.refl _ _ _)) hgm).mono ?_; rintro e w' ⟨i, rfl, HF, rfl⟩) | fail)
  by_cases hi : i = -1
  · subst hi
    have HR : Hid ((xs.filter (hasI gs)).length = n) := Lib.hid (by
      rcases HF.out with ⟨_, h⟩ | ⟨k, h, _⟩
      · rw [h]; exact HN.out
      · omega)
    go_wp2
    go_ret
    exact ⟨ro, rc, n, rfl, HR.out, Nat.le_refl _, Ex.refl _ _ _⟩
  · obtain ⟨k, rfl, hkn, hkf⟩ : ∃ k : Nat, i = k ∧ k < xs.length ∧ ((xs.take (k + 1)).filter (hasI gs)).length = k := by
      rcases HF.out with ⟨h, _⟩ | h
      · exact absurd h hi
      · exact h
    have hid : ((k : Int) == -1) = false := by simp
    rw [hn] at hkn
    have HKF := Lib.hid hkf
    obtain ⟨g, rfl, hg1, hg2⟩ : ∃ g, ro = some ⟨g, 0, none⟩ ∧ base ≤ g ∧ g < w.heap.size := by
      rcases HO.out.cases with ⟨_, _, h⟩ | ⟨g, h1, h2, h3, _⟩
      · subst h; simp at hn; omega
      · exact ⟨g, h1, h2, h3⟩
    clear HF hi hkf
    go_wp2_with fail
    go_loopw [5, 6, 7] (fun i j _ wr => ∃ (m q : Nat) (d : Array Int), i = .int .i64 m ∧ j = .int .i64 q ∧ m < q ∧ q ≤ n ∧ Hid (((xs.take q).filter (hasI gs)).length = m) ∧ Hid (d.size = n) ∧ Hid (d.toList.drop q = xs.drop q) ∧ Hid (HoldsK iE 1 wr g 0 d) ∧ Ex base none w wr ∧ wr.heap.size = w.heap.size) (fun _ j _ _ => n - (intOf j).toNat)
    case atStart => exact ⟨k, k + 1, xs.toArray, rfl, by go_num, by omega, by omega, HKF, Lib.hid (by simpa using hn), Lib.hid rfl, Lib.hid (HO.out.holds iE_len), Ex.refl _ _ _, rfl⟩
    case round =>
      obtain ⟨m, q, d, rfl, rfl, hmq, hqn, HM, HDS, HDD, HH, hex, hsz⟩ := hrel
      have HEX := Lib.hid hex
      clear hex
      by_cases hlt : q < n
      · have hltI : (q : Int) < (n : Int) := by omega
        obtain ⟨y, hy⟩ : ∃ y, xs[q]? = some y := ⟨_, List.getElem?_eq_getElem (by omega)⟩
        have HY := Lib.hid hy
        obtain ⟨c1, _⟩ := intK_cell HH.out q (by rw [HDS.out]; exact hlt)
        have e1 : d.toList.getD q 0 = y := by
          rw [List.getD_eq_getElem?_getD, filter_drop_eq HDD.out, hy]; rfl
        rw [e1] at c1
        obtain ⟨c2, f2⟩ := intK_cell HH.out m (by rw [HDS.out]; omega)
        obtain ⟨z, hz⟩ : ∃ z, z = d.toList.getD m 0 := ⟨_, rfl⟩
        rw [← hz] at c2
        clear hy e1 hz
        cases h : hasI gs y with
        | true =>
          have HM2 : Hid (((xs.take (q + 1)).filter (hasI gs)).length = m + 1) := Lib.hid (by rw [filter_take_yes HY.out h, List.length_append, HM.out]; rfl)
          have HS : Hid (HoldsK iE 1 (wr.setCell ⟨g, m, none⟩ (.int .i64 y)) g 0 (d.setIfInBounds m y)) := Lib.hid (intK_set HH.out m (by rw [HDS.out]; omega) y)
          have HD2 : Hid ((d.setIfInBounds m y).toList.drop (q + 1) = xs.drop (q + 1)) := Lib.hid (by
            rw [Array.toList_setIfInBounds, List.drop_set_of_lt (by omega)]
            have := congrArg (List.drop 1) HDD.out
            simpa using this)
          go_wp2_with (first | (refine (isOut_any y gb go gn gc gs _ (HB.out _ HEX.out) hgm).mono ?_; rw [h]; rintro e w' ⟨rfl, rfl⟩) | fail)
          go_roundw
          case rel => exact ⟨m + 1, q + 1, d.setIfInBounds m y, by go_num, by go_num, by omega, by omega, HM2, Lib.hid (by rw [Array.size_setIfInBounds]; exact HDS.out), HD2, HS, HEX.out.setCell _ none _ (.inr hg1), by rw [← hsz]; simp⟩
          case measure => simp [intOf] <;> omega
        | false =>
          have HM2 : Hid (((xs.take (q + 1)).filter (hasI gs)).length = m) := Lib.hid (by rw [filter_take_no HY.out h, HM.out])
          have HD2 : Hid (d.toList.drop (q + 1) = xs.drop (q + 1)) := Lib.hid (by
            have := congrArg (List.drop 1) HDD.out
            simpa using this)
          go_wp2_with (first | (refine (isOut_any y gb go gn gc gs _ (HB.out _ HEX.out) hgm).mono ?_; rw [h]; rintro e w' ⟨rfl, rfl⟩) | fail)
          go_roundw
          case rel => exact ⟨m, q + 1, d, rfl, by go_num, by omega, by omega, HM2, HDS, HD2, HH, HEX.out, hsz⟩
          case measure => simp [intOf] <;> omega
      · have hltI : ¬ (q : Int) < (n : Int) := by omega
        have HR : Hid ((xs.filter (hasI gs)).length = m) := Lib.hid (by
          have h := HM.out
          rwa [List.take_of_length_le (by rw [HN.out]; omega)] at h)
        have hmn : m ≤ n := by omega
        have hmn2 : m < n := by omega
        have hmr : (m : Int) ≤ (rc : Int) := by omega
        have hmnI : (m : Int) ≤ (n : Int) := by omega
        have hsub : ((n : Int) - (m : Int)) = ((n - m : Nat) : Int) := by omega
        have hcl : ∀ ty, (Builtin.clear_ #[22] ty #[.slice (some ⟨g, m, none⟩) (n - m) (rc - m)]).run Tryz.prog wr = .ok (.tuple #[]) (wr.setCells g m (List.replicate (n - m) (.int .i64 0))) := fun ty =>
          Lib.run_clear_slice wr _ _ ty (.int .i64 0) Tryz.underlying22 (fun w => by kernel_rfl) rfl rfl g m _ _ (by omega) (fun j hj => by rw [(intK_cell HH.out (m + j) (by rw [HDS.out]; omega)).1]; rfl) (fun j hj => (intK_cell HH.out (m + j) (by rw [HDS.out]; omega)).2)
        have HF : Hid (Ex base none w (wr.setCells g m (List.replicate (n - m) (.int .i64 0)))) := Lib.hid (HEX.out.trans (ex_setCells wr g m _) (by omega) (fun q e hq => by cases e; omega))
        go_wp2
        go_ret
        exact ⟨_, _, m, rfl, HR.out, hmn, HF.out⟩
end Go.Proofs.YtaghfcnpnfhacaaGreat
