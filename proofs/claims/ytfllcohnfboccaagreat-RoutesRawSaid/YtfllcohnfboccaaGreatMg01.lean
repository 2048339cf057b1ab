/- slices.Index, Contains: contracts, no statement of the seat. | Routes over tables, plain: how many meet some keys; which steps end them. No statement of the seat. | The keys of the map of losses: a struct of two numbers. No statement of the seat. | What the map of losses holds: of each author the last one named. Plain. No statement of the seat. | made.Light: a contract, no statement of the seat. | Some: contracts, no statement of the seat. -/
import Derived.Test.YtfllcohnfboccaaGreatRows
import Derived.Test.YtfllcohnfboccaaGreatMg00
import Derived.DeepKeys4
import Derived.WideKeyPair
import Derived.Maps.OwnSet
namespace Go.Proofs.YtfllcohnfboccaaGreat
open Go.RowKit

set_option maxHeartbeats 400000 in
theorem index_any (v1 : Value) (xs : List Int) (x : Int) (w : World) (hv1 : Ints w v1 xs) (hm : xs.length ≤ 9223372036854775807) :
    Calls Tryz.prog 105 #[v1, .int .i64 x] w fun e w' => ∃ i, e = .returned (.int .i64 i) ∧ Hid (0 ≤ i ↔ hasI xs x = true) ∧ w = w' := by
  obtain ⟨ao, cap, rfl, hx⟩ := hv1
  go_enter Tryz.func105, Tryz.ntmps105
  go_wp2
  go_loop [8] (fun i => ∃ k : Nat, k ≤ xs.length ∧ i = .int .i64 k ∧ hasI (xs.take k) x = false) (fun i => xs.length - (intOf i).toNat)
  case atStart => exact ⟨0, Nat.zero_le _, rfl, rfl⟩
  case round =>
    obtain ⟨k, hk, rfl, hno⟩ := hrel
    have HN := Lib.hid hno
    clear hno
    by_cases hlt : k < xs.length
    · obtain ⟨b, off, y, rfl, hck, HY⟩ := hx.get k hlt
      by_cases he : x = y
      · have hb : (x == y) = true := by simpa using he
        have HR := Lib.hid (hasI_get hlt (HY.out.trans he.symm))
        clear he
        go_wp2
        go_ret
        exact ⟨_, rfl, (by rw [HR.out]; simp : _ ↔ _), rfl⟩
      · have hb : (x == y) = false := by simpa using he
        have HR := Lib.hid (hasI_take_succ hlt HN.out (by rw [HY.out]; exact fun h => he h.symm))
        clear he
        go_wp2
        go_round
        case rel => exact ⟨k + 1, by omega, by go_num, HR.out⟩
        case measure => simp [intOf]; omega
    · have HR : Hid (hasI xs x = false) := by
        have h := HN.out
        rwa [List.take_of_length_le (by omega)] at h
      go_wp2
      go_ret
      exact ⟨_, rfl, (by rw [HR.out]; simp : _ ↔ _), rfl⟩

set_option maxHeartbeats 400000 in
theorem contains_any (v1 : Value) (xs : List Int) (x : Int) (w : World) (hv1 : Ints w v1 xs) (hm : xs.length ≤ 9223372036854775807) :
    Calls Tryz.prog 58 #[v1, .int .i64 x] w fun e w' => e = .returned (.bool (hasI xs x)) ∧ w = w' := by
  obtain ⟨ao, cap, rfl, hx⟩ := hv1
  go_enter Tryz.func58, Tryz.ntmps58
  go_wp2_with (go_at_call 105; refine (index_any _ _ _ _ ⟨_, _, rfl, hx⟩ hm).mono ?_; rintro e w' ⟨i, rfl, hi, rfl⟩)
  go_ret
  refine ⟨ret_bool ?_, rfl⟩
  have h := hi.out
  show decide (0 ≤ i) = _
  rw [Bool.eq_iff_iff, decide_eq_true_eq, h]

end Go.Proofs.YtfllcohnfboccaaGreat

namespace Go.Proofs.YtfllcohnfboccaaGreat

theorem nodup_sub_len {α : Type} [DecidableEq α] : ∀ (l s : List α), l.Nodup → (∀ x ∈ l, x ∈ s) → l.length ≤ s.length
  | [], _, _, _ => Nat.zero_le _
  | x :: l, s, hn, h => by
    rw [List.nodup_cons] at hn
    have hx := h x (by simp)
    have h1 := nodup_sub_len l (s.erase x) hn.2 fun y hy => by
      have : y ≠ x := fun e => hn.1 (e ▸ hy)
      exact (List.mem_erase_of_ne this).2 (h y (by simp [hy]))
    rw [List.length_erase_of_mem hx] at h1
    have := List.length_pos_of_mem hx
    simp only [List.length_cons]
    omega
theorem nodup_map_on {α β : Type} {f : α → β} : ∀ {l : List α}, l.Nodup → (∀ x ∈ l, ∀ y ∈ l, f x = f y → x = y) → (l.map f).Nodup
  | [], _, _ => List.nodup_nil
  | x :: l, hn, h => by
    rw [List.nodup_cons] at hn
    rw [List.map_cons, List.nodup_cons]
    refine ⟨fun hm => ?_, nodup_map_on hn.2 fun a ha b hb => h a (by simp [ha]) b (by simp [hb])⟩
    obtain ⟨y, hy, e⟩ := List.mem_map.1 hm
    have := h x (by simp) y (by simp [hy]) e.symm
    exact hn.1 (this ▸ hy)
/-- The steps of the first n keys: each with each of its neighbours. -/
def stepsI (T : Int → List Int) : Nat → List (Int × Int)
  | 0 => []
  | n + 1 => stepsI T n ++ (T (n : Int)).map fun x => ((n : Int), x)
theorem mem_stepsI {T : Int → List Int} {n : Nat} {e : Int × Int} : e ∈ stepsI T n ↔ (0 ≤ e.1 ∧ e.1 < n) ∧ e.2 ∈ T e.1 := by
  induction n with
  | zero => simp [stepsI]; omega
  | succ n ih =>
    rw [stepsI, List.mem_append, ih, List.mem_map]
    constructor
    · rintro (⟨h1, h2⟩ | ⟨x, hx, rfl⟩)
      · exact ⟨⟨h1.1, by omega⟩, h2⟩
      · exact ⟨⟨by simp, by simp; omega⟩, hx⟩
    · rintro ⟨h1, h2⟩
      by_cases c : e.1 = (n : Int)
      · exact .inr ⟨e.2, c ▸ h2, Prod.ext c.symm rfl⟩
      · exact .inl ⟨⟨h1.1, by omega⟩, h2⟩
theorem nodup_stepsI {T : Int → List Int} (hT : Tabs T) (n : Nat) : (stepsI T n).Nodup := by
  induction n with
  | zero => simp [stepsI]
  | succ n ih =>
    rw [stepsI, List.nodup_append]
    refine ⟨ih, nodup_map_on (hT.nd _) fun x _ y _ e => congrArg Prod.snd e, ?_⟩
    intro a ha b hb e
    subst e
    have h1 := (mem_stepsI.1 ha).1.2
    obtain ⟨x, _, rfl⟩ := List.mem_map.1 hb
    simp at h1
/-- Whether a number is among numbers. -/
def hasB (l : List Int) (x : Int) : Bool := l.any fun y => y == x
theorem hasB_iff {l : List Int} {x : Int} : hasB l x = true ↔ x ∈ l := by
  simp [hasB]
/-- Whether keys meet some keys. -/
def meetB (bad r : List Int) : Bool := r.any fun x => hasB bad x
/-- How many routes of a key meet some keys. -/
def escI (T : Int → List Int) (bad : List Int) (m : Nat) (k : Int) : Nat := (T k).countP fun x => meetB bad (rtI T (k, x) m)
/-- .. of the first n keys that are none of them. -/
def escTo (T : Int → List Int) (bad : List Int) (m : Nat) : Nat → Nat
  | 0 => 0
  | n + 1 => escTo T bad m n + if hasB bad (n : Int) then 0 else escI T bad m (n : Int)
/-- How many steps lead from the first n keys that are none of them to one of them. -/
def badTo (T : Int → List Int) (bad : List Int) : Nat → Nat
  | 0 => 0
  | n + 1 => badTo T bad n + if hasB bad (n : Int) then 0 else (T (n : Int)).countP fun x => hasB bad x
theorem escTo_eq (T : Int → List Int) (bad : List Int) (m n : Nat) : escTo T bad m n = (stepsI T n).countP fun e => !hasB bad e.1 && meetB bad (rtI T e m) := by
  induction n with
  | zero => rfl
  | succ n ih =>
    rw [escTo, stepsI, List.countP_append, ih, List.countP_map]
    congr 1
    cases h : hasB bad (n : Int) with
    | true => symm; simp [h]
    | false => rw [if_neg (by simp)]; unfold escI; congr 1; funext x; simp [h]
theorem badTo_eq (T : Int → List Int) (bad : List Int) (n : Nat) : badTo T bad n = (stepsI T n).countP fun e => !hasB bad e.1 && hasB bad e.2 := by
  induction n with
  | zero => rfl
  | succ n ih =>
    rw [badTo, stepsI, List.countP_append, ih, List.countP_map]
    congr 1
    cases h : hasB bad (n : Int) with
    | true => symm; simp [h]
    | false => rw [if_neg (by simp)]; congr 1; funext x; simp [h]
/-- A route that begins at none of them and meets them has a step that leads to one of them. -/
theorem meet_step {T : Int → List Int} {bad : List Int} {e : Int × Int} {m : Nat} (h0 : hasB bad e.1 = false) (h : meetB bad (rtI T e m) = true) : ∃ j, j < m + 1 ∧ hasB bad (prI T e j).1 = false ∧ hasB bad (prI T e j).2 = true := by
  have h1 : ∃ i, i < m + 1 ∧ hasB bad (prI T e i).2 = true := by
    simp only [meetB, rtI, List.any_cons, h0, Bool.false_or, List.any_map, List.any_eq_true, List.mem_range] at h
    obtain ⟨i, hi, h⟩ := h
    exact ⟨i, hi, h⟩
  obtain ⟨i, hi, hb⟩ := h1
  have : ∀ i, hasB bad (prI T e i).2 = true → ∃ j, j ≤ i ∧ hasB bad (prI T e j).1 = false ∧ hasB bad (prI T e j).2 = true := by
    intro i
    induction i with
    | zero => intro h; exact ⟨0, Nat.le_refl _, h0, h⟩
    | succ i ih =>
      intro h
      cases c : hasB bad (prI T e i).2 with
      | true => obtain ⟨j, hj, h2⟩ := ih c; exact ⟨j, by omega, h2⟩
      | false => exact ⟨i + 1, Nat.le_refl _, c, h⟩
  obtain ⟨j, hj, h2⟩ := this i hb
  exact ⟨j, by omega, h2⟩
theorem countP_or_le {α : Type} (p q r : α → Bool) (l : List α) (h : ∀ x ∈ l, p x = true → q x = true ∨ r x = true) : l.countP p ≤ l.countP q + l.countP r := by
  induction l with
  | nil => simp
  | cons x l ih =>
    have := ih fun y hy => h y (by simp [hy])
    rw [List.countP_cons, List.countP_cons, List.countP_cons]
    have hx := h x (by simp)
    cases hp : p x <;> cases hq : q x <;> cases hr : r x <;> simp_all <;> omega
/-- The bound of escapes. -/
theorem esc_bound {T : Int → List Int} (hT : Tabs T) (bad : List Int) (m n : Nat) (hr : ∀ a b, a ∈ T b → 0 ≤ a ∧ a < n) : escTo T bad m n ≤ (m + 1) * badTo T bad n := by
  rw [escTo_eq, badTo_eq]
  have one : ∀ j, (stepsI T n).countP (fun e => !hasB bad (prI T e j).1 && hasB bad (prI T e j).2) ≤ (stepsI T n).countP fun e => !hasB bad e.1 && hasB bad e.2 := by
    intro j
    rw [List.countP_eq_length_filter, List.countP_eq_length_filter, ← List.length_map (fun e => prI T e j)]
    apply nodup_sub_len
    · apply nodup_map_on ((nodup_stepsI hT n).filter _)
      intro x hx y hy h
      have hx := (mem_stepsI.1 (List.mem_filter.1 hx).1).2
      have hy := (mem_stepsI.1 (List.mem_filter.1 hy).1).2
      exact pr_inj hT (hT.sym _ _ hx) (hT.sym _ _ hy) j h
    · intro x hx
      obtain ⟨e, he, rfl⟩ := List.mem_map.1 hx
      obtain ⟨he, hp⟩ := List.mem_filter.1 he
      have h1 := pr_mem hT (hT.sym _ _ (mem_stepsI.1 he).2) j
      rw [List.mem_filter]
      refine ⟨mem_stepsI.2 ⟨hr _ _ h1, hT.sym _ _ h1⟩, hp⟩
  have all : ∀ q, (stepsI T n).countP (fun e => (List.range q).any fun j => !hasB bad (prI T e j).1 && hasB bad (prI T e j).2) ≤ q * (stepsI T n).countP fun e => !hasB bad e.1 && hasB bad e.2 := by
    intro q
    induction q with
    | zero => simp
    | succ q ih =>
      refine Nat.le_trans (countP_or_le _ (fun e => (List.range q).any fun j => !hasB bad (prI T e j).1 && hasB bad (prI T e j).2) (fun e => !hasB bad (prI T e q).1 && hasB bad (prI T e q).2) _ ?_) ?_
      · intro e _ h
        rw [List.range_succ, List.any_append, Bool.or_eq_true] at h
        rcases h with h | h
        · exact .inl h
        · exact .inr (by simpa using h)
      · rw [Nat.succ_mul]
        exact Nat.add_le_add ih (one q)
  refine Nat.le_trans (List.countP_mono_left fun e _ h => ?_) (all (m + 1))
  rw [Bool.and_eq_true] at h
  obtain ⟨j, hj, h1, h2⟩ := meet_step (by simpa using h.1) h.2
  rw [List.any_eq_true]
  exact ⟨j, List.mem_range.2 hj, by simp [h1, h2]⟩
theorem count_one {α : Type} [BEq α] [LawfulBEq α] [DecidableEq α] {l : List α} {x : α} (hn : l.Nodup) (h : x ∈ l) : l.count x = 1 := by
  induction l with
  | nil => cases h
  | cons y l ih =>
    rw [List.nodup_cons] at hn
    rw [List.count_cons]
    by_cases c : y = x
    · subst c; rw [List.count_eq_zero_of_not_mem hn.1]; simp
    · rcases List.mem_cons.1 h with e | h
      · exact absurd e.symm c
      · rw [ih hn.2 h]; simp [c]
/-- How many of the routes that have been walked end with a step. -/
def endsI (T : Int → List Int) (m : Nat) (l : List (Int × Int)) : List (Int × Int) := l.map fun e => prI T e m
theorem ends_nodup {T : Int → List Int} (hT : Tabs T) (m : Nat) {l : List (Int × Int)} (hl : l.Nodup) (h : ∀ e ∈ l, e.2 ∈ T e.1) : (endsI T m l).Nodup :=
  nodup_map_on hl fun x hx y hy e => pr_inj hT (hT.sym _ _ (h x hx)) (hT.sym _ _ (h y hy)) m e
/-- The routes of all keys end with each step between neighbours once. -/
theorem ends_count {T : Int → List Int} (hT : Tabs T) (m n : Nat) (hr : ∀ a b, a ∈ T b → 0 ≤ a ∧ a < n) (e : Int × Int) : (endsI T m (stepsI T n)).count e = if e.2 ∈ T e.1 then 1 else 0 := by
  have hn := ends_nodup hT m (nodup_stepsI hT n) fun e he => (mem_stepsI.1 he).2
  split
  · rename_i h
    apply count_one hn
    obtain ⟨f, hf, h2⟩ := pr_surj hT (hT.sym _ _ h) m
    exact List.mem_map.2 ⟨f, mem_stepsI.2 ⟨hr _ _ hf, hT.sym _ _ hf⟩, h2⟩
  · rename_i h
    apply List.count_eq_zero_of_not_mem
    intro hm
    obtain ⟨f, hf, rfl⟩ := List.mem_map.1 hm
    exact h (hT.sym _ _ (pr_mem hT (hT.sym _ _ (mem_stepsI.1 hf).2) m))
end Go.Proofs.YtfllcohnfboccaaGreat

namespace Go.Proofs.YtfllcohnfboccaaGreat
open Go.RowKit Go.Maps

theorem Tryz.laidOut : laidOutB Tryz.prog = true := by kernel_rfl
theorem Tryz.rowLoss : (136 : TypeId) < Tryz.prog.types.size := of_decide_eq_true (by kernel_rfl)
theorem Tryz.cellsLoss : Tryz.prog.cellsOf 136 = 2 := by kernel_rfl
theorem Tryz.cellsInt : Tryz.prog.cellsOf 3 = 1 := by kernel_rfl
theorem Tryz.deepLoss : Tryz.prog.keyType 136 = true := by kernel_rfl
theorem Tryz.wideLoss : (match Tryz.prog.underlying 136 with | some (.array _ _) | some (.struct _) => true | _ => false) = true := by rw [Tryz.underlying136]
set_option maxRecDepth 100000 in
theorem Tryz.lawLoss : WideMaps.KeyLaw Tryz.prog 136 := deep_law_laid Tryz.laidOut (m := 2) (by omega) Tryz.rowLoss (by kernel_rfl) Tryz.wideLoss
theorem Tryz.keyedLoss : Keyed Tryz.prog 136 := Keyed.of_law Tryz.lawLoss
/-- What a key reads as. -/
def keyL (k a : Int) : Lit := .string (keyBytes [.int .i64 k, .int .i64 a])
set_option maxRecDepth 100000 in
theorem keyOf_loss (k a : Int) (hk : 0 ≤ k ∧ k < 64) (ha : 0 ≤ a ∧ a < 64) : keyOf Tryz.prog 136 (.agg #[.int .i64 k, .int .i64 a]) = some (keyL k a) := by
  have w1 : (Lit.int .i64 k).wf = true := WalkArith.wf_i64 (by omega)
  have w2 : (Lit.int .i64 a).wf = true := WalkArith.wf_i64 (by omega)
  obtain ⟨m, hm⟩ : ∃ m, Tryz.prog.types.size = m + 1 := ⟨_, (Nat.succ_pred_eq_of_pos (Nat.lt_of_le_of_lt (Nat.zero_le _) Tryz.rowLoss)).symm⟩
  unfold keyOf
  simp only [Tryz.underlying136, Tryz.deepLoss, Value.formed, Tryz.cellsLoss, Bool.true_and]
  rw [hm]
  simp [Program.keyLits, Tryz.underlying136, Tryz.underlying3, Tryz.cellsLoss, Tryz.cellsInt, Value.cells, w1, w2, keyL]
end Go.Proofs.YtfllcohnfboccaaGreat

namespace Go.Proofs.YtfllcohnfboccaaGreat
open Go.RowKit Go.Maps

theorem snoc_ind {α : Type} {motive : List α → Prop} (nil : motive []) (snoc : ∀ l x, motive l → motive (l ++ [x])) (l : List α) : motive l := by
  have h : ∀ r : List α, motive r.reverse := by
    intro r
    induction r with
    | nil => simpa using nil
    | cons x r ih => simpa using snoc _ x ih
  simpa using h l.reverse
theorem keyL_isKey (k a : Int) : WideAt.IsKeyLit (keyL k a) := trivial
theorem bytes_low (n : Int) (h : 0 ≤ n ∧ n < 64) : (Lit.keyBytes (.int .i64 n)).getD 7 0 = UInt8.ofNat n.toNat := by
  obtain ⟨m, rfl⟩ : ∃ m : Nat, n = m := ⟨n.toNat, by omega⟩
  have hm : m < 64 := by omega
  clear h
  revert hm
  revert m
  decide
theorem keyL_inj {k k' a : Int} (hk : 0 ≤ k ∧ k < 64) (hk' : 0 ≤ k' ∧ k' < 64) (h : keyL k a = keyL k' a) : k = k' := by
  unfold keyL keyBytes at h
  simp only [Lit.string.injEq, List.flatMap_cons, List.flatMap_nil, List.append_nil, List.append_cancel_right_eq] at h
  have h1 := bytes_low k hk
  have h2 := bytes_low k' hk'
  rw [h, h2] at h1
  have h3 := congrArg UInt8.toNat h1
  simp only [UInt8.toNat_ofNat'] at h3
  omega
/-- The map behind the votes l (author, heir) on one lost key. -/
def mapD (a : Int) (l : List (Int × Int)) : DataW Unit := l.foldl (fun D p => D.put (keyL p.1 a) (.lit (.int .i64 p.2))) (.map [])
/-- Whom an author named last. -/
def lastOf (l : List (Int × Int)) (k : Int) : Option Int := ((l.filter fun p => decide (p.1 = k)).getLast?).map (·.2)
theorem mapD_snoc (a : Int) (l : List (Int × Int)) (p : Int × Int) : mapD a (l ++ [p]) = (mapD a l).put (keyL p.1 a) (.lit (.int .i64 p.2)) := by
  unfold mapD; rw [List.foldl_append]; rfl
theorem lastOf_snoc (l : List (Int × Int)) (p : Int × Int) (k : Int) : lastOf (l ++ [p]) k = if p.1 = k then some p.2 else lastOf l k := by
  unfold lastOf
  rw [List.filter_append]
  by_cases h : p.1 = k
  · rw [if_pos h]
    simp [h]
  · rw [if_neg h]
    simp [h]
theorem mapD_isMap (a : Int) (l : List (Int × Int)) : IsMap (mapD a l) := by
  induction l using snoc_ind with
  | nil => exact isMap_empty
  | snoc l p ih => rw [mapD_snoc]; exact ih.put _ _
theorem mapD_has {a k : Int} {l : List (Int × Int)} (hl : ∀ p ∈ l, 0 ≤ p.1 ∧ p.1 < 64) (hk : 0 ≤ k ∧ k < 64) : Maps.has (mapD a l) (keyL k a) = (lastOf l k).isSome := by
  induction l using snoc_ind with
  | nil => rfl
  | snoc l p ih =>
    have ih := ih fun q hq => hl q (by simp [hq])
    rw [mapD_snoc, lastOf_snoc]
    by_cases h : p.1 = k
    · rw [if_pos h, h, has_put_same (mapD_isMap a l) (keyL_isKey k a)]; rfl
    · rw [if_neg h, has_put_other (fun e => h (keyL_inj (hl p (by simp)) hk e.symm)), ih]
theorem mapD_at {a k : Int} {l : List (Int × Int)} (hl : ∀ p ∈ l, 0 ≤ p.1 ∧ p.1 < 64) (hk : 0 ≤ k ∧ k < 64) : (mapD a l).atKey (keyL k a) (.lit (.int .i64 0)) = .lit (.int .i64 ((lastOf l k).getD 0)) := by
  induction l using snoc_ind with
  | nil => rfl
  | snoc l p ih =>
    have ih := ih fun q hq => hl q (by simp [hq])
    rw [mapD_snoc, lastOf_snoc]
    by_cases h : p.1 = k
    · rw [if_pos h, h, atKey_put_same (mapD_isMap a l) (keyL_isKey k a)]; rfl
    · rw [if_neg h, atKey_put_other (fun e => h (keyL_inj (hl p (by simp)) hk e.symm)), ih]
/-- Who has named 'next' last, of the first n keys. -/
def voicesL (l : List (Int × Int)) (next : Int) (n : Nat) : List Int := ((List.range n).filter fun (k : Nat) => decide (lastOf l (k : Int) = some next)).map fun (k : Nat) => (k : Int)
theorem voicesL_succ (l : List (Int × Int)) (next : Int) (n : Nat) : voicesL l next (n + 1) = voicesL l next n ++ (if lastOf l (n : Int) = some next then [(n : Int)] else []) := by
  unfold voicesL
  rw [List.range_succ, List.filter_append, List.map_append]
  by_cases h : lastOf l (n : Int) = some next <;> simp [h]
theorem voicesL_len (l : List (Int × Int)) (next : Int) (n : Nat) : (voicesL l next n).length ≤ n := by
  unfold voicesL
  have := List.length_filter_le (fun k => decide (lastOf l ((k : Nat) : Int) = some next)) (List.range n)
  simp only [List.length_map, List.length_range] at *
  omega
end Go.Proofs.YtfllcohnfboccaaGreat

namespace Go.Proofs.YtfllcohnfboccaaGreat
open Go.RowKit

theorem madeLight_any (ao : Option Addr) (cap n : Nat) (w : World) :
    Calls Tryz.prog 31 #[.slice ao n cap] w fun e w' => e = .returned (.bool (decide ((n : Int) ≤ 400))) ∧ w = w' := by
  go_enter Tryz.func31, Tryz.ntmps31
  go_wp2
  go_ret
  exact ⟨rfl, rfl⟩
end Go.Proofs.YtfllcohnfboccaaGreat

namespace Go.Proofs.YtfllcohnfboccaaGreat
open Go.RowKit

theorem someTo_yes {d : List Int} {k : Nat} (h : dVal (someTo d k).2 3 = 0) : (someTo d (k + 1)).1 = (someTo d k).1 ++ [(k : Int)] := by rw [someTo, if_pos h]
theorem someTo_no {d : List Int} {k : Nat} (h : ¬ dVal (someTo d k).2 3 = 0) : (someTo d (k + 1)).1 = (someTo d k).1 := by rw [someTo, if_neg h, List.append_nil]
theorem someTo_rest {d : List Int} {k : Nat} : (someTo d (k + 1)).2 = (someTo d k).2.tail := rfl

set_option maxHeartbeats 400000 in
theorem some_any (N p : Nat) (d : List Int) (n : Int) (w : World) (hd : DiceAt N w p d) (hN : N ≤ w.heap.size) (h0 : 0 ≤ n) (hn : n ≤ 100000) :
    Calls Tryz.prog 35 #[.pointer (some ⟨p, 0, none⟩), .int .i64 n] w fun e w' => ∃ ro rc, e = .returned (.slice ro (someTo d n.toNat).1.length rc) ∧
      OwnI w' w.heap.size ro rc (someTo d n.toNat).1 ∧ DiceAt N w' p (someTo d n.toNat).2 ∧ Ex w.heap.size (some p) w w' := by
  obtain ⟨m, rfl⟩ := Int.eq_ofNat_of_zero_le h0
  rw [Int.toNat_natCast]
  have hp := hd.lt
  have hm : m ≤ 100000 := by omega
  go_enter Tryz.func35, Tryz.ntmps35
  go_wp2
  go_loopw [5, 6] (fun v i wr => ∃ (k : Nat) (ro : Option Addr) (rc : Nat), k ≤ m ∧ i = .int .i64 k ∧ v = .slice ro (someTo d k).1.length rc ∧ OwnI wr w.heap.size ro rc (someTo d k).1 ∧ DiceAt N wr p (someTo d k).2 ∧ Ex w.heap.size (some p) w wr) (fun _ i _ => m - (intOf i).toNat)
  case atStart => exact ⟨0, none, 0, by omega, rfl, rfl, OwnI.nil _ _, hd, Ex.refl _ _ _⟩
  case round =>
    obtain ⟨k, ro, rc, hk, rfl, rfl, hown, hdr, hex⟩ := hrel
    have hle := someTo_le d k
    have hsz := hex.size
    by_cases hlt : k < m
    · by_cases hv : dVal (someTo d k).2 3 = 0
      · have HK := Lib.hid (someTo_yes hv)
        have hb : (dVal (someTo d k).2 3 == 0) = true := by simpa using hv
        clear hv
        go_wp2_with (first
          | (go_at_call 20; refine (next_any N p _ _ _ hdr (by omega)).mono ?_; rintro e w2 ⟨rfl, hd2, hex2⟩; have hsz2 := hex2.size; have hown2 := hown.keep hex2 (Nat.le_refl _) (fun q e => by cases e; omega))
          | (at_builtin; refine wpList_appI (w0 := w2) rfl _ _ _ rfl Tryz.underlying22 Tryz.infoInt w.heap.size ro rc _ w2.heap.size k rfl rfl hown2 (Ex.new _ _) (by go_simp) (by omega) (by omega) ?_; intro ro' rc' w1 hown1 hex1))
        go_roundw
        case rel => exact ⟨k + 1, ro', rc', by omega, by go_num, by rw [HK.out, List.length_append]; rfl, by rw [HK.out]; exact hown1, hd2.keep hex1 (by omega), (hex.trans hex2 hsz (fun q e _ => by cases e; rfl)).trans hex1 (Nat.le_refl _) (by simp)⟩
        case measure => simp [intOf]; omega
      · have HK := Lib.hid (someTo_no hv)
        have hb : (dVal (someTo d k).2 3 == 0) = false := by simpa using hv
        clear hv
        go_wp2_with (first
          | (go_at_call 20; refine (next_any N p _ _ _ hdr (by omega)).mono ?_; rintro e w2 ⟨rfl, hd2, hex2⟩; have hsz2 := hex2.size; have hown2 := hown.keep hex2 (Nat.le_refl _) (fun q e => by cases e; omega)))
        go_roundw
        case rel => exact ⟨k + 1, ro, rc, by omega, by go_num, by rw [HK.out], by rw [HK.out]; exact hown2, by rw [someTo_rest]; exact hd2, hex.trans hex2 hsz (fun q e _ => by cases e; rfl)⟩
        case measure => simp [intOf]; omega
    · obtain rfl : k = m := by omega
      go_wp2
      go_ret
      exact ⟨ro, rc, rfl, hown, hdr, hex⟩

end Go.Proofs.YtfllcohnfboccaaGreat
