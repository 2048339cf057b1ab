/- The merge of the library's stable sort, in place, by rotations: plain laws on rows. No program in sight. | Runs of a row in blocks, as the library's stable sort makes them longer: plain laws. No program in sight. | What the library's CompactFunc leaves of a row: plain laws. No program in sight. | The library's binary search at heirs: a contract, no statement of the seat. | ref35.Follow, Replace: contracts, no statement of the seat. | ref35.Replace: a contract, no statement of the seat. | ref23.SameInts: contracts, no statement of the seat. | made.Mod: contracts, no statement of the seat. | Dice: Roll, Next, Some, Keys: contracts, no statement of the seat. | Dice.One: a contract, no statement of the seat. | mill.Light: contracts, no statement of the seat. | mill.Roll: contracts, no statement of the seat. -/
import Derived.Test.YtdgfankkapeclaaGreatMg00
import Derived.Sort.LotA
import Derived.Test.YtdgfankkapeclaaGreatRows
namespace Go.Proofs.YtdgfankkapeclaaGreat
open Go.Sort

variable {α : Type} [Inhabited α]

/-- Where that comes from what stands at t behind a rotation of [a, b) about m. -/
def rotIx (a m b t : Nat) : Nat := if a ≤ t ∧ t < a + (b - m) then t + (m - a) else if a + (b - m) ≤ t ∧ t < b then t - (b - m) else t
/-- Where that comes from what stands at t when n places from x on have been exchanged with those from y on. -/
def swIx (x y n t : Nat) : Nat := if x ≤ t ∧ t < x + n then t - x + y else if y ≤ t ∧ t < y + n then t - y + x else t
/-- d' is d, read at other places. -/
def By (f : Nat → Nat) (d d' : Array α) : Prop := d'.size = d.size ∧ ∀ t, t < d.size → d'[t]! = d[f t]!

theorem By.refl (f : Nat → Nat) (d : Array α) (h : ∀ t, t < d.size → f t = t) : By f d d := ⟨rfl, fun t ht => by rw [h t ht]⟩
theorem By.congr {f g : Nat → Nat} {d d' : Array α} (h : By f d d') (e : ∀ t, t < d.size → f t = g t) : By g d d' := ⟨h.1, fun t ht => by rw [h.2 t ht, e t ht]⟩
theorem By.trans {f g : Nat → Nat} {d d' d'' : Array α} (h : By f d d') (k : By g d' d'') (hg : ∀ t, t < d.size → g t < d.size) : By (fun t => f (g t)) d d'' :=
  ⟨k.1.trans h.1, fun t ht => by rw [k.2 t (by rw [h.1]; exact ht), h.2 _ (hg t ht)]⟩

theorem swIx_lt {x y n s t : Nat} (hx : x + n ≤ s) (hy : y + n ≤ s) (ht : t < s) : swIx x y n t < s := by
  unfold swIx; split
  · omega
  · split <;> omega
theorem By.swap0 (x y : Nat) (d : Array α) : By (swIx x y 0) d d := By.refl _ _ fun t _ => by unfold swIx; split; omega; split <;> omega
theorem By.swapS {x y n : Nat} {d d' : Array α} (h : By (swIx x y n) d d') (hxy : x + n < y) (hy : y + n < d.size) : By (swIx x y (n + 1)) d (swp d' (x + n) (y + n)) := by
  refine ⟨(swp_size _ _ _).trans h.1, fun t ht => ?_⟩
  have hs := h.1
  rw [swp_get d' (show x + n < d'.size by omega) (show y + n < d'.size by omega) t]
  split
  · rename_i e
    rw [h.2 _ (by omega)]
    congr 1
    unfold swIx
    repeat' split
    all_goals omega
  · split
    · rename_i _ e
      rw [h.2 _ (by omega)]
      congr 1
      unfold swIx
      repeat' split
      all_goals omega
    · rw [h.2 _ ht]
      congr 1
      unfold swIx
      repeat' split
      all_goals omega

theorem rot_step1 {m i j t : Nat} (hi : i ≤ m) (hj : j < i) : swIx (m - i) m j (rotIx (m - i + j) m (m + j) t) = rotIx (m - i) m (m + j) t := by
  unfold rotIx
  generalize hu : m - i = u
  obtain rfl : i = m - u := by omega
  unfold swIx
  repeat' split
  all_goals omega
theorem rot_step2 {m i j t : Nat} (hi : i ≤ m) (hj : i < j) : swIx (m - i) (m + j - i) i (rotIx (m - i) m (m + (j - i)) t) = rotIx (m - i) m (m + j) t := by
  unfold rotIx
  unfold swIx
  repeat' split
  all_goals omega
theorem rot_last {m i t : Nat} (hi : i ≤ m) : swIx (m - i) m i t = rotIx (m - i) m (m + i) t := by
  unfold rotIx swIx
  repeat' split
  all_goals omega
theorem rotIx_lt {a m b s t : Nat} (ham : a ≤ m) (hmb : m ≤ b) (hb : b ≤ s) (ht : t < s) : rotIx a m b t < s := by
  unfold rotIx; split
  · omega
  · split <;> omega
theorem rotIx_id {a m b t : Nat} (ham : a ≤ m) (hmb : m ≤ b) (h : a = m ∨ m = b) : rotIx a m b t = t := by
  unfold rotIx; split
  · omega
  · split <;> omega

omit [Inhabited α] in
theorem toList_cut (d : Array α) (a m b : Nat) (ham : a ≤ m) (hmb : m ≤ b) : d.toList = d.toList.take a ++ ((d.toList.drop a).take (m - a) ++ ((d.toList.drop m).take (b - m) ++ d.toList.drop b)) := by
  conv => lhs; rw [← List.take_append_drop a d.toList, ← List.take_append_drop (m - a) (d.toList.drop a), List.drop_drop, show a + (m - a) = m by omega, ← List.take_append_drop (b - m) (d.toList.drop m), List.drop_drop, show m + (b - m) = b by omega]
theorem By.rot_list {a m b : Nat} {d d' : Array α} (h : By (rotIx a m b) d d') (ham : a ≤ m) (hmb : m ≤ b) (hb : b ≤ d.size) :
    d'.toList = d.toList.take a ++ ((d.toList.drop m).take (b - m) ++ ((d.toList.drop a).take (m - a) ++ d.toList.drop b)) := by
  have hs := h.1
  have hz : d.toList.length = d.size := Array.length_toList
  apply List.ext_getElem
  · simp; omega
  · intro t h1 h2
    have ht : t < d.size := by simpa [hs] using h1
    have e := h.2 t ht
    have hlt := rotIx_lt (t := t) ham hmb hb ht
    rw [getElem!_pos d' t (by omega), getElem!_pos d _ hlt] at e
    rw [Array.getElem_toList, e]
    unfold rotIx at hlt
    by_cases c1 : t < a
    · rw [List.getElem_append_left (by simp; omega)]
      simp only [List.getElem_take, Array.getElem_toList]
      congr 1; unfold rotIx; rw [if_neg (by omega), if_neg (by omega)]
    · rw [List.getElem_append_right (by simp; omega)]
      by_cases c2 : t < a + (b - m)
      · rw [List.getElem_append_left (by simp; omega)]
        simp only [List.getElem_take, List.getElem_drop, Array.getElem_toList]
        congr 1; unfold rotIx; rw [if_pos (by omega)]; simp; omega
      · rw [List.getElem_append_right (by simp; omega)]
        by_cases c3 : t < b
        · rw [List.getElem_append_left (by simp; omega)]
          simp only [List.getElem_take, List.getElem_drop, Array.getElem_toList]
          congr 1; unfold rotIx; rw [if_neg (by omega), if_pos (by omega)]; simp; omega
        · rw [List.getElem_append_right (by simp; omega)]
          simp only [List.getElem_drop, Array.getElem_toList]
          congr 1; unfold rotIx; rw [if_neg (by omega), if_neg (by omega)]; simp; omega

/-- d' is d with the places of [a, b) exchanged among themselves, the order of equals kept. -/
structure SM (lt : α → α → Bool) (a b : Nat) (d d' : Array α) : Prop where
  size : d'.size = d.size
  out : ∀ i, i < a ∨ b ≤ i → d'[i]! = d[i]!
  inn : ∀ i, a ≤ i → i < b → ∃ j, a ≤ j ∧ j < b ∧ d'[i]! = d[j]!
  perm : d'.toList.Perm d.toList
  kind : ∀ p, Kind lt p → d'.toList.filter p = d.toList.filter p

theorem SM.refl (lt : α → α → Bool) (a b : Nat) (d : Array α) : SM lt a b d d := ⟨rfl, fun _ _ => rfl, fun i h1 h2 => ⟨i, h1, h2, rfl⟩, List.Perm.refl _, fun _ _ => rfl⟩
theorem SM.trans {lt : α → α → Bool} {a b : Nat} {d d' d'' : Array α} (h : SM lt a b d d') (k : SM lt a b d' d'') : SM lt a b d d'' :=
  ⟨k.size.trans h.size, fun i hi => (k.out i hi).trans (h.out i hi), fun i h1 h2 => by
    obtain ⟨j, j1, j2, e⟩ := k.inn i h1 h2
    obtain ⟨j', j1', j2', e'⟩ := h.inn j j1 j2
    exact ⟨j', j1', j2', e.trans e'⟩, k.perm.trans h.perm, fun p hp => (k.kind p hp).trans (h.kind p hp)⟩
theorem SM.mono {lt : α → α → Bool} {a b a' b' : Nat} {d d' : Array α} (h : SM lt a b d d') (ha : a' ≤ a) (hb : b ≤ b') : SM lt a' b' d d' :=
  ⟨h.size, fun i hi => h.out i (by omega), fun i h1 h2 => by
    by_cases c : a ≤ i ∧ i < b
    · obtain ⟨j, j1, j2, e⟩ := h.inn i c.1 c.2
      exact ⟨j, by omega, by omega, e⟩
    · exact ⟨i, h1, h2, h.out i (by omega)⟩, h.perm, h.kind⟩

theorem By.rot_sm {lt : α → α → Bool} {a m b : Nat} {d d' : Array α} (h : By (rotIx a m b) d d') (ham : a ≤ m) (hmb : m ≤ b) (hb : b ≤ d.size)
    (hl : ∀ x y, a ≤ x → x < m → m ≤ y → y < b → lt d[y]! d[x]! = true) : SM lt a b d d' := by
  have e2 := h.rot_list ham hmb hb
  have e1 := toList_cut d a m b ham hmb
  refine ⟨h.1, fun i hi => ?_, fun i h1 h2 => ?_, ?_, fun p hp => ?_⟩
  · by_cases c : i < d.size
    · rw [h.2 i c]; congr 1; unfold rotIx; rw [if_neg (by omega), if_neg (by omega)]
    · rw [getElem!_neg d' i (by rw [h.1]; exact c), getElem!_neg d i c]
  · refine ⟨rotIx a m b i, ?_, ?_, h.2 i (by omega)⟩
    · unfold rotIx; split
      · omega
      · split <;> omega
    · unfold rotIx; split
      · omega
      · split <;> omega
  · rw [e2]
    refine List.Perm.trans ?_ (List.Perm.of_eq e1.symm)
    apply List.Perm.append_left
    rw [← List.append_assoc, ← List.append_assoc]
    exact List.Perm.append_right _ List.perm_append_comm
  · rw [e2]
    refine Eq.trans ?_ (congrArg (List.filter p) e1.symm)
    simp only [List.filter_append]
    congr 1
    rw [← List.append_assoc, ← List.append_assoc]
    congr 1
    by_cases hx : ∃ x, x ∈ (d.toList.drop a).take (m - a) ∧ p x = true
    · obtain ⟨x, hx, px⟩ := hx
      have : ((d.toList.drop m).take (b - m)).filter p = [] := by
        rw [List.filter_eq_nil_iff]
        intro y hy py
        obtain ⟨i, hi, rfl⟩ := List.getElem_of_mem hx
        obtain ⟨j, hj, rfl⟩ := List.getElem_of_mem hy
        simp only [List.length_take, List.length_drop, Array.length_toList] at hi hj
        have := hl (a + i) (m + j) (by omega) (by omega) (by omega) (by omega)
        rw [getElem!_pos d _ (by omega), getElem!_pos d _ (by omega)] at this
        simp only [List.getElem_take, List.getElem_drop, Array.getElem_toList] at px py
        rw [hp _ _ py px] at this
        cases this
      rw [this]; simp
    · have : ((d.toList.drop a).take (m - a)).filter p = [] := by
        rw [List.filter_eq_nil_iff]
        intro x h1 h2
        exact hx ⟨x, h1, h2⟩
      rw [this]; simp

theorem sorted_le {lt : α → α → Bool} (hS : SWO lt) {a b : Nat} {d : Array α} (h : SortedIn lt a b d) {i j : Nat} (h1 : a ≤ i) (h2 : i ≤ j) (h3 : j < b) : lt d[j]! d[i]! = false := by
  by_cases e : i = j
  · subst e; exact hS.irrefl _
  · exact h i j h1 (by omega) h3
omit [Inhabited α] in
/-- y ≤ q < s ≤ x gives y < x. -/
theorem lt_between {lt : α → α → Bool} (hS : SWO lt) {y q s x : α} (h1 : lt q s = true) (h2 : lt q y = false) (h3 : lt x s = false) : lt y x = true := by
  cases e : lt y x with
  | true => rfl
  | false => have := hS.ntrans _ _ _ (hS.ntrans _ _ _ h2 e) h3; rw [h1] at this; cases this

/-- Two runs, of which what stands in the wrong order about m has been rotated: each side of 'mid' is two runs, and nothing on the right is less than something on the left. -/
theorem rot_runs {lt : α → α → Bool} (hS : SWO lt) {a s m e b : Nat} {d d' : Array α} (h : By (rotIx s m e) d d') (h1 : a ≤ s) (h2 : s ≤ m) (h3 : m ≤ e) (h4 : e ≤ b) (h5 : b ≤ d.size)
    (r1 : SortedIn lt a m d) (r2 : SortedIn lt m b d)
    (c1 : ∀ x y, s ≤ x → x < m → m ≤ y → y < e → lt d[y]! d[x]! = true) (c2 : ∀ x y, a ≤ x → x < s → e ≤ y → y < b → lt d[y]! d[x]! = false) :
    SM lt a b d d' ∧ SortedIn lt a s d' ∧ SortedIn lt s (s + (e - m)) d' ∧ SortedIn lt (s + (e - m)) e d' ∧ SortedIn lt e b d' ∧
    (∀ i j, a ≤ i → i < s + (e - m) → s + (e - m) ≤ j → j < b → lt d'[j]! d'[i]! = false) := by
  have g : ∀ t, t < b → d'[t]! = d[rotIx s m e t]! := fun t ht => h.2 t (by omega)
  have i1 : ∀ t, t < s → rotIx s m e t = t := fun t ht => by unfold rotIx; rw [if_neg (by omega), if_neg (by omega)]
  have i2 : ∀ t, s ≤ t → t < s + (e - m) → rotIx s m e t = t + (m - s) := fun t ht ht' => by unfold rotIx; rw [if_pos (by omega)]
  have i3 : ∀ t, s + (e - m) ≤ t → t < e → rotIx s m e t = t - (e - m) := fun t ht ht' => by unfold rotIx; rw [if_neg (by omega), if_pos (by omega)]
  have i4 : ∀ t, e ≤ t → rotIx s m e t = t := fun t ht => by unfold rotIx; rw [if_neg (by omega), if_neg (by omega)]
  refine ⟨(h.rot_sm h2 h3 (by omega) c1).mono h1 h4, fun i j x1 x2 x3 => ?_, fun i j x1 x2 x3 => ?_, fun i j x1 x2 x3 => ?_, fun i j x1 x2 x3 => ?_, fun i j x1 x2 x3 x4 => ?_⟩
  · rw [g i (by omega), g j (by omega), i1 i (by omega), i1 j (by omega)]; exact r1 i j x1 x2 (by omega)
  · rw [g i (by omega), g j (by omega), i2 i (by omega) (by omega), i2 j (by omega) (by omega)]; exact r2 _ _ (by omega) (by omega) (by omega)
  · rw [g i (by omega), g j (by omega), i3 i (by omega) (by omega), i3 j (by omega) (by omega)]; exact r1 _ _ (by omega) (by omega) (by omega)
  · rw [g i (by omega), g j (by omega), i4 i (by omega), i4 j (by omega)]; exact r2 _ _ (by omega) (by omega) (by omega)
  · rw [g i (by omega), g j (by omega)]
    by_cases y1 : i < s
    · rw [i1 i y1]
      by_cases y2 : j < e
      · rw [i3 j x3 y2]; exact sorted_le hS r1 x1 (by omega) (by omega)
      · rw [i4 j (by omega)]; exact c2 _ _ x1 y1 (by omega) x4
    · rw [i2 i (by omega) x2]
      by_cases y2 : j < e
      · rw [i3 j x3 y2]; exact hS.asymmA (c1 _ _ (by omega) (by omega) (by omega) (by omega))
      · rw [i4 j (by omega)]; exact sorted_le hS r2 (by omega) (by omega) x4

/-- Both sides have been merged. -/
theorem merge_join {lt : α → α → Bool} {a mid b : Nat} {d d1 d2 d3 : Array α} (k1 : SM lt a b d d1) (ha : a ≤ mid) (hb : mid ≤ b)
    (hx : ∀ i j, a ≤ i → i < mid → mid ≤ j → j < b → lt d1[j]! d1[i]! = false)
    (k2 : SM lt a mid d1 d2) (s2 : SortedIn lt a mid d2) (k3 : SM lt mid b d2 d3) (s3 : SortedIn lt mid b d3) : SM lt a b d d3 ∧ SortedIn lt a b d3 := by
  refine ⟨(k1.trans (k2.mono (Nat.le_refl _) hb)).trans (k3.mono ha (Nat.le_refl _)), fun i j x1 x2 x3 => ?_⟩
  by_cases c1 : j < mid
  · rw [k3.out i (Or.inl (by omega)), k3.out j (Or.inl c1)]; exact s2 i j x1 x2 c1
  · by_cases c2 : mid ≤ i
    · exact s3 i j c2 x2 x3
    · obtain ⟨j', y1, y2, e⟩ := k3.inn j (by omega) x3
      obtain ⟨i', z1, z2, e'⟩ := k2.inn i x1 (by omega)
      rw [k3.out i (Or.inl (by omega)), e, e', k2.out j' (Or.inr y1)]
      exact hx _ _ z1 z2 y1 y2

/-- What the search for the place of the cut knows: below s 'not less', from r on 'less' (p - c stands against c). -/
def CutLo (lt : α → α → Bool) (d : Array α) (p s0 s : Nat) : Prop := ∀ c, s0 ≤ c → c < s → lt d[p - c]! d[c]! = false
def CutHi (lt : α → α → Bool) (d : Array α) (p r r0 : Nat) : Prop := ∀ c, r ≤ c → c < r0 → lt d[p - c]! d[c]! = true

/-- Where the search begins and ends. -/
structure CutAt (a m b p s0 r0 : Nat) : Prop where
  lo : a ≤ s0
  hi : r0 ≤ m
  ord : s0 ≤ r0
  top : p < s0 + b
  bot : m + r0 ≤ p + 1

theorem CutLo.step {lt : α → α → Bool} (hS : SWO lt) {d : Array α} {a m b p s0 r0 c : Nat} (hc : CutAt a m b p s0 r0) (r1 : SortedIn lt a m d) (r2 : SortedIn lt m b d) (_h1 : s0 ≤ c) (h2 : c < r0) (h : lt d[p - c]! d[c]! = false) : CutLo lt d p s0 (c + 1) := fun x x1 x2 => by
  have := hc.lo; have := hc.hi; have := hc.top; have := hc.bot
  exact hS.ntrans _ _ _ (hS.ntrans _ _ _ (sorted_le hS r2 (by omega) (by omega) (by omega)) h) (sorted_le hS r1 (by omega) (by omega) (by omega))
theorem CutHi.step {lt : α → α → Bool} (hS : SWO lt) {d : Array α} {a m b p s0 r0 c : Nat} (hc : CutAt a m b p s0 r0) (r1 : SortedIn lt a m d) (r2 : SortedIn lt m b d) (h1 : s0 ≤ c) (_h2 : c < r0) (h : lt d[p - c]! d[c]! = true) : CutHi lt d p c r0 := fun x x1 x2 => by
  have := hc.lo; have := hc.hi; have := hc.top; have := hc.bot
  exact lt_between hS h (sorted_le hS r2 (by omega) (by omega) (by omega)) (sorted_le hS r1 (by omega) (by omega) (by omega))

/-- What the found cut gives. -/
theorem cut_found {lt : α → α → Bool} (hS : SWO lt) {d : Array α} {a m b mid p s0 r0 s : Nat} (_ham : a < m) (_hmb : m < b) (hmid : mid = (a + b) / 2) (hp : p + 1 = mid + m)
    (hc : (mid < m ∧ s0 = mid + m - b ∧ r0 = mid) ∨ (m ≤ mid ∧ s0 = a ∧ r0 = m)) (r1 : SortedIn lt a m d) (r2 : SortedIn lt m b d) (h1 : s0 ≤ s) (h2 : s ≤ r0) (lo : CutLo lt d p s0 s) (hi : CutHi lt d p s r0) :
    a ≤ s ∧ s ≤ m ∧ m ≤ mid + m - s ∧ mid + m - s ≤ b ∧ s + (mid + m - s - m) = mid ∧
    (∀ x y, s ≤ x → x < m → m ≤ y → y < mid + m - s → lt d[y]! d[x]! = true) ∧ (∀ x y, a ≤ x → x < s → mid + m - s ≤ y → y < b → lt d[y]! d[x]! = false) := by
  have hC : CutAt a m b p s0 r0 := by constructor <;> omega
  have := hC.lo; have := hC.hi; have := hC.top; have := hC.bot
  refine ⟨by omega, by omega, by omega, by omega, by omega, fun x y x1 x2 y1 y2 => ?_, fun x y x1 x2 y1 y2 => ?_⟩
  · by_cases e : s = r0
    · omega
    · exact lt_between hS (hi s (Nat.le_refl _) (by omega)) (sorted_le hS r2 (by omega) (by omega) (by omega)) (sorted_le hS r1 (by omega) (by omega) (by omega))
  · by_cases e : s = s0
    · omega
    · have := lo (s - 1) (by omega) (by omega)
      exact hS.ntrans _ _ _ (hS.ntrans _ _ _ (sorted_le hS r2 (show m ≤ p - (s - 1) by omega) (by omega) y2) this) (sorted_le hS r1 x1 (by omega) (by omega))
theorem cut_at {a m b mid p s0 r0 : Nat} (ham : a < m) (hmb : m < b) (hmid : mid = (a + b) / 2) (hp : p + 1 = mid + m)
    (hc : (mid < m ∧ s0 = mid + m - b ∧ r0 = mid) ∨ (m ≤ mid ∧ s0 = a ∧ r0 = m)) : CutAt a m b p s0 r0 := by constructor <;> omega

/-- One element ahead of a run: what the search for its place knows, and what becomes of the row. -/
def OneLo (lt : α → α → Bool) (d : Array α) (a i : Nat) : Prop := ∀ h, a < h → h < i → lt d[h]! d[a]! = true
def OneHi (lt : α → α → Bool) (d : Array α) (a j b : Nat) : Prop := ∀ h, j ≤ h → h < b → lt d[h]! d[a]! = false
theorem OneLo.step {lt : α → α → Bool} (hS : SWO lt) {d : Array α} {a b h : Nat} (r : SortedIn lt (a + 1) b d) (h1 : h < b) (e : lt d[h]! d[a]! = true) : OneLo lt d a (h + 1) := fun x x1 x2 =>
  lt_between hS e (sorted_le hS r (by omega) (by omega) (by omega)) (hS.irrefl _)
theorem OneHi.step {lt : α → α → Bool} (hS : SWO lt) {d : Array α} {a b h : Nat} (r : SortedIn lt (a + 1) b d) (h1 : a < h) (e : lt d[h]! d[a]! = false) : OneHi lt d a h b := fun x x1 x2 =>
  hS.ntrans _ _ _ (sorted_le hS r (by omega) (by omega) (by omega)) e
theorem one_ahead {lt : α → α → Bool} (hS : SWO lt) {d d' : Array α} {a i b : Nat} (h : By (rotIx a (a + 1) i) d d') (h1 : a < i) (h2 : i ≤ b) (hb : b ≤ d.size) (r : SortedIn lt (a + 1) b d) (lo : OneLo lt d a i) (hi : OneHi lt d a i b) : SM lt a b d d' ∧ SortedIn lt a b d' := by
  obtain ⟨k, s1, s2, s3, s4, x⟩ := rot_runs hS (a := a) (b := b) h (Nat.le_refl _) (by omega) (by omega) h2 hb (fun i j _ _ _ => by omega) r (fun x y x1 x2 y1 y2 => by obtain rfl : x = a := (by omega); exact lo y (by omega) y2) (fun x y x1 x2 _ _ => by omega)
  refine merge_join k (show a ≤ a + (i - (a + 1)) by omega) (by omega) x (SM.refl _ _ _ _) s2 (SM.refl _ _ _ _) ?_
  intro u v u1 u2 u3
  rw [h.2 u (by omega), h.2 v (by omega)]
  by_cases c : u = i - 1
  · rw [show rotIx a (a + 1) i u = a by unfold rotIx; rw [if_neg (by omega), if_pos (by omega)]; omega, show rotIx a (a + 1) i v = v by unfold rotIx; rw [if_neg (by omega), if_neg (by omega)]]
    exact hi v (by omega) u3
  · rw [show rotIx a (a + 1) i u = u by unfold rotIx; rw [if_neg (by omega), if_neg (by omega)], show rotIx a (a + 1) i v = v by unfold rotIx; rw [if_neg (by omega), if_neg (by omega)]]
    exact r u v (by omega) u2 u3

/-- One element behind a run. -/
def EndLo (lt : α → α → Bool) (d : Array α) (m a i : Nat) : Prop := ∀ h, a ≤ h → h < i → lt d[m]! d[h]! = false
def EndHi (lt : α → α → Bool) (d : Array α) (m j : Nat) : Prop := ∀ h, j ≤ h → h < m → lt d[m]! d[h]! = true
theorem EndLo.step {lt : α → α → Bool} (hS : SWO lt) {d : Array α} {a m h : Nat} (r : SortedIn lt a m d) (h1 : h < m) (e : lt d[m]! d[h]! = false) : EndLo lt d m a (h + 1) := fun x x1 x2 =>
  hS.ntrans _ _ _ e (sorted_le hS r (by omega) (by omega) (by omega))
theorem EndHi.step {lt : α → α → Bool} (hS : SWO lt) {d : Array α} {a m h : Nat} (r : SortedIn lt a m d) (h1 : a ≤ h) (e : lt d[m]! d[h]! = true) : EndHi lt d m h := fun x x1 x2 =>
  lt_between hS e (hS.irrefl _) (sorted_le hS r (by omega) (by omega) (by omega))
theorem one_behind {lt : α → α → Bool} (hS : SWO lt) {d d' : Array α} {a i m : Nat} (h : By (rotIx i m (m + 1)) d d') (h1 : a ≤ i) (h2 : i ≤ m) (hb : m < d.size) (r : SortedIn lt a m d) (lo : EndLo lt d m a i) (hi : EndHi lt d m i) : SM lt a (m + 1) d d' ∧ SortedIn lt a (m + 1) d' := by
  obtain ⟨k, s1, s2, s3, s4, x⟩ := rot_runs hS (a := a) (b := m + 1) h h1 h2 (by omega) (Nat.le_refl _) (by omega) r (fun i j _ _ _ => by omega) (fun x y x1 x2 y1 y2 => by obtain rfl : y = m := (by omega); exact hi x x1 x2) (fun x y x1 x2 _ _ => by omega)
  refine merge_join k (show a ≤ i + (m + 1 - m) by omega) (by omega) x (SM.refl _ _ _ _) ?_ (SM.refl _ _ _ _) s3
  intro u v u1 u2 u3
  rw [h.2 u (by omega), h.2 v (by omega)]
  rw [show rotIx i m (m + 1) u = u by unfold rotIx; rw [if_neg (by omega), if_neg (by omega)]]
  by_cases c : v = i
  · rw [show rotIx i m (m + 1) v = m by unfold rotIx; rw [if_pos (by omega)]; omega]
    exact lo u (by omega) (by omega)
  · rw [show rotIx i m (m + 1) v = v by unfold rotIx; rw [if_neg (by omega), if_neg (by omega)]]
    exact r u v (by omega) u2 (by omega)

/-- One exchange more of an element that goes up, or down. -/
theorem By.up {a k : Nat} {d d' : Array α} (h : By (rotIx a (a + 1) (k + 1)) d d') (h1 : a ≤ k) (h2 : k + 1 < d.size) : By (rotIx a (a + 1) (k + 2)) d (swp d' k (k + 1)) := by
  refine ⟨(swp_size _ _ _).trans h.1, fun t ht => ?_⟩
  have hs := h.1
  rw [swp_get d' (show k < d'.size by omega) (show k + 1 < d'.size by omega) t]
  split
  · rename_i e
    rw [h.2 _ (by omega)]; congr 1; unfold rotIx; repeat' split
    all_goals omega
  · split
    · rename_i _ e
      rw [h.2 _ (by omega)]; congr 1; unfold rotIx; repeat' split
      all_goals omega
    · rw [h.2 _ ht]; congr 1; unfold rotIx; repeat' split
      all_goals omega
theorem By.down {k m : Nat} {d d' : Array α} (h : By (rotIx (k + 1) m (m + 1)) d d') (h1 : k + 1 ≤ m) (h2 : m < d.size) : By (rotIx k m (m + 1)) d (swp d' (k + 1) k) := by
  refine ⟨(swp_size _ _ _).trans h.1, fun t ht => ?_⟩
  have hs := h.1
  rw [swp_get d' (show k + 1 < d'.size by omega) (show k < d'.size by omega) t]
  split
  · rename_i e
    rw [h.2 _ (by omega)]; congr 1; unfold rotIx; repeat' split
    all_goals omega
  · split
    · rename_i _ e
      rw [h.2 _ (by omega)]; congr 1; unfold rotIx; repeat' split
      all_goals omega
    · rw [h.2 _ ht]; congr 1; unfold rotIx; repeat' split
      all_goals omega

theorem two_runs {lt : α → α → Bool} {a s b : Nat} {d : Array α} (h1 : a ≤ s) (h2 : s ≤ b) (hn : ¬ (a < s ∧ s < b)) (r1 : SortedIn lt a s d) (r2 : SortedIn lt s b d) : SortedIn lt a b d := by
  by_cases h : a < s
  · obtain rfl : s = b := by omega
    exact r1
  · obtain rfl : a = s := by omega
    exact r2
theorem sorted_out {lt : α → α → Bool} {a b x y : Nat} {d d' : Array α} (h : SM lt a b d d') (hb : b ≤ x) (r : SortedIn lt x y d) : SortedIn lt x y d' := fun i j h1 h2 h3 => by
  rw [h.out i (Or.inr (by omega)), h.out j (Or.inr (by omega))]; exact r i j h1 h2 h3
end Go.Proofs.YtdgfankkapeclaaGreat

namespace Go.Proofs.YtdgfankkapeclaaGreat
open Go.Sort
variable {α : Type} [Inhabited α]

theorem ins_sm {lt : α → α → Bool} (hS : SWO lt) (d : Array α) (a b : Nat) (hab : a ≤ b) (hb : b ≤ d.size) : SM lt a b d (insertionSort lt d a b) ∧ SortedIn lt a b (insertionSort lt d a b) := by
  obtain ⟨h1, h2⟩ := insertionSort_holds hS d a b hab hb
  have h3 : PermIn 0 d.size d (insertionSort lt d a b) := permIn_mono d _ a b 0 d.size (Nat.zero_le _) hb (Nat.le_refl _) h1
  refine ⟨⟨h1.1, h1.2.1, fun i i1 i2 => ?_, ?_, fun p hp => insertionSort_filter hp d a b hb⟩, h2⟩
  · exact permIn_all d _ a b (fun x => ∃ j, a ≤ j ∧ j < b ∧ x = d[j]!) hb h1 (fun i i1 i2 => ⟨i, i1, i2, rfl⟩) i i1 i2
  · have := h3.2.2
    rwa [Array.extract_eq_self_of_le (by rw [h1.1]; exact Nat.le_refl _), Array.extract_eq_self_of_le (Nat.le_refl _)] at this

/-- All blocks of s places are ascending. -/
def Runs (lt : α → α → Bool) (s n : Nat) (d : Array α) : Prop := ∀ j, SortedIn lt (j * s) (min (j * s + s) n) d
/-- Blocks of 2 s places below a are ascending, and those of s from a on; a = 2 s k. -/
structure Mid (lt : α → α → Bool) (s n k a : Nat) (d : Array α) : Prop where
  at_ : a = k * (2 * s)
  low : ∀ j, j < k → SortedIn lt (j * (2 * s)) (j * (2 * s) + 2 * s) d
  high : ∀ j, 2 * k ≤ j → SortedIn lt (j * s) (min (j * s + s) n) d

theorem sorted_sub {lt : α → α → Bool} {a b a' b' : Nat} {d : Array α} (h : SortedIn lt a b d) (ha : a ≤ a') (hb : b' ≤ b) : SortedIn lt a' b' d := fun i j h1 h2 h3 => h i j (by omega) h2 (by omega)
theorem sorted_far {lt : α → α → Bool} {a b x y : Nat} {d d' : Array α} (h : SM lt a b d d') (hb : y ≤ a ∨ b ≤ x) (r : SortedIn lt x y d) : SortedIn lt x y d' := fun i j h1 h2 h3 => by
  rw [h.out i (by omega), h.out j (by omega)]; exact r i j h1 h2 h3

theorem mul_facts (k s : Nat) : (2 * k) * s = k * (2 * s) ∧ (2 * k + 1) * s = k * (2 * s) + s ∧ (k + 1) * (2 * s) = k * (2 * s) + 2 * s := by
  refine ⟨by rw [Nat.mul_comm 2 k, Nat.mul_assoc], by rw [Nat.add_mul, Nat.mul_comm 2 k, Nat.mul_assoc, Nat.one_mul], by rw [Nat.add_mul, Nat.one_mul]⟩
theorem Mid.start {lt : α → α → Bool} {s n : Nat} {d : Array α} (h : Runs lt s n d) : Mid lt s n 0 0 d := ⟨by simp, fun j hj => by omega, fun j _ => h j⟩
theorem Mid.first {lt : α → α → Bool} {s n k a : Nat} {d : Array α} (h : Mid lt s n k a d) : SortedIn lt a (min (a + s) n) d := by
  have := h.high (2 * k) (Nat.le_refl _)
  rwa [(mul_facts k s).1, ← h.at_] at this
theorem Mid.second {lt : α → α → Bool} {s n k a : Nat} {d : Array α} (h : Mid lt s n k a d) : SortedIn lt (a + s) (min (a + s + s) n) d := by
  have := h.high (2 * k + 1) (by omega)
  rwa [(mul_facts k s).2.1, ← h.at_] at this
theorem Mid.step {lt : α → α → Bool} {s n k a : Nat} {d d' : Array α} (h : Mid lt s n k a d) (hs : SM lt a (a + 2 * s) d d') (hr : SortedIn lt a (a + 2 * s) d') : Mid lt s n (k + 1) (a + 2 * s) d' := by
  have hm := mul_facts k s
  have ha := h.at_
  refine ⟨by rw [hm.2.2, ← ha], fun j hj => ?_, fun j hj => ?_⟩
  · by_cases e : j = k
    · subst e; rw [← ha]; exact hr
    · refine sorted_far hs (Or.inl ?_) (h.low j (by omega))
      have := Nat.mul_le_mul_right (2 * s) (show j + 1 ≤ k by omega)
      rw [Nat.add_mul, Nat.one_mul] at this
      omega
  · refine sorted_far hs (Or.inr ?_) (h.high j (by omega))
    have := Nat.mul_le_mul_right s (show 2 * (k + 1) ≤ j by omega)
    rw [(mul_facts (k + 1) s).1, hm.2.2] at this
    omega
/-- The last pair: what is left behind a is ascending. -/
theorem Mid.close {lt : α → α → Bool} {s n k a : Nat} {d d' : Array α} (h : Mid lt s n k a d) (hn : n < a + 2 * s) (hs : SM lt a n d d') (hr : SortedIn lt a n d') : Runs lt (2 * s) n d' := fun j => by
  have ha := h.at_
  by_cases e : j < k
  · refine sorted_far hs (Or.inl ?_) (sorted_sub (h.low j e) (Nat.le_refl _) (by omega))
    have := Nat.mul_le_mul_right (2 * s) (show j + 1 ≤ k by omega)
    rw [Nat.add_mul, Nat.one_mul] at this
    omega
  · by_cases e2 : j = k
    · subst e2; rw [← ha]; exact sorted_sub hr (Nat.le_refl _) (by omega)
    · intro i1 i2 x1 x2 x3
      have := Nat.mul_le_mul_right (2 * s) (show k + 1 ≤ j by omega)
      rw [(mul_facts k s).2.2] at this
      omega
theorem Runs.whole {lt : α → α → Bool} {s n : Nat} {d : Array α} (h : Runs lt s n d) (hn : n ≤ s) : SortedIn lt 0 n d := by
  have := h 0
  rwa [Nat.zero_mul, Nat.zero_add, Nat.min_eq_right hn] at this
/-- The first blocks, of s places each. -/
structure Head (lt : α → α → Bool) (s k a : Nat) (d : Array α) : Prop where
  at_ : a = k * s
  low : ∀ j, j < k → SortedIn lt (j * s) (j * s + s) d
theorem Head.start (lt : α → α → Bool) (s : Nat) (d : Array α) : Head lt s 0 0 d := ⟨by simp, fun j hj => by omega⟩
theorem Head.step {lt : α → α → Bool} {s k a : Nat} {d d' : Array α} (h : Head lt s k a d) (hs : SM lt a (a + s) d d') (hr : SortedIn lt a (a + s) d') : Head lt s (k + 1) (a + s) d' := by
  have ha := h.at_
  refine ⟨by rw [Nat.add_mul, Nat.one_mul, ← ha], fun j hj => ?_⟩
  by_cases e : j = k
  · subst e; rw [← ha]; exact hr
  · refine sorted_far hs (Or.inl ?_) (h.low j (by omega))
    have := Nat.mul_le_mul_right s (show j + 1 ≤ k by omega)
    rw [Nat.add_mul, Nat.one_mul] at this
    omega
theorem Head.close {lt : α → α → Bool} {s n k a : Nat} {d d' : Array α} (h : Head lt s k a d) (hn : n < a + s) (hs : SM lt a n d d') (hr : SortedIn lt a n d') : Runs lt s n d' := fun j => by
  have ha := h.at_
  by_cases e : j < k
  · refine sorted_far hs (Or.inl ?_) (sorted_sub (h.low j e) (Nat.le_refl _) (by omega))
    have := Nat.mul_le_mul_right s (show j + 1 ≤ k by omega)
    rw [Nat.add_mul, Nat.one_mul] at this
    omega
  · by_cases e2 : j = k
    · subst e2; rw [← ha]; exact sorted_sub hr (Nat.le_refl _) (by omega)
    · intro i1 i2 x1 x2 x3
      have := Nat.mul_le_mul_right s (show k + 1 ≤ j by omega)
      rw [Nat.add_mul, Nat.one_mul] at this
      omega

/-- d' is d, sorted, with the order of equals kept. -/
def Stab (lt : α → α → Bool) (d d' : Array α) : Prop :=
  d'.size = d.size ∧ SortedIn lt 0 d.size d' ∧ d'.toList.Perm d.toList ∧ ∀ p, Kind lt p → d'.toList.filter p = d.toList.filter p
end Go.Proofs.YtdgfankkapeclaaGreat

namespace Go.Proofs.YtdgfankkapeclaaGreat
open Go.Sort
variable {α : Type} [Inhabited α]

/-- Element j stays: the first one, and each one that is not eq to the one before. -/
def stays (eq : α → α → Bool) (d : Array α) (j : Nat) : Bool := decide (j = 0) || !eq d[j]! d[j - 1]!
/-- What stays of the first n elements. -/
def cpt (eq : α → α → Bool) (d : Array α) : Nat → List α
  | 0 => []
  | n + 1 => if stays eq d n = true then cpt eq d n ++ [d[n]!] else cpt eq d n
theorem cpt_le (eq : α → α → Bool) (d : Array α) (n : Nat) : (cpt eq d n).length ≤ n := by
  induction n with
  | zero => simp [cpt]
  | succ n ih => rw [cpt]; split
                 · simp; omega
                 · omega
theorem cpt_yes {eq : α → α → Bool} {d : Array α} {n : Nat} (h : stays eq d n = true) : cpt eq d (n + 1) = cpt eq d n ++ [d[n]!] := by rw [cpt, if_pos h]
theorem cpt_no {eq : α → α → Bool} {d : Array α} {n : Nat} (h : stays eq d n = false) : cpt eq d (n + 1) = cpt eq d n := by rw [cpt, if_neg (by simp [h])]
theorem stays_of {eq : α → α → Bool} {d : Array α} {n : Nat} (h0 : 0 < n) (b : Bool) (h : eq d[n]! d[n - 1]! = b) : stays eq d n = !b := by
  unfold stays
  rw [h, decide_eq_false (by omega)]; rfl
theorem cpt_all {eq : α → α → Bool} {d : Array α} {n : Nat} (h : ∀ j, j < n → stays eq d j = true) (hn : n ≤ d.size) : cpt eq d n = d.toList.take n := by
  induction n with
  | zero => simp [cpt]
  | succ n ih =>
    rw [cpt_yes (h n (by omega)), ih (fun j hj => h j (by omega)) (by omega), List.take_add_one]
    congr 1
    rw [getElem!_pos d n (by omega)]
    simp [show n < d.size by omega]
/-- The inner loop: m elements are done, the row begins with what stays of them, and from m - 1 on it is as it was. -/
structure CInv (eq : α → α → Bool) (d : Array α) (m kk : Nat) (dk : Array α) : Prop where
  len : (cpt eq d m).length = kk
  lt : kk < m
  size : dk.size = d.size
  done : ∀ t, t < kk → dk[t]! = (cpt eq d m)[t]!
  rest : ∀ t, m - 1 ≤ t → dk[t]! = d[t]!
theorem CInv.start {eq : α → α → Bool} {d : Array α} {k : Nat} (h : ∀ j, j < k → stays eq d j = true) (hk : stays eq d k = false) (hs : k < d.size) : CInv eq d (k + 1) k d := by
  have e : cpt eq d (k + 1) = d.toList.take k := by rw [cpt_no hk, cpt_all h (by omega)]
  refine ⟨by rw [e]; simp; omega, by omega, rfl, fun t ht => ?_, fun _ _ => rfl⟩
  rw [e, getElem!_pos d t (by omega), getElem!_pos (d.toList.take k) t (by simp; omega)]
  simp
theorem CInv.skip {eq : α → α → Bool} {d dk : Array α} {m kk : Nat} (h : CInv eq d m kk dk) (hs : stays eq d m = false) : CInv eq d (m + 1) kk dk := by
  refine ⟨by rw [cpt_no hs]; exact h.len, by have := h.lt; omega, h.size, fun t ht => by rw [cpt_no hs]; exact h.done t ht, fun t ht => h.rest t (by omega)⟩
theorem CInv.keep {eq : α → α → Bool} {d dk : Array α} {m kk : Nat} (h : CInv eq d m kk dk) (hs : stays eq d m = true) (hm : m < d.size) : CInv eq d (m + 1) (kk + 1) (dk.setIfInBounds kk d[m]!) := by
  have hlt := h.lt
  have hsz := h.size
  have hl := h.len
  refine ⟨by rw [cpt_yes hs, List.length_append, hl]; rfl, by omega, by simp [hsz], fun t ht => ?_, fun t ht => ?_⟩
  · rw [cpt_yes hs, getElem!_pos (dk.setIfInBounds kk d[m]!) t (by simp; omega), Array.getElem_setIfInBounds, getElem!_pos (cpt eq d m ++ [d[m]!]) t (by simp; omega)]
    · split
      · rename_i e
        subst e
        rw [List.getElem_append_right (by omega)]
        simp [hl]
      · rw [List.getElem_append_left (by omega), ← getElem!_pos dk t (by omega), ← getElem!_pos (cpt eq d m) t (by omega)]
        exact h.done t (by omega)
    · omega
  · by_cases c : t < d.size
    · have e : (dk.setIfInBounds kk d[m]!)[t]! = dk[t]! := by
        rw [getElem!_pos (dk.setIfInBounds kk d[m]!) t (by simp; omega), Array.getElem_setIfInBounds, if_neg (by omega), ← getElem!_pos dk t (by omega)]
        omega
      rw [e]; exact h.rest t (by omega)
    · rw [getElem!_neg (dk.setIfInBounds kk d[m]!) t (by simp; omega), getElem!_neg d t c]
/-- The row's head holds what stays. -/
theorem CInv.head {eq : α → α → Bool} {d dk : Array α} {m kk : Nat} (h : CInv eq d m kk dk) (hm : m ≤ d.size) : (cpt eq d m).toArray.size ≤ dk.size ∧ ∀ t, t < (cpt eq d m).toArray.size → (cpt eq d m).toArray[t]! = dk[t]! := by
  have hl := h.len
  have hlt := h.lt
  have hs := h.size
  refine ⟨by simp [hl]; omega, fun t ht => ?_⟩
  rw [h.done t (by simpa [hl] using ht)]
  simp
end Go.Proofs.YtdgfankkapeclaaGreat

namespace Go.Proofs.YtdgfankkapeclaaGreat
open Go.RowKit Go.Sort

theorem ex_grow {w : World} (q : Nat) (os : Array Obj) : Ex w.heap.size none w (grow (w.drewN q) os) :=
  ⟨rfl, rfl, rfl, by rw [size_grow]; exact Nat.le_add_right _ _, fun k hk _ => heap_grow_old (w.drewN q) os hk⟩

theorem lostAt_ex (x : Int × Int) (n : Int) (w : World) : Calls Tryz.prog 70 #[.agg #[.int .i64 x.1, .int .i64 x.2], .int .i64 n] w fun e w' => e = .returned (.int .i64 (cmpI x.1 n)) ∧ Ex w.heap.size none w w' :=
  (lostAt_any x n w).mono fun _ _ ⟨he, q, os, hw⟩ => ⟨he, by subst hw; exact ex_grow q os⟩
def LoOK (hs : List (Int × Int)) (x : Int) (i : Nat) : Prop := ∀ (t : Nat) (y : Int × Int), t < i → hs[t]? = some y → y.1 < x
def HiOK (hs : List (Int × Int)) (x : Int) (j : Nat) : Prop := ∀ (t : Nat) (y : Int × Int), j ≤ t → hs[t]? = some y → x ≤ y.1
def Rising (hs : List (Int × Int)) : Prop := ∀ (i j : Nat) (a b : Int × Int), i < j → hs[i]? = some a → hs[j]? = some b → a.1 < b.1
/-- What the search answers: the place of x, or that there is none. -/
def Found (hs : List (Int × Int)) (x : Int) (e : Ending) : Prop :=
  (∃ i y, e = .returned (.tuple #[.int .i64 i, .bool true]) ∧ 0 ≤ i ∧ hs[i.toNat]? = some (x, y)) ∨ (∃ i, e = .returned (.tuple #[.int .i64 i, .bool false]) ∧ ∀ a ∈ hs, a.1 ≠ x)

set_option maxHeartbeats 1000000 in
set_option maxRecDepth 100000 in
theorem heirSearch_any {P : Nat → Prop} {v : Value} {hs : List (Int × Int)} (x : Int) (w : World) (hv : Sl heirRep P w v hs) (hm : hs.length ≤ 1000000) (hsort : Rising hs) :
    Calls Tryz.prog 69 #[v, .int .i64 x, .func (.func 70) #[] #[]] w fun e w' => Found hs x e ∧ Ex w.heap.size none w w' := by
  have hv0 := hv
  obtain ⟨ao, cap, rfl, hx⟩ := hv
  go_enter Tryz.func69, Tryz.ntmps69
  go_wp2
  go_loopw [9, 10] (fun a b wr => ∃ i j : Nat, i ≤ j ∧ j ≤ hs.length ∧ a = .int .i64 i ∧ b = .int .i64 j ∧ LoOK hs x i ∧ HiOK hs x j ∧ Ex w.heap.size none w wr) (fun a b _ => (intOf b - intOf a).toNat)
  case atStart => exact ⟨0, hs.length, by omega, by omega, rfl, rfl, fun t y ht => absurd ht (Nat.not_lt_zero _), (fun t y ht h => by rw [List.getElem?_eq_none ht] at h; cases h), Ex.refl _ _ _⟩
  case round =>
    obtain ⟨i, j, hij, hj, rfl, rfl, hl, hr, hex⟩ := hrel
    have hsz := hex.size
    have fx := hx.keep (by decide) (fun b _ hb => hex.block b hb (by simp))
    by_cases hlt : (i : Int) < j
    · obtain ⟨h, hh⟩ : ∃ h, h = (i + j) / 2 := ⟨_, rfl⟩
      have h1 : i ≤ h := by omega
      have h2 : h < j := by omega
      have e1 : ((i : Int) + j) / 2 = (h : Int) := by omega
      obtain ⟨b, off, cs, y, rfl, _, hrr, hR, HY⟩ := fx.get h (by omega)
      have c0 : wr.cell? ⟨b, off + h * 2, none⟩ = some (.int .i64 y.1) := hrr 0 _ (by rw [show cs = _ from hR]; rfl)
      have c1 : wr.cell? ⟨b, off + h * 2 + 1, none⟩ = some (.int .i64 y.2) := hrr 1 _ (by rw [show cs = _ from hR]; rfl)
      clear hrr hR hh
      by_cases hc : y.1 < x
      · have d1 : decide (cmpI y.1 x < 0) = true := decide_eq_true (cmpI_lt.2 hc)
        have HK : Hid (LoOK hs x (h + 1)) := fun t z ht hz => by
          by_cases e : t = h
          · subst e; have := HY.out; rw [this] at hz; cases hz; exact hc
          · have := hsort t h z y (by omega) hz HY.out; omega
        go_wp2_with fail
        refine (lostAt_ex y x _).mono ?_
        rintro e w1 ⟨rfl, hex1⟩
        go_wp2_with fail
        go_roundw
        case rel => exact ⟨h + 1, j, by omega, hj, by go_num, rfl, HK.out, hr, hex.trans hex1 hsz (by simp)⟩
        case measure => simp [intOf] <;> omega
      · have d1 : decide (cmpI y.1 x < 0) = false := decide_eq_false (fun h => hc (cmpI_lt.1 h))
        have HK : Hid (HiOK hs x h) := fun t z ht hz => by
          by_cases e : t = h
          · subst e; have := HY.out; rw [this] at hz; cases hz; omega
          · have := hsort h t y z (by omega) HY.out hz; omega
        go_wp2_with fail
        refine (lostAt_ex y x _).mono ?_
        rintro e w1 ⟨rfl, hex1⟩
        go_wp2_with fail
        go_roundw
        case rel => exact ⟨i, h, by omega, by omega, rfl, rfl, hl, HK.out, hex.trans hex1 hsz (by simp)⟩
        case measure => simp [intOf] <;> omega
    · obtain rfl : i = j := by omega
      by_cases hn : i < hs.length
      · have d1 : decide ((i : Int) < hs.length) = true := decide_eq_true (by omega)
        obtain ⟨b, off, cs, y, rfl, _, hrr, hR, HY⟩ := fx.get i hn
        have c0 : wr.cell? ⟨b, off + i * 2, none⟩ = some (.int .i64 y.1) := hrr 0 _ (by rw [show cs = _ from hR]; rfl)
        have c1 : wr.cell? ⟨b, off + i * 2 + 1, none⟩ = some (.int .i64 y.2) := hrr 1 _ (by rw [show cs = _ from hR]; rfl)
        clear hrr hR
        by_cases hc : y.1 = x
        · have d2 : (cmpI y.1 x == 0) = true := by simpa using cmpI_zero.2 hc
          have HC := Lib.hid hc
          clear hc
          go_wp2_with fail
          refine (lostAt_ex y x _).mono ?_
          rintro e w1 ⟨rfl, hex1⟩
          go_wp2_with fail
          go_ret2
          exact ⟨Or.inl ⟨i, y.2, rfl, by omega, by rw [show (i : Int).toNat = i from rfl, HY.out, ← HC.out]⟩, hex.trans hex1 hsz (by simp)⟩
        · have d2 : (cmpI y.1 x == 0) = false := by simpa using fun h => hc (cmpI_zero.1 h)
          go_wp2_with fail
          refine (lostAt_ex y x _).mono ?_
          rintro e w1 ⟨rfl, hex1⟩
          go_wp2_with fail
          go_ret2
          exact ⟨Or.inr ⟨i, rfl, fun a ha => by
            obtain ⟨t, ht⟩ := List.getElem?_of_mem ha
            rcases Nat.lt_trichotomy t i with h | h | h
            · have := hl t a h ht; omega
            · subst h; rw [HY.out] at ht; cases ht; exact hc
            · have h1 := hsort i t y a h HY.out ht
              have h2 := hr i y (Nat.le_refl _) HY.out
              omega⟩, hex.trans hex1 hsz (by simp)⟩
      · have d1 : decide ((i : Int) < hs.length) = false := decide_eq_false (by omega)
        go_wp2_with fail
        go_ret2
        exact ⟨Or.inr ⟨i, rfl, fun a ha => by
          obtain ⟨t, ht⟩ := List.getElem?_of_mem ha
          have hlt := (List.getElem?_eq_some_iff.1 ht).1
          have := hl t a (by omega) ht; omega⟩, hex⟩
end Go.Proofs.YtdgfankkapeclaaGreat

namespace Go.Proofs.YtdgfankkapeclaaGreat
open Go.RowKit

/-- Where a key leads by f: met are the keys so far; at most so many steps. -/
def followF (f : Int → Option Int) (k : Int) : Nat → List Int → Int
  | 0, _ => k
  | n + 1, met => match f (met.getD (met.length - 1) 0) with
    | none => met.getD (met.length - 1) 0
    | some x => if hasI met x = true ∨ 16 < met.length then k else followF f k n (met ++ [x])
def followI (f : Int → Option Int) (k : Int) : Int := followF f k 17 [k]
theorem followF_end {f : Int → Option Int} {k : Int} {n : Nat} {met : List Int} {y : Int} (hy : met.getD (met.length - 1) 0 = y) (h : f y = none) (hn : 0 < n) : followF f k n met = y := by
  obtain ⟨m, rfl⟩ : ∃ m, n = m + 1 := ⟨n - 1, by omega⟩
  rw [followF, hy, h]
theorem followF_stop {f : Int → Option Int} {k x : Int} {n : Nat} {met : List Int} {y : Int} (hy : met.getD (met.length - 1) 0 = y) (h : f y = some x) (hx : hasI met x = true ∨ 16 < met.length) : followF f k n met = k := by
  cases n with
  | zero => rfl
  | succ m => rw [followF, hy, h]; simp only []; rw [if_pos hx]
theorem followF_step {f : Int → Option Int} {k x : Int} {n : Nat} {met : List Int} {y : Int} (hy : met.getD (met.length - 1) 0 = y) (h : f y = some x) (hx : ¬ (hasI met x = true ∨ 16 < met.length)) (hn : 0 < n) : followF f k n met = followF f k (n - 1) (met ++ [x]) := by
  obtain ⟨m, rfl⟩ : ∃ m, n = m + 1 := ⟨n - 1, by omega⟩
  rw [followF, hy, h]; simp only []; rw [if_neg hx]; rfl

end Go.Proofs.YtdgfankkapeclaaGreat

namespace Go.Proofs.YtdgfankkapeclaaGreat
open Go.RowKit

/-- What the keys among the first k numbers lead to. -/
def replTo (f : Int → Option Int) (l : List Int) : Nat → List Int
  | 0 => []
  | k + 1 => if 0 ≤ l.getD k 0 ∧ l.getD k 0 < 64 then replTo f l k ++ [followI f (l.getD k 0)] else replTo f l k
theorem replTo_le (f : Int → Option Int) (l : List Int) (k : Nat) : (replTo f l k).length ≤ k := by
  induction k with
  | zero => simp [replTo]
  | succ k ih =>
    rw [replTo]; split
    · rw [List.length_append]; simp; omega
    · omega
theorem replTo_yes {f : Int → Option Int} {l : List Int} {k : Nat} {y : Int} (hy : l.getD k 0 = y) (h0 : 0 ≤ y) (h1 : y < 64) : replTo f l (k + 1) = replTo f l k ++ [followI f y] := by rw [replTo, hy, if_pos ⟨h0, h1⟩]
theorem replTo_no {f : Int → Option Int} {l : List Int} {k : Nat} {y : Int} (hy : l.getD k 0 = y) (h : ¬ (0 ≤ y ∧ y < 64)) : replTo f l (k + 1) = replTo f l k := by rw [replTo, hy, if_neg h]
def replI (f : Int → Option Int) (l : List Int) : List Int := joinI (replTo f l l.length) []

end Go.Proofs.YtdgfankkapeclaaGreat

namespace Go.Proofs.YtdgfankkapeclaaGreat
open Go.RowKit

theorem same_take {xs ys : List Int} {k : Nat} (h : xs.take k = ys.take k) (h1 : k < xs.length) (h2 : k < ys.length) (he : xs.getD k 0 = ys.getD k 0) : xs.take (k + 1) = ys.take (k + 1) := by
  rw [take_snoc xs k h1, take_snoc ys k h2, h, he]

set_option maxHeartbeats 400000 in
theorem sameInts_any (v1 v2 : Value) (xs ys : List Int) (w : World) (hv1 : Ints w v1 xs) (hv2 : Ints w v2 ys) (hm : xs.length ≤ 9223372036854775807) :
    Calls Tryz.prog 30 #[v1, v2] w fun e w' => e = .returned (.bool (decide (xs = ys))) ∧ Ex w.heap.size none w w' := by
  obtain ⟨ao, cap, rfl, hx⟩ := hv1
  obtain ⟨bo, cbp, rfl, hy⟩ := hv2
  by_cases hl : xs.length = ys.length
  · have hl1 : ((xs.length : Int) != ys.length) = false := by simp [hl]
    have HL := Lib.hid hl
    go_enter Tryz.func30, Tryz.ntmps30
    clear hl
    go_wp2
    clear hl1
    go_loopw [5] (fun i wr => ∃ k : Nat, k ≤ xs.length ∧ i = .int .i64 k ∧ xs.take k = ys.take k ∧ ∃ n, w.drewN n = wr) (fun i _ => xs.length - (intOf i).toNat)
    case atStart => exact ⟨0, Nat.zero_le _, rfl, by simp, 0, rfl⟩
    case round =>
      obtain ⟨k, hk, rfl, ht, n, rfl⟩ := hrel
      have HT := Lib.hid ht
      clear ht
      by_cases hlt : k < xs.length
      · have hlt2 : k < ys.length := by have := HL.out; omega
        obtain ⟨b, off, y, rfl, hck, HY⟩ := hx.get k hlt
        obtain ⟨b', off', z, rfl, hcz, HZ⟩ := hy.get k hlt2
        by_cases he : y = z
        · have hb : (y != z) = false := by simpa using he
          have HR := Lib.hid (same_take HT.out hlt hlt2 (by rw [HY.out, HZ.out, he]))
          clear he
          go_wp2
          go_quiet (fail)
          go_wp2
          go_roundw
          case rel => exact ⟨k + 1, by omega, by go_num, HR.out, _, rfl⟩
          case measure => simp [intOf]; omega
        · have hb : (y != z) = true := by simpa using he
          have HR : Hid (xs ≠ ys) := fun h => he (by rw [← HY.out, ← HZ.out, h])
          clear he
          go_wp2
          go_quiet (fail)
          go_wp2
          go_ret
          exact ⟨ret_bool (by simp [HR.out]), by repeat (first | exact Ex.refl _ _ _ | refine Ex.drewN ?_)⟩
      · have HR : Hid (xs = ys) := by
          have h := HT.out
          have := HL.out
          rwa [List.take_of_length_le (by omega), List.take_of_length_le (by omega)] at h
        go_wp2
        go_ret
        exact ⟨ret_bool (by simp [HR.out]), by repeat (first | exact Ex.refl _ _ _ | refine Ex.drewN ?_)⟩
  · have hl1 : ((xs.length : Int) != ys.length) = true := by simp; omega
    have HR : Hid (xs ≠ ys) := fun h => hl (by rw [h])
    clear hl
    go_enter Tryz.func30, Tryz.ntmps30
    go_wp2
    go_ret
    exact ⟨ret_bool (by simp [HR.out]), Ex.refl _ _ _⟩
end Go.Proofs.YtdgfankkapeclaaGreat

namespace Go.Proofs.YtdgfankkapeclaaGreat
open Go.RowKit

theorem tmod_neg {n m : Int} (hm : 1 ≤ m) (h : n.tmod m < 0) : n.tmod m + m = modI n m := by
  rw [modI_pos hm, Int.tmod_eq_emod]
  rw [Int.tmod_eq_emod] at h
  split at h <;> rename_i h' <;> simp only [h', ↓reduceIte] at h ⊢
  · have := Int.emod_nonneg n (show m ≠ 0 by omega); omega
  · have : (m.natAbs : Int) = m := by omega
    omega
theorem tmod_pos {n m : Int} (hm : 1 ≤ m) (h : ¬ n.tmod m < 0) : n.tmod m = modI n m := by
  rw [modI_pos hm, Int.tmod_eq_emod]
  rw [Int.tmod_eq_emod] at h
  have := Int.emod_lt_of_pos n (show 0 < m by omega)
  split at h <;> rename_i h' <;> simp only [h', ↓reduceIte] at h ⊢
  · simp
  · have : (m.natAbs : Int) = m := by omega
    omega
theorem tmod_bd {n m : Int} (hm : 1 ≤ m) : -m ≤ n.tmod m ∧ n.tmod m < m := by
  by_cases h : n.tmod m < 0
  · have := tmod_neg hm h; have := modI_bd (n := n) hm; omega
  · have := tmod_pos hm h; have := modI_bd (n := n) hm; omega

set_option maxHeartbeats 400000 in
theorem mod_any (n m : Int) (w : World) (hm : m ≤ 4611686018427387904) :
    Calls Tryz.prog 72 #[.int .i64 n, .int .i64 m] w fun e w' => e = .returned (.int .i64 (modI n m)) ∧ w = w' := by
  by_cases h1 : m < 1
  · go_enter Tryz.func72, Tryz.ntmps72
    go_wp2
    go_ret
    exact ⟨ret_int (by unfold modI; rw [if_pos h1]), rfl⟩
  · obtain ⟨b1, b2⟩ := tmod_bd (n := n) (show 1 ≤ m by omega)
    by_cases h2 : n.tmod m < 0
    · have H := Lib.hid (tmod_neg (show 1 ≤ m by omega) h2)
      go_enter Tryz.func72, Tryz.ntmps72
      go_wp2
      go_ret
      exact ⟨ret_int H.out, rfl⟩
    · have H := Lib.hid (tmod_pos (show 1 ≤ m by omega) h2)
      go_enter Tryz.func72, Tryz.ntmps72
      go_wp2
      go_ret
      exact ⟨ret_int H.out, rfl⟩

end Go.Proofs.YtdgfankkapeclaaGreat

namespace Go.Proofs.YtdgfankkapeclaaGreat
open Go.RowKit

/-- Block p is a Dice whose numbers that are left are d; it and its list lie below block N. -/
def DiceAt (N : Nat) (w : World) (p : Nat) (d : List Int) : Prop :=
  ∃ (L : List Int) (at' : Nat) (ao : Option Addr) (cap : Nat), w.heap[p]? = some (.cells #[.slice ao L.length cap, .int .i64 at'] 113 (0, 0)) ∧ at' ≤ L.length ∧ d = L.drop at' ∧ L.length ≤ 1000000 ∧ IntsAt w ao L ∧ (L ≠ [] → ∀ a, ao = some a → a.block < N ∧ a.block ≠ p) ∧ p < N

theorem DiceAt.keep {N : Nat} {w w' : World} {p B : Nat} {d : List Int} (h : DiceAt N w p d) (hx : Ex B none w w') (hB : N ≤ B) : DiceAt N w' p d := by
  obtain ⟨L, at', ao, cap, h1, h2, h3, h4, h5, h6, h7⟩ := h
  refine ⟨L, at', ao, cap, ?_, h2, h3, h4, fun j hj => ?_, h6, h7⟩
  · rw [hx.block p (by omega) (by simp)]
    exact h1
  · obtain ⟨b, off, e, hc⟩ := h5 j hj
    refine ⟨b, off, e, fun i hi => ?_⟩
    have hbN : b < N := (h6 (by intro h; simp [h] at hj) _ e).1
    exact (World.cell?_of_block (w := w) (hx.block b (by omega) (by simp))).trans (hc i hi)
theorem DiceAt.lt {N : Nat} {w : World} {p : Nat} {d : List Int} (h : DiceAt N w p d) : p < N := by
  obtain ⟨L, at', ao, cap, _, _, _, _, _, _, h7⟩ := h
  exact h7

theorem cell_at {w : World} {b o : Nat} {cs : Array Value} {e : TypeId} {fr : Nat × Nat} {v : Value} (h : w.heap[b]? = some (.cells cs e fr)) (hv : cs[o]? = some v) : w.cell? ⟨b, o, none⟩ = some v := by
  simp [World.cell?, h, hv]
theorem free_at {w : World} {b o : Nat} {cs : Array Value} {e : TypeId} (h : w.heap[b]? = some (.cells cs e (0, 0))) : w.frozen? ⟨b, o, none⟩ = false := by
  simp [World.frozen?, h]
/-- A block of literals that the call has just laid owns them. -/
theorem own_lit {base : Nat} (w : World) (hb : base ≤ w.heap.size) (xs : List Int) (n : Nat) (hn : xs.length = n) (hm : n ≤ maxLen) (hx : 0 < n) : OwnI (w.alloc (.cells (xs.map (Value.int .i64)).toArray 3)) base (some ⟨w.heap.size, 0, none⟩) n xs := by
  subst hn
  refine ⟨by simp, .inr ⟨w.heap.size, xs.length, _, rfl, hb, heap_alloc_new w _, Nat.le_refl _, hm, by simp, ?_⟩⟩
  rw [List.take_of_length_le (by simp)]
theorem own_lit1 {base : Nat} (w : World) (hb : base ≤ w.heap.size) (x : Int) : OwnI (w.alloc (.cells #[.int .i64 x] 3)) base (some ⟨w.heap.size, 0, none⟩) 1 [x] := own_lit w hb [x] 1 rfl (by decide) (by decide)

theorem heap_setCell {w : World} {b o : Nat} {cs : Array Value} {e : TypeId} {fr : Nat × Nat} (h : w.heap[b]? = some (.cells cs e fr)) (v : Value) : (w.setCell ⟨b, o, none⟩ v).heap[b]? = some (.cells (cs.setIfInBounds o v) e fr) := by
  simp [World.setCell, Array.getElem?_modify, h]

set_option maxHeartbeats 400000 in
theorem next_any (N p : Nat) (d : List Int) (n : Int) (w : World) (hd : DiceAt N w p d) (hn : n ≤ 4611686018427387904) :
    Calls Tryz.prog 22 #[.pointer (some ⟨p, 0, none⟩), .int .i64 n] w fun e w' => e = .returned (.int .i64 (dVal d n)) ∧ DiceAt N w' p d.tail ∧ Ex w.heap.size (some p) w w' := by
  obtain ⟨L, k, ao, cap, hh, hk, hdl, hL, hx, haw, hpN⟩ := hd
  have c0 := cell_at (o := 0) hh rfl
  have c1 := cell_at (o := 1) hh rfl
  have f1 := free_at (o := 1) hh
  by_cases hlt : k < L.length
  · obtain ⟨b, off, y, rfl, hck, HY⟩ := hx.get k hlt
    have hbp : b ≠ p := (haw (by intro h; simp [h] at hlt) _ rfl).2
    have HA := Lib.hid haw
    have hdd : d = y :: L.drop (k + 1) := by
      rw [hdl, List.drop_eq_getElem_cons hlt, ← HY.out]; simp [List.getD, hlt]
    have HD := Lib.hid hdd
    have HH := Lib.hid hh
    have HX := Lib.hid hx
    clear hdd hdl hh hx haw
    have hbp2 : p ≠ b := fun h => hbp h.symm
    go_enter Tryz.func22, Tryz.ntmps22
    go_wp2
    go_quiet (fail)
    go_wp2
    go_quiet ((go_at_call 72; exact Calls.quiet_of_same ((mod_any _ _ _ hn).mono fun _ _ h => ⟨h.1, h.2.symm⟩)))
    go_wp2
    go_ret
    refine ⟨by rw [HD.out]; rfl, ?_, (((Ex.refl _ _ _).drewN).setCell _ _ _ (Or.inl rfl)).drewN⟩
    refine ⟨L, k + 1, some ⟨b, off, none⟩, cap, ?_, by omega, by rw [HD.out]; rfl, hL, fun j hj => ?_, HA.out, hpN⟩
    · exact (heap_setCell (w := w) (o := 1) HH.out (.int .i64 ((k : Int) + 1))).trans (by simp)
    · obtain ⟨b', off', e, hc⟩ := HX.out j hj
      refine ⟨b', off', e, fun i hi => ?_⟩
      cases e
      exact (World.cell?_setCell_other (w := w) _ _ _ (by simp)).trans (hc i hi)
  · have hd0 : d = [] := by rw [hdl, List.drop_eq_nil_of_le (by omega)]
    have hge : L.length ≤ k := by omega
    have HH : DiceAt N w p [] := ⟨L, k, ao, cap, hh, hk, by rw [List.drop_eq_nil_of_le (by omega)], hL, hx, haw, hpN⟩
    have HH := Lib.hid HH
    subst hd0
    clear hdl hh hx haw
    go_enter Tryz.func22, Tryz.ntmps22
    go_wp2
    go_quiet (fail)
    go_wp2
    go_ret
    exact ⟨rfl, HH.out, (Ex.refl _ _ _).drewN⟩

set_option maxHeartbeats 400000 in
theorem madeRoll_any (v1 : Value) (L : List Int) (w : World) (hv1 : Ints w v1 L) (hL : L.length ≤ 1000000) :
    Calls Tryz.prog 52 #[v1] w fun e w' => ∃ p, e = .returned (.pointer (some ⟨p, 0, none⟩)) ∧ DiceAt (p + 1) w' p L ∧ w.heap.size ≤ p ∧ p + 1 ≤ w'.heap.size ∧ Ex w.heap.size none w w' := by
  obtain ⟨ao, cap, rfl, hx⟩ := hv1
  have HX := Lib.hid hx
  clear hx
  go_enter Tryz.func52, Tryz.ntmps52
  go_wp2
  go_ret
  exact ⟨_, rfl, ⟨L, 0, ao, cap, heap_alloc_new w _, Nat.zero_le _, rfl, hL, HX.out.keep (Ex.new w _) (Nat.le_refl _) (by simp), fun hne a ha => by have := HX.out.lt hne a ha; omega, by omega⟩, Nat.le_refl _, by simp, Ex.new w _⟩

end Go.Proofs.YtdgfankkapeclaaGreat

namespace Go.Proofs.YtdgfankkapeclaaGreat
open Go.RowKit

set_option maxHeartbeats 400000 in
theorem one_any (N p : Nat) (d : List Int) (n : Int) (w : World) (hd : DiceAt N w p d) (h1 : 1 ≤ n) (hn : n ≤ 4611686018427387904) :
    Calls Tryz.prog 46 #[.pointer (some ⟨p, 0, none⟩), .int .i64 n] w fun e w' => e = .returned (.bool (dVal d n == n - 1)) ∧ DiceAt N w' p d.tail ∧ Ex w.heap.size (some p) w w' := by
  go_enter Tryz.func46, Tryz.ntmps46
  go_wp2_with fail
  refine (next_any N p d n w hd hn).mono ?_
  rintro e w1 ⟨rfl, hd1, hex1⟩
  go_wp2
  go_ret
  exact ⟨rfl, hd1, hex1⟩
end Go.Proofs.YtdgfankkapeclaaGreat

namespace Go.Proofs.YtdgfankkapeclaaGreat
open Go.RowKit

theorem light_any (ao : Option Addr) (cap n : Nat) (w : World) :
    Calls Tryz.prog 10 #[.slice ao n cap] w fun e w' => e = .returned (.bool (decide ((n : Int) ≤ 400))) ∧ w = w' := by
  go_enter Tryz.func10, Tryz.ntmps10
  go_wp2
  go_ret
  exact ⟨rfl, rfl⟩

end Go.Proofs.YtdgfankkapeclaaGreat

namespace Go.Proofs.YtdgfankkapeclaaGreat
open Go.RowKit

theorem roll_any (v1 : Value) (L : List Int) (w : World) (hv1 : Ints w v1 L) (hL : L.length ≤ 1000000) :
    Calls Tryz.prog 12 #[v1] w fun e w' => ∃ p, e = .returned (.pointer (some ⟨p, 0, none⟩)) ∧ DiceAt (p + 1) w' p L ∧ w.heap.size ≤ p ∧ p + 1 ≤ w'.heap.size ∧ Ex w.heap.size none w w' := by
  obtain ⟨ao, cap, rfl, hx⟩ := hv1
  go_enter Tryz.func12, Tryz.ntmps12
  go_wp2_with (go_at_call 52; refine (madeRoll_any _ _ _ ⟨_, _, rfl, hx⟩ hL).mono ?_; rintro e w' ⟨p, rfl, h1, h2, h3, h4⟩)
  go_ret
  exact ⟨_, rfl, h1, h2, h3, h4⟩

end Go.Proofs.YtdgfankkapeclaaGreat
