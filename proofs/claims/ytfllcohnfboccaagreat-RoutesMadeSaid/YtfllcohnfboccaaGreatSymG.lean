/- The merge of the library's stable sort, in place, by rotations: plain laws on rows. No program in sight. -/
import Derived.Test.YtfllcohnfboccaaGreatMg00
namespace Go.Proofs.YtfllcohnfboccaaGreat
open Go.Sort

variable {α : Type} [Inhabited α]

/-- Where that comes from what stands at t behind a rotation of [a, b) about m. -/
def rotIx (a m b t : Nat) : Nat := if a ≤ t ∧ t < a + (b - m) then t + (m - a) else if a + (b - m) ≤ t ∧ t < b then t - (b - m) else t
/-- Where that comes from what stands at t when n places from x on have been exchanged with those from y on. -/
def swIx (x y n t : Nat) : Nat := if x ≤ t ∧ t < x + n then t - x + y else if y ≤ t ∧ t < y + n then t - y + x else t
/-- d' is d, read at other places. -/
def By (f : Nat → Nat) (d d' : Array α) : Prop := d'.size = d.size ∧ ∀ t, t < d.size → d'[t]! = d[f t]!

theorem By.refl (f : Nat → Nat) (d : Array α) (h : ∀ t, t < d.size → f t = t) : By f d d := ⟨rfl, fun t ht => by rw [h t ht]⟩
theorem By.congr {f g : Nat → Nat} {d d' : Array α} (h : By f d d') (e : ∀ t, t < d.size → f t = g t) : By g d d' := ⟨h.1, fun t ht => by rw [h.2 t ht, e t ht]⟩
theorem By.trans {f g : Nat → Nat} {d d' d'' : Array α} (h : By f d d') (k : By g d' d'') (hg : ∀ t, t < d.size → g t < d.size) : By (fun t => f (g t)) d d'' :=
  ⟨k.1.trans h.1, fun t ht => by rw [k.2 t (by rw [h.1]; exact ht), h.2 _ (hg t ht)]⟩

theorem swIx_lt {x y n s t : Nat} (hx : x + n ≤ s) (hy : y + n ≤ s) (ht : t < s) : swIx x y n t < s := by
  unfold swIx; split
  · omega
  · split <;> omega
theorem By.swap0 (x y : Nat) (d : Array α) : By (swIx x y 0) d d := By.refl _ _ fun t _ => by unfold swIx; split; omega; split <;> omega
theorem By.swapS {x y n : Nat} {d d' : Array α} (h : By (swIx x y n) d d') (hxy : x + n < y) (hy : y + n < d.size) : By (swIx x y (n + 1)) d (swp d' (x + n) (y + n)) := by
  refine ⟨(swp_size _ _ _).trans h.1, fun t ht => ?_⟩
  have hs := h.1
  rw [swp_get d' (show x + n < d'.size by omega) (show y + n < d'.size by omega) t]
  split
  · rename_i e
    rw [h.2 _ (by omega)]
    congr 1
    unfold swIx
    repeat' split
    all_goals omega
  · split
    · rename_i _ e
      rw [h.2 _ (by omega)]
      congr 1
      unfold swIx
      repeat' split
      all_goals omega
    · rw [h.2 _ ht]
      congr 1
      unfold swIx
      repeat' split
      all_goals omega

theorem rot_step1 {m i j t : Nat} (hi : i ≤ m) (hj : j < i) : swIx (m - i) m j (rotIx (m - i + j) m (m + j) t) = rotIx (m - i) m (m + j) t := by
  unfold rotIx
  generalize hu : m - i = u
  obtain rfl : i = m - u := by omega
  unfold swIx
  repeat' split
  all_goals omega
theorem rot_step2 {m i j t : Nat} (hi : i ≤ m) (hj : i < j) : swIx (m - i) (m + j - i) i (rotIx (m - i) m (m + (j - i)) t) = rotIx (m - i) m (m + j) t := by
  unfold rotIx
  unfold swIx
  repeat' split
  all_goals omega
theorem rot_last {m i t : Nat} (hi : i ≤ m) : swIx (m - i) m i t = rotIx (m - i) m (m + i) t := by
  unfold rotIx swIx
  repeat' split
  all_goals omega
theorem rotIx_lt {a m b s t : Nat} (ham : a ≤ m) (hmb : m ≤ b) (hb : b ≤ s) (ht : t < s) : rotIx a m b t < s := by
  unfold rotIx; split
  · omega
  · split <;> omega
theorem rotIx_id {a m b t : Nat} (ham : a ≤ m) (hmb : m ≤ b) (h : a = m ∨ m = b) : rotIx a m b t = t := by
  unfold rotIx; split
  · omega
  · split <;> omega

omit [Inhabited α] in
theorem toList_cut (d : Array α) (a m b : Nat) (ham : a ≤ m) (hmb : m ≤ b) : d.toList = d.toList.take a ++ ((d.toList.drop a).take (m - a) ++ ((d.toList.drop m).take (b - m) ++ d.toList.drop b)) := by
  conv => lhs; rw [← List.take_append_drop a d.toList, ← List.take_append_drop (m - a) (d.toList.drop a), List.drop_drop, show a + (m - a) = m by omega, ← List.take_append_drop (b - m) (d.toList.drop m), List.drop_drop, show m + (b - m) = b by omega]
theorem By.rot_list {a m b : Nat} {d d' : Array α} (h : By (rotIx a m b) d d') (ham : a ≤ m) (hmb : m ≤ b) (hb : b ≤ d.size) :
    d'.toList = d.toList.take a ++ ((d.toList.drop m).take (b - m) ++ ((d.toList.drop a).take (m - a) ++ d.toList.drop b)) := by
  have hs := h.1
  have hz : d.toList.length = d.size := Array.length_toList
  apply List.ext_getElem
  · simp; omega
  · intro t h1 h2
    have ht : t < d.size := by simpa [hs] using h1
    have e := h.2 t ht
    have hlt := rotIx_lt (t := t) ham hmb hb ht
    rw [getElem!_pos d' t (by omega), getElem!_pos d _ hlt] at e
    rw [Array.getElem_toList, e]
    unfold rotIx at hlt
    by_cases c1 : t < a
    · rw [List.getElem_append_left (by simp; omega)]
      simp only [List.getElem_take, Array.getElem_toList]
      congr 1; unfold rotIx; rw [if_neg (by omega), if_neg (by omega)]
    · rw [List.getElem_append_right (by simp; omega)]
      by_cases c2 : t < a + (b - m)
      · rw [List.getElem_append_left (by simp; omega)]
        simp only [List.getElem_take, List.getElem_drop, Array.getElem_toList]
        congr 1; unfold rotIx; rw [if_pos (by omega)]; simp; omega
      · rw [List.getElem_append_right (by simp; omega)]
        by_cases c3 : t < b
        · rw [List.getElem_append_left (by simp; omega)]
          simp only [List.getElem_take, List.getElem_drop, Array.getElem_toList]
          congr 1; unfold rotIx; rw [if_neg (by omega), if_pos (by omega)]; simp; omega
        · rw [List.getElem_append_right (by simp; omega)]
          simp only [List.getElem_drop, Array.getElem_toList]
          congr 1; unfold rotIx; rw [if_neg (by omega), if_neg (by omega)]; simp; omega

/-- d' is d with the places of [a, b) exchanged among themselves, the order of equals kept. -/
structure SM (lt : α → α → Bool) (a b : Nat) (d d' : Array α) : Prop where
  size : d'.size = d.size
  out : ∀ i, i < a ∨ b ≤ i → d'[i]! = d[i]!
  inn : ∀ i, a ≤ i → i < b → ∃ j, a ≤ j ∧ j < b ∧ d'[i]! = d[j]!
  perm : d'.toList.Perm d.toList
  kind : ∀ p, Kind lt p → d'.toList.filter p = d.toList.filter p

theorem SM.refl (lt : α → α → Bool) (a b : Nat) (d : Array α) : SM lt a b d d := ⟨rfl, fun _ _ => rfl, fun i h1 h2 => ⟨i, h1, h2, rfl⟩, List.Perm.refl _, fun _ _ => rfl⟩
theorem SM.trans {lt : α → α → Bool} {a b : Nat} {d d' d'' : Array α} (h : SM lt a b d d') (k : SM lt a b d' d'') : SM lt a b d d'' :=
  ⟨k.size.trans h.size, fun i hi => (k.out i hi).trans (h.out i hi), fun i h1 h2 => by
    obtain ⟨j, j1, j2, e⟩ := k.inn i h1 h2
    obtain ⟨j', j1', j2', e'⟩ := h.inn j j1 j2
    exact ⟨j', j1', j2', e.trans e'⟩, k.perm.trans h.perm, fun p hp => (k.kind p hp).trans (h.kind p hp)⟩
theorem SM.mono {lt : α → α → Bool} {a b a' b' : Nat} {d d' : Array α} (h : SM lt a b d d') (ha : a' ≤ a) (hb : b ≤ b') : SM lt a' b' d d' :=
  ⟨h.size, fun i hi => h.out i (by omega), fun i h1 h2 => by
    by_cases c : a ≤ i ∧ i < b
    · obtain ⟨j, j1, j2, e⟩ := h.inn i c.1 c.2
      exact ⟨j, by omega, by omega, e⟩
    · exact ⟨i, h1, h2, h.out i (by omega)⟩, h.perm, h.kind⟩

theorem By.rot_sm {lt : α → α → Bool} {a m b : Nat} {d d' : Array α} (h : By (rotIx a m b) d d') (ham : a ≤ m) (hmb : m ≤ b) (hb : b ≤ d.size)
    (hl : ∀ x y, a ≤ x → x < m → m ≤ y → y < b → lt d[y]! d[x]! = true) : SM lt a b d d' := by
  have e2 := h.rot_list ham hmb hb
  have e1 := toList_cut d a m b ham hmb
  refine ⟨h.1, fun i hi => ?_, fun i h1 h2 => ?_, ?_, fun p hp => ?_⟩
  · by_cases c : i < d.size
    · rw [h.2 i c]; congr 1; unfold rotIx; rw [if_neg (by omega), if_neg (by omega)]
    · rw [getElem!_neg d' i (by rw [h.1]; exact c), getElem!_neg d i c]
  · refine ⟨rotIx a m b i, ?_, ?_, h.2 i (by omega)⟩
    · unfold rotIx; split
      · omega
      · split <;> omega
    · unfold rotIx; split
      · omega
      · split <;> omega
  · rw [e2]
    refine List.Perm.trans ?_ (List.Perm.of_eq e1.symm)
    apply List.Perm.append_left
    rw [← List.append_assoc, ← List.append_assoc]
    exact List.Perm.append_right _ List.perm_append_comm
  · rw [e2]
    refine Eq.trans ?_ (congrArg (List.filter p) e1.symm)
    simp only [List.filter_append]
    congr 1
    rw [← List.append_assoc, ← List.append_assoc]
    congr 1
    by_cases hx : ∃ x, x ∈ (d.toList.drop a).take (m - a) ∧ p x = true
    · obtain ⟨x, hx, px⟩ := hx
      have : ((d.toList.drop m).take (b - m)).filter p = [] := by
        rw [List.filter_eq_nil_iff]
        intro y hy py
        obtain ⟨i, hi, rfl⟩ := List.getElem_of_mem hx
        obtain ⟨j, hj, rfl⟩ := List.getElem_of_mem hy
        simp only [List.length_take, List.length_drop, Array.length_toList] at hi hj
        have := hl (a + i) (m + j) (by omega) (by omega) (by omega) (by omega)
        rw [getElem!_pos d _ (by omega), getElem!_pos d _ (by omega)] at this
        simp only [List.getElem_take, List.getElem_drop, Array.getElem_toList] at px py
        rw [hp _ _ py px] at this
        cases this
      rw [this]; simp
    · have : ((d.toList.drop a).take (m - a)).filter p = [] := by
        rw [List.filter_eq_nil_iff]
        intro x h1 h2
        exact hx ⟨x, h1, h2⟩
      rw [this]; simp

theorem sorted_le {lt : α → α → Bool} (hS : SWO lt) {a b : Nat} {d : Array α} (h : SortedIn lt a b d) {i j : Nat} (h1 : a ≤ i) (h2 : i ≤ j) (h3 : j < b) : lt d[j]! d[i]! = false := by
  by_cases e : i = j
  · subst e; exact hS.irrefl _
  · exact h i j h1 (by omega) h3
omit [Inhabited α] in
/-- y ≤ q < s ≤ x gives y < x. -/
theorem lt_between {lt : α → α → Bool} (hS : SWO lt) {y q s x : α} (h1 : lt q s = true) (h2 : lt q y = false) (h3 : lt x s = false) : lt y x = true := by
  cases e : lt y x with
  | true => rfl
  | false => have := hS.ntrans _ _ _ (hS.ntrans _ _ _ h2 e) h3; rw [h1] at this; cases this

/-- Two runs, of which what stands in the wrong order about m has been rotated: each side of 'mid' is two runs, and nothing on the right is less than something on the left. -/
theorem rot_runs {lt : α → α → Bool} (hS : SWO lt) {a s m e b : Nat} {d d' : Array α} (h : By (rotIx s m e) d d') (h1 : a ≤ s) (h2 : s ≤ m) (h3 : m ≤ e) (h4 : e ≤ b) (h5 : b ≤ d.size)
    (r1 : SortedIn lt a m d) (r2 : SortedIn lt m b d)
    (c1 : ∀ x y, s ≤ x → x < m → m ≤ y → y < e → lt d[y]! d[x]! = true) (c2 : ∀ x y, a ≤ x → x < s → e ≤ y → y < b → lt d[y]! d[x]! = false) :
    SM lt a b d d' ∧ SortedIn lt a s d' ∧ SortedIn lt s (s + (e - m)) d' ∧ SortedIn lt (s + (e - m)) e d' ∧ SortedIn lt e b d' ∧
    (∀ i j, a ≤ i → i < s + (e - m) → s + (e - m) ≤ j → j < b → lt d'[j]! d'[i]! = false) := by
  have g : ∀ t, t < b → d'[t]! = d[rotIx s m e t]! := fun t ht => h.2 t (by omega)
  have i1 : ∀ t, t < s → rotIx s m e t = t := fun t ht => by unfold rotIx; rw [if_neg (by omega), if_neg (by omega)]
  have i2 : ∀ t, s ≤ t → t < s + (e - m) → rotIx s m e t = t + (m - s) := fun t ht ht' => by unfold rotIx; rw [if_pos (by omega)]
  have i3 : ∀ t, s + (e - m) ≤ t → t < e → rotIx s m e t = t - (e - m) := fun t ht ht' => by unfold rotIx; rw [if_neg (by omega), if_pos (by omega)]
  have i4 : ∀ t, e ≤ t → rotIx s m e t = t := fun t ht => by unfold rotIx; rw [if_neg (by omega), if_neg (by omega)]
  refine ⟨(h.rot_sm h2 h3 (by omega) c1).mono h1 h4, fun i j x1 x2 x3 => ?_, fun i j x1 x2 x3 => ?_, fun i j x1 x2 x3 => ?_, fun i j x1 x2 x3 => ?_, fun i j x1 x2 x3 x4 => ?_⟩
  · rw [g i (by omega), g j (by omega), i1 i (by omega), i1 j (by omega)]; exact r1 i j x1 x2 (by omega)
  · rw [g i (by omega), g j (by omega), i2 i (by omega) (by omega), i2 j (by omega) (by omega)]; exact r2 _ _ (by omega) (by omega) (by omega)
  · rw [g i (by omega), g j (by omega), i3 i (by omega) (by omega), i3 j (by omega) (by omega)]; exact r1 _ _ (by omega) (by omega) (by omega)
  · rw [g i (by omega), g j (by omega), i4 i (by omega), i4 j (by omega)]; exact r2 _ _ (by omega) (by omega) (by omega)
  · rw [g i (by omega), g j (by omega)]
    by_cases y1 : i < s
    · rw [i1 i y1]
      by_cases y2 : j < e
      · rw [i3 j x3 y2]; exact sorted_le hS r1 x1 (by omega) (by omega)
      · rw [i4 j (by omega)]; exact c2 _ _ x1 y1 (by omega) x4
    · rw [i2 i (by omega) x2]
      by_cases y2 : j < e
      · rw [i3 j x3 y2]; exact hS.asymmA (c1 _ _ (by omega) (by omega) (by omega) (by omega))
      · rw [i4 j (by omega)]; exact sorted_le hS r2 (by omega) (by omega) x4

/-- Both sides have been merged. -/
theorem merge_join {lt : α → α → Bool} {a mid b : Nat} {d d1 d2 d3 : Array α} (k1 : SM lt a b d d1) (ha : a ≤ mid) (hb : mid ≤ b)
    (hx : ∀ i j, a ≤ i → i < mid → mid ≤ j → j < b → lt d1[j]! d1[i]! = false)
    (k2 : SM lt a mid d1 d2) (s2 : SortedIn lt a mid d2) (k3 : SM lt mid b d2 d3) (s3 : SortedIn lt mid b d3) : SM lt a b d d3 ∧ SortedIn lt a b d3 := by
  refine ⟨(k1.trans (k2.mono (Nat.le_refl _) hb)).trans (k3.mono ha (Nat.le_refl _)), fun i j x1 x2 x3 => ?_⟩
  by_cases c1 : j < mid
  · rw [k3.out i (Or.inl (by omega)), k3.out j (Or.inl c1)]; exact s2 i j x1 x2 c1
  · by_cases c2 : mid ≤ i
    · exact s3 i j c2 x2 x3
    · obtain ⟨j', y1, y2, e⟩ := k3.inn j (by omega) x3
      obtain ⟨i', z1, z2, e'⟩ := k2.inn i x1 (by omega)
      rw [k3.out i (Or.inl (by omega)), e, e', k2.out j' (Or.inr y1)]
      exact hx _ _ z1 z2 y1 y2

/-- What the search for the place of the cut knows: below s 'not less', from r on 'less' (p - c stands against c). -/
def CutLo (lt : α → α → Bool) (d : Array α) (p s0 s : Nat) : Prop := ∀ c, s0 ≤ c → c < s → lt d[p - c]! d[c]! = false
def CutHi (lt : α → α → Bool) (d : Array α) (p r r0 : Nat) : Prop := ∀ c, r ≤ c → c < r0 → lt d[p - c]! d[c]! = true

/-- Where the search begins and ends. -/
structure CutAt (a m b p s0 r0 : Nat) : Prop where
  lo : a ≤ s0
  hi : r0 ≤ m
  ord : s0 ≤ r0
  top : p < s0 + b
  bot : m + r0 ≤ p + 1

theorem CutLo.step {lt : α → α → Bool} (hS : SWO lt) {d : Array α} {a m b p s0 r0 c : Nat} (hc : CutAt a m b p s0 r0) (r1 : SortedIn lt a m d) (r2 : SortedIn lt m b d) (_h1 : s0 ≤ c) (h2 : c < r0) (h : lt d[p - c]! d[c]! = false) : CutLo lt d p s0 (c + 1) := fun x x1 x2 => by
  have := hc.lo; have := hc.hi; have := hc.top; have := hc.bot
  exact hS.ntrans _ _ _ (hS.ntrans _ _ _ (sorted_le hS r2 (by omega) (by omega) (by omega)) h) (sorted_le hS r1 (by omega) (by omega) (by omega))
theorem CutHi.step {lt : α → α → Bool} (hS : SWO lt) {d : Array α} {a m b p s0 r0 c : Nat} (hc : CutAt a m b p s0 r0) (r1 : SortedIn lt a m d) (r2 : SortedIn lt m b d) (h1 : s0 ≤ c) (_h2 : c < r0) (h : lt d[p - c]! d[c]! = true) : CutHi lt d p c r0 := fun x x1 x2 => by
  have := hc.lo; have := hc.hi; have := hc.top; have := hc.bot
  exact lt_between hS h (sorted_le hS r2 (by omega) (by omega) (by omega)) (sorted_le hS r1 (by omega) (by omega) (by omega))

/-- What the found cut gives. -/
theorem cut_found {lt : α → α → Bool} (hS : SWO lt) {d : Array α} {a m b mid p s0 r0 s : Nat} (_ham : a < m) (_hmb : m < b) (hmid : mid = (a + b) / 2) (hp : p + 1 = mid + m)
    (hc : (mid < m ∧ s0 = mid + m - b ∧ r0 = mid) ∨ (m ≤ mid ∧ s0 = a ∧ r0 = m)) (r1 : SortedIn lt a m d) (r2 : SortedIn lt m b d) (h1 : s0 ≤ s) (h2 : s ≤ r0) (lo : CutLo lt d p s0 s) (hi : CutHi lt d p s r0) :
    a ≤ s ∧ s ≤ m ∧ m ≤ mid + m - s ∧ mid + m - s ≤ b ∧ s + (mid + m - s - m) = mid ∧
    (∀ x y, s ≤ x → x < m → m ≤ y → y < mid + m - s → lt d[y]! d[x]! = true) ∧ (∀ x y, a ≤ x → x < s → mid + m - s ≤ y → y < b → lt d[y]! d[x]! = false) := by
  have hC : CutAt a m b p s0 r0 := by constructor <;> omega
  have := hC.lo; have := hC.hi; have := hC.top; have := hC.bot
  refine ⟨by omega, by omega, by omega, by omega, by omega, fun x y x1 x2 y1 y2 => ?_, fun x y x1 x2 y1 y2 => ?_⟩
  · by_cases e : s = r0
    · omega
    · exact lt_between hS (hi s (Nat.le_refl _) (by omega)) (sorted_le hS r2 (by omega) (by omega) (by omega)) (sorted_le hS r1 (by omega) (by omega) (by omega))
  · by_cases e : s = s0
    · omega
    · have := lo (s - 1) (by omega) (by omega)
      exact hS.ntrans _ _ _ (hS.ntrans _ _ _ (sorted_le hS r2 (show m ≤ p - (s - 1) by omega) (by omega) y2) this) (sorted_le hS r1 x1 (by omega) (by omega))
theorem cut_at {a m b mid p s0 r0 : Nat} (ham : a < m) (hmb : m < b) (hmid : mid = (a + b) / 2) (hp : p + 1 = mid + m)
    (hc : (mid < m ∧ s0 = mid + m - b ∧ r0 = mid) ∨ (m ≤ mid ∧ s0 = a ∧ r0 = m)) : CutAt a m b p s0 r0 := by constructor <;> omega

/-- One element ahead of a run: what the search for its place knows, and what becomes of the row. -/
def OneLo (lt : α → α → Bool) (d : Array α) (a i : Nat) : Prop := ∀ h, a < h → h < i → lt d[h]! d[a]! = true
def OneHi (lt : α → α → Bool) (d : Array α) (a j b : Nat) : Prop := ∀ h, j ≤ h → h < b → lt d[h]! d[a]! = false
theorem OneLo.step {lt : α → α → Bool} (hS : SWO lt) {d : Array α} {a b h : Nat} (r : SortedIn lt (a + 1) b d) (h1 : h < b) (e : lt d[h]! d[a]! = true) : OneLo lt d a (h + 1) := fun x x1 x2 =>
  lt_between hS e (sorted_le hS r (by omega) (by omega) (by omega)) (hS.irrefl _)
theorem OneHi.step {lt : α → α → Bool} (hS : SWO lt) {d : Array α} {a b h : Nat} (r : SortedIn lt (a + 1) b d) (h1 : a < h) (e : lt d[h]! d[a]! = false) : OneHi lt d a h b := fun x x1 x2 =>
  hS.ntrans _ _ _ (sorted_le hS r (by omega) (by omega) (by omega)) e
theorem one_ahead {lt : α → α → Bool} (hS : SWO lt) {d d' : Array α} {a i b : Nat} (h : By (rotIx a (a + 1) i) d d') (h1 : a < i) (h2 : i ≤ b) (hb : b ≤ d.size) (r : SortedIn lt (a + 1) b d) (lo : OneLo lt d a i) (hi : OneHi lt d a i b) : SM lt a b d d' ∧ SortedIn lt a b d' := by
  obtain ⟨k, s1, s2, s3, s4, x⟩ := rot_runs hS (a := a) (b := b) h (Nat.le_refl _) (by omega) (by omega) h2 hb (fun i j _ _ _ => by omega) r (fun x y x1 x2 y1 y2 => by obtain rfl : x = a := (by omega); exact lo y (by omega) y2) (fun x y x1 x2 _ _ => by omega)
  refine merge_join k (show a ≤ a + (i - (a + 1)) by omega) (by omega) x (SM.refl _ _ _ _) s2 (SM.refl _ _ _ _) ?_
  intro u v u1 u2 u3
  rw [h.2 u (by omega), h.2 v (by omega)]
  by_cases c : u = i - 1
  · rw [show rotIx a (a + 1) i u = a by unfold rotIx; rw [if_neg (by omega), if_pos (by omega)]; omega, show rotIx a (a + 1) i v = v by unfold rotIx; rw [if_neg (by omega), if_neg (by omega)]]
    exact hi v (by omega) u3
  · rw [show rotIx a (a + 1) i u = u by unfold rotIx; rw [if_neg (by omega), if_neg (by omega)], show rotIx a (a + 1) i v = v by unfold rotIx; rw [if_neg (by omega), if_neg (by omega)]]
    exact r u v (by omega) u2 u3

/-- One element behind a run. -/
def EndLo (lt : α → α → Bool) (d : Array α) (m a i : Nat) : Prop := ∀ h, a ≤ h → h < i → lt d[m]! d[h]! = false
def EndHi (lt : α → α → Bool) (d : Array α) (m j : Nat) : Prop := ∀ h, j ≤ h → h < m → lt d[m]! d[h]! = true
theorem EndLo.step {lt : α → α → Bool} (hS : SWO lt) {d : Array α} {a m h : Nat} (r : SortedIn lt a m d) (h1 : h < m) (e : lt d[m]! d[h]! = false) : EndLo lt d m a (h + 1) := fun x x1 x2 =>
  hS.ntrans _ _ _ e (sorted_le hS r (by omega) (by omega) (by omega))
theorem EndHi.step {lt : α → α → Bool} (hS : SWO lt) {d : Array α} {a m h : Nat} (r : SortedIn lt a m d) (h1 : a ≤ h) (e : lt d[m]! d[h]! = true) : EndHi lt d m h := fun x x1 x2 =>
  lt_between hS e (hS.irrefl _) (sorted_le hS r (by omega) (by omega) (by omega))
theorem one_behind {lt : α → α → Bool} (hS : SWO lt) {d d' : Array α} {a i m : Nat} (h : By (rotIx i m (m + 1)) d d') (h1 : a ≤ i) (h2 : i ≤ m) (hb : m < d.size) (r : SortedIn lt a m d) (lo : EndLo lt d m a i) (hi : EndHi lt d m i) : SM lt a (m + 1) d d' ∧ SortedIn lt a (m + 1) d' := by
  obtain ⟨k, s1, s2, s3, s4, x⟩ := rot_runs hS (a := a) (b := m + 1) h h1 h2 (by omega) (Nat.le_refl _) (by omega) r (fun i j _ _ _ => by omega) (fun x y x1 x2 y1 y2 => by obtain rfl : y = m := (by omega); exact hi x x1 x2) (fun x y x1 x2 _ _ => by omega)
  refine merge_join k (show a ≤ i + (m + 1 - m) by omega) (by omega) x (SM.refl _ _ _ _) ?_ (SM.refl _ _ _ _) s3
  intro u v u1 u2 u3
  rw [h.2 u (by omega), h.2 v (by omega)]
  rw [show rotIx i m (m + 1) u = u by unfold rotIx; rw [if_neg (by omega), if_neg (by omega)]]
  by_cases c : v = i
  · rw [show rotIx i m (m + 1) v = m by unfold rotIx; rw [if_pos (by omega)]; omega]
    exact lo u (by omega) (by omega)
  · rw [show rotIx i m (m + 1) v = v by unfold rotIx; rw [if_neg (by omega), if_neg (by omega)]]
    exact r u v (by omega) u2 (by omega)

/-- One exchange more of an element that goes up, or down. -/
theorem By.up {a k : Nat} {d d' : Array α} (h : By (rotIx a (a + 1) (k + 1)) d d') (h1 : a ≤ k) (h2 : k + 1 < d.size) : By (rotIx a (a + 1) (k + 2)) d (swp d' k (k + 1)) := by
  refine ⟨(swp_size _ _ _).trans h.1, fun t ht => ?_⟩
  have hs := h.1
  rw [swp_get d' (show k < d'.size by omega) (show k + 1 < d'.size by omega) t]
  split
  · rename_i e
    rw [h.2 _ (by omega)]; congr 1; unfold rotIx; repeat' split
    all_goals omega
  · split
    · rename_i _ e
      rw [h.2 _ (by omega)]; congr 1; unfold rotIx; repeat' split
      all_goals omega
    · rw [h.2 _ ht]; congr 1; unfold rotIx; repeat' split
      all_goals omega
theorem By.down {k m : Nat} {d d' : Array α} (h : By (rotIx (k + 1) m (m + 1)) d d') (h1 : k + 1 ≤ m) (h2 : m < d.size) : By (rotIx k m (m + 1)) d (swp d' (k + 1) k) := by
  refine ⟨(swp_size _ _ _).trans h.1, fun t ht => ?_⟩
  have hs := h.1
  rw [swp_get d' (show k + 1 < d'.size by omega) (show k < d'.size by omega) t]
  split
  · rename_i e
    rw [h.2 _ (by omega)]; congr 1; unfold rotIx; repeat' split
    all_goals omega
  · split
    · rename_i _ e
      rw [h.2 _ (by omega)]; congr 1; unfold rotIx; repeat' split
      all_goals omega
    · rw [h.2 _ ht]; congr 1; unfold rotIx; repeat' split
      all_goals omega

theorem two_runs {lt : α → α → Bool} {a s b : Nat} {d : Array α} (h1 : a ≤ s) (h2 : s ≤ b) (hn : ¬ (a < s ∧ s < b)) (r1 : SortedIn lt a s d) (r2 : SortedIn lt s b d) : SortedIn lt a b d := by
  by_cases h : a < s
  · obtain rfl : s = b := by omega
    exact r1
  · obtain rfl : a = s := by omega
    exact r2
theorem sorted_out {lt : α → α → Bool} {a b x y : Nat} {d d' : Array α} (h : SM lt a b d d') (hb : b ≤ x) (r : SortedIn lt x y d) : SortedIn lt x y d' := fun i j h1 h2 h3 => by
  rw [h.out i (Or.inr (by omega)), h.out j (Or.inr (by omega))]; exact r i j h1 h2 h3
end Go.Proofs.YtfllcohnfboccaaGreat
