/- ref36.Against and Guilty at two statements that are a fork. No statement of the seat. | Rows with one statement for each number, and one more with a number that is there: what the chain's functions make of them. No program in sight; no statement of the seat. | The rows that law41.AttackerForks writes, with their digests. No program in sight; no statement of the seat. | law41.awake. No statement of the seat. -/
import Derived.Test.YtaakacahblndcaaGreatMg15
import Derived.Test.YtaakacahblndcaaGreatMg14
import Derived.Test.YtaakacahblndcaaGreatStorePlainG
import Derived.Test.YtaakacahblndcaaGreatCounted04G
import Derived.Test.YtaakacahblndcaaGreatMg08
namespace Go.Proofs.YtaakacahblndcaaGreat
open Go.RowKit Go.Sort
attribute [local go_sem ↓] rowLoad_stv rowStore_stv rowBuild_stv rowLoad_proof rowStore_proof rowBuild_proof
attribute [local go_sem ↓ high] builtin_appR

set_option maxHeartbeats 4000000 in
set_option maxRecDepth 100000 in
theorem against36 (x y : St × Sv × Sv) (w : World) :
    Calls Tryz.prog 71 #[proofV 1 x y] w fun e w' => e = .returned (.int .i64 x.1.author) ∧ Ex w.heap.size none w w' := by
  obtain ⟨ws, hws⟩ : ∃ ws : World, ws = w.alloc (.cells (proofV 1 x y).cells 61) := ⟨_, rfl⟩
  have HE : Hid (Ex w.heap.size none w ws) := Lib.hid (by rw [hws]; exact Ex.new w _)
  have hc1 : ws.cell? ⟨w.heap.size, 1, none⟩ = some (.int .i64 x.1.author) := by rw [hws, cell_of_row _ _ _ _ _ _ (heap_alloc_new w _)]; rfl
  go_enter Tryz.func71, Tryz.ntmps71
  go_upto_region 1 with (fail)
  refine wp_world (fun W => W = ws) (by rw [hws]; rfl) (fun W hW => ?_)
  rw [hW]
  clear hW W hws
  go_wp2
  go_ret
  exact ⟨rfl, HE.out⟩

theorem run_appI1 {w : World} (rb : Nat) (a : Int) (g : Nat) (hc : w.heap[g]? = some (.cells #[.int .i64 a] 3 (0, 0))) (hrb : rb ≤ w.heap.size) :
    ∃ ao cap w', (appR #[22, 22] 22 #[.slice none 0 0, .slice (some ⟨g, 0, none⟩) 1 1]).run Tryz.prog w = .ok (.slice ao 1 cap) w' ∧ Hid (OwnI w' rb ao cap [a]) ∧ Ex rb none w w' := by
  obtain ⟨i0, hi, hz0, hz1, hz2⟩ := info_parts Tryz.infoInt
  have hc' : ∀ (j : Nat) (v : Value), [Value.int .i64 a][j]? = some v → w.cell? ((⟨g, 0, none⟩ : Addr).add j) = some v := fun j v hj => by
    rw [Addr.add_lit, Nat.zero_add, cell_of_row _ _ _ _ _ _ hc]
    simpa using hj
  obtain ⟨v', w', hr, ho', hg, _, hnew⟩ := run_append_own_at (P := Tryz.prog) w rb 22 22 3 i0 _ 1 8 Tryz.underlying22 hi hz0 hz1 hz2 rfl (by decide) _ _ _ (OwnI.nil w rb) ⟨g, 0, none⟩ 1 1 [Value.int .i64 a] rfl hc' (by intro v hv; simp only [List.mem_singleton] at hv; subst hv; rfl) (by simp only [maxLen, List.length_nil]; omega) (by simp) hrb
  obtain ⟨ao', cap', rfl⟩ := own_shape ho'
  exact ⟨ao', cap', w', hr, Lib.hid ho', ⟨hg.os, hg.tape, hg.output, hg.size, fun k hk _ => hg.block k (by omega) (fun e => by cases e)⟩⟩

set_option maxHeartbeats 8000000 in
set_option maxRecDepth 100000 in
theorem guilty36_two {P : Nat → Prop} (v : Value) (x y : St) (au h : Nat) (w : World) (hv : Sl stRep P w v [x, y]) (hx : x.author = au) (hy : y.author = au) (hau : au < 64) (hj : (joinI [(au : Int)] []).length = 1) (hn : x.number = y.number) (hh : h = 1 ∨ h = 2) (hd : ∀ i k si sk, [x, y][i]? = some si → [x, y][k]? = some sk → Op.bytesLess si.dig.toList sk.dig.toList = decide (2 * i + k = h)) (hok : ∀ s ∈ [x, y], checkI s = 0 ∧ sealedB s = true) (hno : NoVotes [x, y]) :
    Calls Tryz.prog 33 #[v] w fun e w' => (∃ ro rc, e = .returned (.slice ro 1 rc)) ∧ Ex w.heap.size none w w' := by
  have HF : Hid (Calls Tryz.prog 70 #[v] w fun e w' => FindE au w.heap.size e w' ∧ Ex w.heap.size none w w') := Lib.hid (find36_two v x y au h w hv hx hy hau hn hh hd hok hno)
  have HJ := Lib.hid hj
  clear hv hx hy hn hh hd hok hno hj
  go_enter Tryz.func33, Tryz.ntmps33
  go_upto_region 4 with (first
    | (go_at_call 70
       refine HF.out.mono ?_
       rintro e w1 ⟨⟨v1, rfl, hp⟩, hex⟩
       obtain ⟨b, cap, z, rfl, h1, h2, h3, HLD⟩ := hp.load
       have HA := Lib.hid h3
       have HE1 : Hid (Ex w.heap.size none w w1) := Lib.hid hex
       clear hex hp h3)
    | fail)
  have hz1 := HE1.out.size
  clear HF
  go_loopw [4, 5] (fun o i wr => ∃ (k : Nat) (ro : Option Addr) (rc : Nat), k ≤ 1 ∧ o = .slice ro k rc ∧ i = .int .i64 k ∧ Hid (k = 0 → ro = none ∧ rc = 0) ∧ Hid (k = 1 → OwnI wr w.heap.size ro rc [(au : Int)]) ∧ Hid (k = 0 → wr = w1) ∧ Ex w.heap.size none w wr) (fun _ i _ => 1 - (intOf i).toNat)
  case atStart => exact ⟨0, none, 0, by omega, rfl, rfl, Lib.hid fun _ => ⟨rfl, rfl⟩, Lib.hid fun h => by omega, Lib.hid fun _ => rfl, HE1.out⟩
  case round =>
    obtain ⟨k, ro, rc, hk, rfl, rfl, H0, H1, HW, hex⟩ := hrel
    have hsz := hex.size
    have HEX := Lib.hid hex
    clear hex
    by_cases hlt : k < 1
    · obtain rfl : k = 0 := by omega
      obtain ⟨rfl, rfl⟩ := H0.out rfl
      obtain rfl := HW.out rfl
      have hld := HLD.out wr rfl
      go_upto_region 6 with (fail)
      go_wp2_with (first
        | (go_at_call 71
           refine (against36 z.1 z.2 wr).mono ?_
           rintro e w2 ⟨he, hex⟩
           rw [HA.out] at he
           subst he
           have HE2 : Hid (Ex wr.heap.size none wr w2) := Lib.hid hex
           obtain ⟨ao3, cap3, w3, hr3, HO3, hx3⟩ := run_appI1 (w := w2.alloc (.cells #[.int .i64 (au : Int)] 3)) w.heap.size (au : Int) w2.heap.size (heap_alloc_new w2 _) (by have := hex.size; simp; omega)
           have HE3 : Hid (Ex w.heap.size none w w3) := Lib.hid ((HEX.out.trans hex hsz (by simp)).trans ((Ex.mono (Ex.new w2 _) (by have := hex.size; omega)).trans hx3 (Nat.le_refl _) (by simp)) (Nat.le_refl _) (by simp))
           clear hex hx3)
        | fail)
      go_roundw
      case rel => exact ⟨1, ao3, cap3, by omega, rfl, by go_num, Lib.hid fun h => by omega, Lib.hid fun _ => HO3.out, Lib.hid fun h => by omega, HE3.out⟩
      case measure => simp [intOf]
    · obtain rfl : k = 1 := by omega
      have HO : Hid (OwnI wr w.heap.size ro rc [(au : Int)]) := Lib.hid (H1.out rfl)
      go_upto_region 7 with (fail)
      go_wp2_with (first
        | (go_at_call 72
           refine (join_any (.slice ro 1 rc) (.slice none 0 0) [(au : Int)] [] wr ⟨ro, rc, rfl, HO.out.ints⟩ (Ints.nil _) (by simp) (by simp)).mono ?_
           rintro e w2 ⟨r2, c2, he, ho, hex⟩
           rw [HJ.out] at he
           subst he
           have HE2 : Hid (Ex wr.heap.size none wr w2) := Lib.hid hex
           clear ho hex)
        | fail)
      go_ret
      exact ⟨⟨_, _, rfl⟩, HEX.out.trans HE2.out hsz (by simp)⟩
end Go.Proofs.YtaakacahblndcaaGreat

namespace Go.Proofs.YtaakacahblndcaaGreat
open Go.RowKit Go.Sort

/-- A row with one statement for each number. -/
structure ChainL (a : Int) (l : List St) : Prop where
  ok : ∀ s ∈ l, okB a s = true
  num : ∀ (k : Nat) (s : St), l[k]? = some s → s.number = (k : Int)
  fol : ∀ (k : Nat) (s t : St), l[k]? = some s → l[k + 1]? = some t → followsL s t = true
  dist : ∀ (i j : Nat) (s t : St), l[i]? = some s → l[j]? = some t → s.dig = t.dig → i = j
  first : ∀ s, l[0]? = some s → s.prev = ⟨#[]⟩
  kind : ∀ s ∈ l, s.kind ≠ 3
  len : l.length ≤ 200
theorem okB_iff' {a : Int} {s : St} : okB a s = true ↔ s.author = a ∧ checkI s = 0 ∧ sealedB s = true := by
  unfold okB; simp [and_assoc]
theorem sealedB_dig {s : St} (h : sealedB s = true) : s.dig = sha (stB s) := by
  unfold sealedB at h
  simp only [Bool.and_eq_true, decide_eq_true_eq] at h
  exact h.2
theorem lt_num {s t : St} (ha : s.author = t.author) (hn : s.number < t.number) : ltA s t = true := by
  unfold ltA ltNDs; simp [ha, hn]
section
variable {a : Int} {l : List St}
theorem ChainL.okG (h : ChainL a l) {k : Nat} {s : St} (hs : l[k]? = some s) : s.author = a ∧ checkI s = 0 ∧ sealedB s = true := okB_iff'.1 (h.ok s (List.mem_of_getElem? hs))
theorem ChainL.lt (h : ChainL a l) {i j : Nat} {s t : St} (hij : i < j) (hs : l[i]? = some s) (ht : l[j]? = some t) : ltA s t = true :=
  lt_num ((h.okG hs).1.trans (h.okG ht).1.symm) (by rw [h.num i s hs, h.num j t ht]; omega)
theorem ChainL.rising (h : ChainL a l) : l.Pairwise fun x y => ltA x y = true := by
  rw [List.pairwise_iff_getElem]
  intro i j hi hj hij
  exact h.lt hij (List.getElem?_eq_getElem hi) (List.getElem?_eq_getElem hj)
theorem ChainL.valid (h : ChainL a l) : validB l = true := validB_of (by have := h.len; omega) (fun s hs => (okB_iff'.1 (h.ok s hs)).2) h.rising
theorem ChainL.auth (h : ChainL a l) : l.filter (authB a) = l := List.filter_eq_self.2 fun s hs => by
  unfold authB; simp [(okB_iff'.1 (h.ok s hs)).1]
theorem ChainL.links (h : ChainL a l) {ls : List St} (hl : LinksR a l ls) : ls = l := by
  obtain ⟨d, hp, hsd, rfl⟩ := hl
  rw [List.filter_eq_self.2 h.ok] at hp
  have hd : d = l := by
    refine List.Perm.eq_of_pairwise (le := fun x y => ltNDs y x = false) (fun x y hx hy h1 h2 => ?_) ?_ ?_ hp
    · obtain ⟨i, hi⟩ := List.mem_iff_getElem?.1 (hp.subset hx)
      obtain ⟨j, hj⟩ := List.mem_iff_getElem?.1 hy
      have e1 := h.num i x hi
      have e2 := h.num j y hj
      unfold ltNDs at h1 h2
      simp only [Bool.or_eq_false_iff, decide_eq_false_iff_not] at h1 h2
      have : i = j := by omega
      subst this
      rw [hi] at hj
      exact Option.some.inj hj
    · rw [List.pairwise_iff_getElem]
      intro i j hi hj hij
      exact hsd i j _ _ hij (List.getElem?_eq_getElem hi) (List.getElem?_eq_getElem hj)
    · rw [List.pairwise_iff_getElem]
      intro i j hi hj hij
      have e1 := h.num i _ (List.getElem?_eq_getElem hi)
      have e2 := h.num j _ (List.getElem?_eq_getElem hj)
      unfold ltNDs
      simp only [Bool.or_eq_false_iff, decide_eq_false_iff_not, Bool.and_eq_false_iff]
      exact ⟨by omega, .inl (by omega)⟩
  subst hd
  unfold cptL
  rw [cpt_all (fun j hj => ?_) (by simp)]
  · simp
  · by_cases h0 : j = 0
    · subst h0; rfl
    · have hj' : j - 1 < d.length := by omega
      refine stays_of (by omega) false ?_
      rw [getElem!_pos d.toArray j (by simpa using hj), getElem!_pos d.toArray (j - 1) (by simpa using hj')]
      simp only [List.getElem_toArray]
      unfold sameDigS
      rw [toListB]
      refine decide_eq_false fun e => ?_
      have := h.dist j (j - 1) _ _ (List.getElem?_eq_getElem hj) (List.getElem?_eq_getElem hj') e
      omega
/-- The last one that has a digest, where no two have it. -/
theorem lookS_one {ls : List St} {d : ByteArray} : ∀ {r : Option St}, (∀ s ∈ ls, s.dig ≠ d) → ls.foldl (fun r x => if x.dig = d then some x else r) r = r := by
  induction ls with
  | nil => exact fun _ => rfl
  | cons s t ih =>
    intro r h
    rw [List.foldl_cons, if_neg (h s (by simp))]
    exact ih fun x hx => h x (by simp [hx])
theorem lookS_none {ls : List St} {d : ByteArray} (h : ∀ s ∈ ls, s.dig ≠ d) : lookS ls d = none := lookS_one h
theorem ChainL.look (h : ChainL a l) {k : Nat} {s : St} (hs : l[k]? = some s) : lookS l s.dig = some s := by
  have hk := (List.getElem?_eq_some_iff.1 hs).1
  have e : l = l.take k ++ s :: l.drop (k + 1) := by
    have h1 := List.drop_eq_getElem_cons hk
    rw [← (List.getElem?_eq_some_iff.1 hs).2, ← h1, List.take_append_drop]
  have hd : ∀ x ∈ l.drop (k + 1), x.dig ≠ s.dig := fun x hx hxd => by
    obtain ⟨j, hj⟩ := List.mem_iff_getElem?.1 hx
    rw [List.getElem?_drop] at hj
    have := h.dist _ _ _ _ hj hs hxd
    omega
  unfold lookS
  conv => lhs; rw [e]
  rw [List.foldl_append, List.foldl_cons, if_pos rfl]
  exact lookS_one hd
theorem ChainL.before (h : ChainL a l) {k : Nat} {s t : St} (hs : l[k]? = some s) (ht : l[k + 1]? = some t) : beforeS l t = some s := by
  have hf := h.fol k s t hs ht
  unfold beforeS
  rw [(followsL_iff.1 hf).2.2.1, h.look hs]
  simp [Option.filter, hf]
theorem ChainL.before0 (h : ChainL a l) {s : St} (hs : l[0]? = some s) : beforeS l s = none := by
  unfold beforeS
  rw [h.first s hs, lookS_none fun x hx e => ?_]
  · rfl
  · have := sealedB_dig (okB_iff'.1 (h.ok x hx)).2.2
    rw [e] at this
    have h2 := congrArg ByteArray.size this
    rw [sha_size] at h2
    cases h2
theorem ChainL.back (h : ChainL a l) : ∀ (k f : Nat) (s : St), l[k]? = some s → k < f → backS l f s = (l.take (k + 1)).reverse
  | 0, f, s, hs, hf => by
    obtain ⟨g, rfl⟩ : ∃ g, f = g + 1 := ⟨f - 1, by omega⟩
    rw [backS, h.before0 hs, List.take_add_one, hs]
    simp
  | k + 1, f, t, ht, hf => by
    obtain ⟨g, rfl⟩ : ∃ g, f = g + 1 := ⟨f - 1, by omega⟩
    obtain ⟨s, hs⟩ : ∃ s, l[k]? = some s := ⟨_, List.getElem?_eq_getElem (by have := (List.getElem?_eq_some_iff.1 ht).1; omega)⟩
    rw [backS, h.before hs ht]
    show t :: backS l g s = _
    rw [h.back k g s hs (by omega), List.take_add_one (i := k + 1), ht]
    simp
theorem ChainL.branch (h : ChainL a l) {k : Nat} {s : St} (hs : l[k]? = some s) (hk : k + 1 = l.length) : branchS l s.dig = some l := by
  unfold branchS
  rw [h.look hs]
  have hl := h.len
  simp only [Option.bind_some]
  rw [h.back k 201 s hs (by omega), List.reverse_reverse, List.take_of_length_le (by omega)]
  rw [if_pos]
  rw [List.any_eq_true]
  obtain ⟨z, hz⟩ : ∃ z, l[0]? = some z := ⟨_, List.getElem?_eq_getElem (by omega)⟩
  exact ⟨z, by rw [List.mem_reverse]; exact List.mem_of_getElem? hz, decide_eq_true (by rw [h.num 0 z hz]; rfl)⟩
theorem cmpRow_gt {s t : St} (h : t.number < s.number) : cmpRow s t < 0 := by
  have e : cmpI t.number s.number = -1 := by unfold cmpI; rw [if_pos h]
  unfold cmpRow
  rw [e, List.find?_cons_of_pos (by decide)]
  decide
theorem ChainL.min (h : ChainL a l) : ∀ (k : Nat) (s : St), l[k]? = some s → minN l k = s
  | 0, s, hs => by
    cases l with
    | nil => cases hs
    | cons x r => simp at hs; subst hs; rfl
  | k + 1, t, ht => by
    obtain ⟨s, hs⟩ : ∃ s, l[k]? = some s := ⟨_, List.getElem?_eq_getElem (by have := (List.getElem?_eq_some_iff.1 ht).1; omega)⟩
    rw [minN_succ ht, h.min k s hs, if_pos (cmpRow_gt (by rw [h.num _ _ hs, h.num _ _ ht]; omega))]
theorem ChainL.row (h : ChainL a l) : RowIs a l := by
  refine ⟨h.auth, fun ls hls hl => ?_⟩
  rw [h.links hls]
  obtain ⟨s, hs⟩ : ∃ s, l[l.length - 1]? = some s := ⟨_, List.getElem?_eq_getElem (by omega)⟩
  rw [h.min _ s hs, ← sealedB_dig (h.okG hs).2.2]
  exact h.branch hs (by omega)
/-! What the reference makes of a row that is in order -/
theorem ownFold_sorted : ∀ (l acc : List St), (∀ t ∈ acc, ∀ s ∈ l, ltND t s = true) → l.Pairwise (fun x y => ltND x y = true) → l.foldl ownPut acc = acc ++ l := by
  intro l
  induction l with
  | nil => intro acc _ _; simp
  | cons s r ih =>
    intro acc h1 h2
    rw [List.foldl_cons]
    have hu : upPos acc s = acc.length := upPos_eq (Nat.le_refl _) (fun i t hi ht => h1 t (List.mem_of_getElem? ht) s (by simp)) (fun t ht => by rw [List.getElem?_eq_none (Nat.le_refl _)] at ht; cases ht)
    rw [ownPut_new hu (fun t ht => by rw [List.getElem?_eq_none (Nat.le_refl _)] at ht; cases ht)]
    rw [List.take_length, List.drop_length, List.append_nil, ih]
    · simp
    · intro t ht x hx
      rcases List.mem_append.1 ht with ht | ht
      · exact h1 t ht x (by simp [hx])
      · rw [List.mem_singleton.1 ht]
        exact (List.pairwise_cons.1 h2).1 x hx
    · exact (List.pairwise_cons.1 h2).2
theorem ltND_ltA {s t : St} (ha : s.author = t.author) (h : ltA s t = true) : ltND s t = true := by
  unfold ltA ltNDs lssS at h
  unfold ltND
  simp only [Bool.or_eq_true, Bool.and_eq_true, decide_eq_true_eq] at h ⊢
  rcases h with h | ⟨_, h⟩
  · omega
  · exact h
theorem ownOK_okB (a : Int) (s : St) : ownOK a s = okB a s := rfl
theorem own_sorted (h1 : ∀ s ∈ l, okB a s = true) (h2 : l.Pairwise fun x y => ltA x y = true) : ownI a l = l := by
  unfold ownI
  rw [List.filter_eq_self.2 (fun s hs => by rw [ownOK_okB]; exact h1 s hs), ownFold_sorted]
  · simp
  · intro t ht; cases ht
  · rw [List.pairwise_iff_getElem] at h2 ⊢
    intro i j hi hj hij
    exact ltND_ltA ((okB_iff'.1 (h1 _ (List.getElem_mem hi))).1.trans (okB_iff'.1 (h1 _ (List.getElem_mem hj))).1.symm) (h2 i j hi hj hij)
theorem follows_of {s t : St} (h : followsL s t = true) (hs : sealedB s = true) (hn : 0 ≤ s.number ∧ s.number ≤ 1000) : followsB s t = true := by
  obtain ⟨h1, h2, h3, h4⟩ := followsL_iff.1 h
  exact followsB_iff.2 ⟨h1, by omega, by rw [h2]; unfold wrap64; omega, by rw [h3]; exact sealedB_dig hs, h4⟩
theorem ChainL.folB (h : ChainL a l) {k : Nat} {s t : St} (hs : l[k]? = some s) (ht : l[k + 1]? = some t) : followsB s t = true :=
  follows_of (h.fol k s t hs ht) (h.okG hs).2.2 (by have := h.num k s hs; have := h.len; have := (List.getElem?_eq_some_iff.1 hs).1; omega)
theorem ChainL.good (h : ChainL a l) {k : Nat} (hk : k < l.length) : goodAt l k = true := by
  have hs := List.getElem?_eq_getElem hk
  refine goodAt_yes hs (decide_eq_true (h.num k _ hs)) (fun t ht => decide_eq_false (by have := h.num _ _ ht; omega)) ?_
  cases k with
  | zero => exact .inl rfl
  | succ j =>
    have hj := List.getElem?_eq_getElem (show j < l.length by omega)
    exact .inr ⟨_, hj, h.folB hj hs, decide_eq_false (h.kind _ (List.mem_of_getElem? hj))⟩
theorem countTo_upto {own : List St} {m : Nat} (h : ∀ k, k < m → goodAt own k = true) (hm : goodAt own m = false) : ∀ j, j ≤ m → countTo own j = m := by
  intro j hj
  obtain ⟨d, hd⟩ : ∃ d, d = m - j := ⟨_, rfl⟩
  induction d generalizing j with
  | zero => obtain rfl : j = m := by omega
            exact countTo_stop hm
  | succ d ih => rw [countTo_go (h j (by omega))]; exact ih (j + 1) (by omega) (by omega)
theorem ChainL.counted (h : ChainL a l) : (countedI a l).length = l.length := by
  unfold countedI
  rw [own_sorted h.ok h.rising, countTo_upto (m := l.length) (fun k hk => h.good hk) (goodAt_none (Nat.le_refl _)) 0 (by omega), List.length_take, Nat.min_self]
/-! One more statement with a number that is there -/
/-- Where a second statement with the number m stands. -/
structure ForkL (a : Int) (l : List St) (x : St) (m p : Nat) (q : List St) : Prop where
  row : q = l.take p ++ [x] ++ l.drop p
  place : p = m ∨ p = m + 1
  rising : q.Pairwise fun x y => ltA x y = true
theorem ChainL.put (h : ChainL a l) {x : St} {m : Nat} {y : St} (hy : l[m]? = some y) (hx : okB a x = true) (hn : x.number = (m : Int)) (hd : y.dig ≠ x.dig) {l' : List St} {u : Value} {c : Int} (hadd : AddV l x l' u c) :
    c = 0 ∧ ∃ p, ForkL a l x m p l' := by
  have hxo := okB_iff'.1 hx
  have hne : ∀ z ∈ l, cmpA z x ≠ 0 := fun z hz e => by
    obtain ⟨j, hj⟩ := List.mem_iff_getElem?.1 hz
    obtain ⟨_, e2, e3⟩ := cmpA_zero.1 e
    have := h.num j z hj
    have : j = m := by omega
    subst this
    rw [hy] at hj
    exact hd (by rw [Option.some.inj hj]; exact e3)
  obtain ⟨b, rfl, hadd⟩ := hadd
  have hv := h.valid
  have hl := h.len
  rcases hadd with ⟨h1, _⟩ | ⟨_, h1, _⟩ | ⟨_, _, h1, _⟩ | ⟨_, _, _, k, there, ⟨hk, hlo, hhi, ht⟩, hadd⟩
  · rw [hv] at h1; cases h1
  · exact absurd hxo.2.1 h1
  · rw [hxo.2.2] at h1; cases h1
  have hth : there = false := by
    cases there with
    | false => rfl
    | true =>
      obtain ⟨z, hz, hzx⟩ := ht.1 rfl
      exact absurd hzx (hne z (List.mem_of_getElem? hz))
  subst hth
  have hp : putA l x k false = l.take k ++ [x] ++ l.drop k := rfl
  have hpl : (putA l x k false).length = l.length + 1 := by rw [hp]; simp; omega
  rcases hadd with ⟨h1, _⟩ | ⟨_, rfl, _, rfl⟩
  · omega
  have hml := (List.getElem?_eq_some_iff.1 hy).1
  have hgt : ∀ t z, k ≤ t → l[t]? = some z → ltA x z = true := fun t z hkt hz => by
    have h1 := hhi t z hkt hz
    cases h2 : ltA x z with
    | true => rfl
    | false => exact absurd (cmpA_zero.2 (ltA_tri h1 h2)) (hne z (List.mem_of_getElem? hz))
  refine ⟨rfl, k, hp, ?_, ?_⟩
  · have h1 : m ≤ k := Nat.le_of_not_lt fun hlt => by
      obtain ⟨z, hz⟩ : ∃ z, l[k]? = some z := ⟨_, List.getElem?_eq_getElem (by omega)⟩
      have h2 := hhi k z (Nat.le_refl _) hz
      rw [lt_num ((h.okG hz).1.trans hxo.1.symm) (by rw [h.num k z hz, hn]; omega)] at h2
      cases h2
    have h2 : k ≤ m + 1 := Nat.le_of_not_lt fun hlt => by
      obtain ⟨z, hz⟩ : ∃ z, l[m + 1]? = some z := ⟨_, List.getElem?_eq_getElem (by omega)⟩
      have h3 := hlo (m + 1) z hlt hz
      rw [show ltA z x = false from ?_] at h3
      · cases h3
      · cases h4 : ltA z x with
        | false => rfl
        | true =>
          exfalso
          have h5 := ltA_trans h4 (lt_num (hxo.1.trans (h.okG hz).1.symm) (by rw [h.num _ z hz, hn]; omega))
          rw [ltA_irrefl] at h5
          cases h5
    omega
  · rw [hp, List.append_assoc, List.pairwise_append]
    refine ⟨h.rising.sublist (List.take_sublist _ _), ?_, ?_⟩
    · rw [List.singleton_append, List.pairwise_cons]
      refine ⟨fun z hz => ?_, h.rising.sublist (List.drop_sublist _ _)⟩
      obtain ⟨j, hj⟩ := List.mem_iff_getElem?.1 hz
      rw [List.getElem?_drop] at hj
      exact hgt _ z (by omega) hj
    · intro z hz w hw
      obtain ⟨i, hi⟩ := List.mem_iff_getElem?.1 hz
      have hik : i < k := by have := (List.getElem?_eq_some_iff.1 hi).1; simp at this; omega
      rw [List.getElem?_take_of_lt hik] at hi
      rw [List.singleton_append, List.mem_cons] at hw
      rcases hw with rfl | hw
      · exact hlo i z hik hi
      · obtain ⟨j, hj⟩ := List.mem_iff_getElem?.1 hw
        rw [List.getElem?_drop] at hj
        exact h.lt (by omega) hi hj
end
section
variable {a : Int} {l q : List St} {x : St} {m p : Nat}
theorem ForkL.ok (f : ForkL a l x m p q) (h : ChainL a l) (hx : okB a x = true) : ∀ s ∈ q, okB a s = true := fun s hs => by
  rw [f.row] at hs
  simp only [List.mem_append, List.mem_singleton] at hs
  rcases hs with (hs | rfl) | hs
  · exact h.ok s (List.mem_of_mem_take hs)
  · exact hx
  · exact h.ok s (List.mem_of_mem_drop hs)
theorem ForkL.len (f : ForkL a l x m p q) (_hm : m < l.length) : q.length = l.length + 1 := by
  have := f.place
  rw [f.row]; simp; omega
theorem ForkL.valid (f : ForkL a l x m p q) (h : ChainL a l) (hx : okB a x = true) (hm : m < l.length) : validB q = true :=
  validB_of (by have := f.len hm; have := h.len; omega) (fun s hs => (okB_iff'.1 (f.ok h hx s hs)).2) f.rising
theorem ForkL.own (f : ForkL a l x m p q) (h : ChainL a l) (hx : okB a x = true) : ownI a q = q := own_sorted (f.ok h hx) f.rising
theorem ForkL.get (f : ForkL a l x m p q) (hm : m < l.length) (k : Nat) : q[k]? = if k < p then l[k]? else if k = p then some x else l[k - 1]? := by
  have := f.place
  rw [f.row, List.append_assoc]
  by_cases h1 : k < p
  · rw [if_pos h1, List.getElem?_append_left (by simp; omega), List.getElem?_take_of_lt h1]
  · rw [if_neg h1, List.getElem?_append_right (by simp; omega), List.length_take, Nat.min_eq_left (by omega)]
    by_cases h2 : k = p
    · subst h2; rw [if_pos rfl, Nat.sub_self]; rfl
    · rw [if_neg h2, List.singleton_append]
      obtain ⟨d, hd⟩ : ∃ d, k = p + 1 + d := ⟨k - p - 1, by omega⟩
      subst hd
      rw [show p + 1 + d - p = d + 1 by omega, List.getElem?_cons_succ, List.getElem?_drop]
      congr 1
      omega
/-- Ahead of the fork the numbers are the places; the fork is at m and m + 1. -/
theorem ForkL.num (f : ForkL a l x m p q) (h : ChainL a l) (hn : x.number = (m : Int)) (hm : m < l.length) (k : Nat) (s : St) (hs : q[k]? = some s) : s.number = if k ≤ m then (k : Int) else ((k - 1 : Nat) : Int) := by
  have hp := f.place
  rw [f.get hm] at hs
  by_cases h1 : k < p
  · rw [if_pos h1] at hs
    rw [h.num k s hs, if_pos (by omega)]
  · rw [if_neg h1] at hs
    by_cases h2 : k = p
    · rw [if_pos h2] at hs
      cases hs
      rw [hn]
      split <;> omega
    · rw [if_neg h2] at hs
      rw [h.num _ s hs, if_neg (by omega)]
theorem ForkL.counted (f : ForkL a l x m p q) (h : ChainL a l) (hx : okB a x = true) (hn : x.number = (m : Int)) (hm : m < l.length) : (countedI a q).length = m := by
  unfold countedI
  rw [f.own h hx]
  have hp := f.place
  have hql := f.len hm
  have hbad : goodAt q m = false := by
    have h1 := List.getElem?_eq_getElem (show m < q.length by omega)
    have h2 := List.getElem?_eq_getElem (show m + 1 < q.length by omega)
    refine goodAt_two h1 h2 (decide_eq_true ?_)
    rw [f.num h hn hm _ _ h2, if_neg (by omega)]
    simp
  have hgood : ∀ k, k < m → goodAt q k = true := fun k hk => by
    have e1 : q[k]? = l[k]? := by rw [f.get hm, if_pos (by omega)]
    have hs := List.getElem?_eq_getElem (show k < l.length by omega)
    refine goodAt_yes (e1.trans hs) (decide_eq_true (h.num k _ hs)) (fun t ht => decide_eq_false ?_) ?_
    · rw [f.num h hn hm _ t ht, if_pos (by omega)]; omega
    · cases k with
      | zero => exact .inl rfl
      | succ j =>
        have hj := List.getElem?_eq_getElem (show j < l.length by omega)
        have e2 : q[j]? = l[j]? := by rw [f.get hm, if_pos (by omega)]
        exact .inr ⟨_, e2.trans hj, h.folB hj hs, decide_eq_false (h.kind _ (List.mem_of_getElem? hj))⟩
  rw [countTo_upto hgood hbad 0 (by omega), List.length_take]
  omega
end
end Go.Proofs.YtaakacahblndcaaGreat

namespace Go.Proofs.YtaakacahblndcaaGreat
open Go.RowKit Go.Sort

def wlA : List (List UInt32) := [[3295494513, 2520394085, 3167141325, 1046460867, 850255917, 1538429382, 2411236272, 3267458248], [2497193894, 2728640958, 1226367499, 1632281388, 174149891, 2549988299, 3636383021, 790804176], [347823916, 2548064146, 2373539873, 609881051, 3249077014, 196637509, 3875996599, 610422466], [2370047788, 3260433128, 3848990722, 3953424255, 1276447031, 3937025379, 592454443, 4211293079], [2028841114, 1661771571, 1413219564, 1602385319, 3376517481, 2702049844, 2134748867, 181578802], [642658451, 872563927, 2937690809, 976818838, 2581959768, 3411352011, 4241109459, 2633997527]]
def wlV : List (List UInt32) := [[2368476823, 911259727, 2765018485, 1373945813, 3082793547, 1237333097, 440104930, 4111262275], [901917778, 852601114, 3494200608, 64644762, 4012759280, 1687578018, 990519110, 3499946649], [3242644803, 3062692707, 3589316880, 2877792939, 137004250, 2028936745, 2228281439, 222369101], [487346335, 2621984132, 1222358689, 1017787020, 1374896100, 1695031886, 3138919879, 734481992], [3838330068, 1200034129, 1824005457, 2053541493, 345907418, 3674500281, 3950717277, 4100166650], [544727845, 315327137, 2040711624, 3468176062, 248328307, 4002188061, 3626366595, 889158141]]
def digA (i : Nat) : ByteArray := dgW (wlA.getD i [])
def prevA (i : Nat) : ByteArray := if i = 0 then ⟨#[]⟩ else digA (i - 1)
/-- The statement with the number i. -/
def sA (i : Nat) : St := ⟨((2 : Nat) : Int), (i : Int), prevA i, ((3 * i : Nat) : Int), ((11 : Nat) : Int), (i : Int), 0, 0, [], [], ⟨#[]⟩, ((2 : Nat) : Int), digA i⟩
def lA (n : Nat) : List St := (List.range n).map sA
/-- What stands in its place. -/
def timeX (m : Nat) : Nat := 3 * (m - 1)
def sX (m : Nat) : St := ⟨((2 : Nat) : Int), (m : Int), prevA m, ((timeX m : Nat) : Int), ((11 : Nat) : Int), ((77 : Nat) : Int), 0, 0, [], [], ⟨#[]⟩, ((2 : Nat) : Int), dgW (wlV.getD m [])⟩
theorem shaA0 : sha (stB (sA 0)) = digA 0 := shaOf2 (by decide) (by kernel_rfl : stN2 2 0 0 11 0 0 0 lk8 = [3295494513, 2520394085, 3167141325, 1046460867, 850255917, 1538429382, 2411236272, 3267458248])
theorem shaX0 : sha (stB (sX 0)) = dgW (wlV.getD 0 []) := shaOf2 (by decide) (by kernel_rfl : stN2 2 0 0 11 77 0 0 lk8 = [2368476823, 911259727, 2765018485, 1373945813, 3082793547, 1237333097, 440104930, 4111262275])
theorem shaA1 : sha (stB (sA 1)) = digA 1 := shaOf3 (by decide) (by kernel_rfl : stN3 2 1 (3295494513 : UInt32).toNat (2520394085 : UInt32).toNat (3167141325 : UInt32).toNat (1046460867 : UInt32).toNat (850255917 : UInt32).toNat (1538429382 : UInt32).toNat (2411236272 : UInt32).toNat (3267458248 : UInt32).toNat 3 11 1 0 0 lk8 = [2497193894, 2728640958, 1226367499, 1632281388, 174149891, 2549988299, 3636383021, 790804176])
theorem shaX1 : sha (stB (sX 1)) = dgW (wlV.getD 1 []) := shaOf3 (by decide) (by kernel_rfl : stN3 2 1 (3295494513 : UInt32).toNat (2520394085 : UInt32).toNat (3167141325 : UInt32).toNat (1046460867 : UInt32).toNat (850255917 : UInt32).toNat (1538429382 : UInt32).toNat (2411236272 : UInt32).toNat (3267458248 : UInt32).toNat 0 11 77 0 0 lk8 = [901917778, 852601114, 3494200608, 64644762, 4012759280, 1687578018, 990519110, 3499946649])
theorem shaA2 : sha (stB (sA 2)) = digA 2 := shaOf3 (by decide) (by kernel_rfl : stN3 2 2 (2497193894 : UInt32).toNat (2728640958 : UInt32).toNat (1226367499 : UInt32).toNat (1632281388 : UInt32).toNat (174149891 : UInt32).toNat (2549988299 : UInt32).toNat (3636383021 : UInt32).toNat (790804176 : UInt32).toNat 6 11 2 0 0 lk8 = [347823916, 2548064146, 2373539873, 609881051, 3249077014, 196637509, 3875996599, 610422466])
theorem shaX2 : sha (stB (sX 2)) = dgW (wlV.getD 2 []) := shaOf3 (by decide) (by kernel_rfl : stN3 2 2 (2497193894 : UInt32).toNat (2728640958 : UInt32).toNat (1226367499 : UInt32).toNat (1632281388 : UInt32).toNat (174149891 : UInt32).toNat (2549988299 : UInt32).toNat (3636383021 : UInt32).toNat (790804176 : UInt32).toNat 3 11 77 0 0 lk8 = [3242644803, 3062692707, 3589316880, 2877792939, 137004250, 2028936745, 2228281439, 222369101])
theorem shaA3 : sha (stB (sA 3)) = digA 3 := shaOf3 (by decide) (by kernel_rfl : stN3 2 3 (347823916 : UInt32).toNat (2548064146 : UInt32).toNat (2373539873 : UInt32).toNat (609881051 : UInt32).toNat (3249077014 : UInt32).toNat (196637509 : UInt32).toNat (3875996599 : UInt32).toNat (610422466 : UInt32).toNat 9 11 3 0 0 lk8 = [2370047788, 3260433128, 3848990722, 3953424255, 1276447031, 3937025379, 592454443, 4211293079])
theorem shaX3 : sha (stB (sX 3)) = dgW (wlV.getD 3 []) := shaOf3 (by decide) (by kernel_rfl : stN3 2 3 (347823916 : UInt32).toNat (2548064146 : UInt32).toNat (2373539873 : UInt32).toNat (609881051 : UInt32).toNat (3249077014 : UInt32).toNat (196637509 : UInt32).toNat (3875996599 : UInt32).toNat (610422466 : UInt32).toNat 6 11 77 0 0 lk8 = [487346335, 2621984132, 1222358689, 1017787020, 1374896100, 1695031886, 3138919879, 734481992])
theorem shaA4 : sha (stB (sA 4)) = digA 4 := shaOf3 (by decide) (by kernel_rfl : stN3 2 4 (2370047788 : UInt32).toNat (3260433128 : UInt32).toNat (3848990722 : UInt32).toNat (3953424255 : UInt32).toNat (1276447031 : UInt32).toNat (3937025379 : UInt32).toNat (592454443 : UInt32).toNat (4211293079 : UInt32).toNat 12 11 4 0 0 lk8 = [2028841114, 1661771571, 1413219564, 1602385319, 3376517481, 2702049844, 2134748867, 181578802])
theorem shaX4 : sha (stB (sX 4)) = dgW (wlV.getD 4 []) := shaOf3 (by decide) (by kernel_rfl : stN3 2 4 (2370047788 : UInt32).toNat (3260433128 : UInt32).toNat (3848990722 : UInt32).toNat (3953424255 : UInt32).toNat (1276447031 : UInt32).toNat (3937025379 : UInt32).toNat (592454443 : UInt32).toNat (4211293079 : UInt32).toNat 9 11 77 0 0 lk8 = [3838330068, 1200034129, 1824005457, 2053541493, 345907418, 3674500281, 3950717277, 4100166650])
theorem shaA5 : sha (stB (sA 5)) = digA 5 := shaOf3 (by decide) (by kernel_rfl : stN3 2 5 (2028841114 : UInt32).toNat (1661771571 : UInt32).toNat (1413219564 : UInt32).toNat (1602385319 : UInt32).toNat (3376517481 : UInt32).toNat (2702049844 : UInt32).toNat (2134748867 : UInt32).toNat (181578802 : UInt32).toNat 15 11 5 0 0 lk8 = [642658451, 872563927, 2937690809, 976818838, 2581959768, 3411352011, 4241109459, 2633997527])
theorem shaX5 : sha (stB (sX 5)) = dgW (wlV.getD 5 []) := shaOf3 (by decide) (by kernel_rfl : stN3 2 5 (2028841114 : UInt32).toNat (1661771571 : UInt32).toNat (1413219564 : UInt32).toNat (1602385319 : UInt32).toNat (3376517481 : UInt32).toNat (2702049844 : UInt32).toNat (2134748867 : UInt32).toNat (181578802 : UInt32).toNat 12 11 77 0 0 lk8 = [544727845, 315327137, 2040711624, 3468176062, 248328307, 4002188061, 3626366595, 889158141])
theorem six {p : Nat → Prop} (h0 : p 0) (h1 : p 1) (h2 : p 2) (h3 : p 3) (h4 : p 4) (h5 : p 5) (i : Nat) (hi : i < 6) : p i := by
  rcases (by omega : i = 0 ∨ i = 1 ∨ i = 2 ∨ i = 3 ∨ i = 4 ∨ i = 5) with rfl | rfl | rfl | rfl | rfl | rfl <;> assumption
theorem shaA (i : Nat) (hi : i < 6) : sha (stB (sA i)) = digA i := six (p := fun i => sha (stB (sA i)) = digA i) shaA0 shaA1 shaA2 shaA3 shaA4 shaA5 i hi
theorem shaX (i : Nat) (hi : i < 6) : sha (stB (sX i)) = dgW (wlV.getD i []) := six (p := fun i => sha (stB (sX i)) = dgW (wlV.getD i [])) shaX0 shaX1 shaX2 shaX3 shaX4 shaX5 i hi
theorem wlA_len (i : Nat) (hi : i < 6) : (wlA.getD i []).length = 8 := six (p := fun i => (wlA.getD i []).length = 8) rfl rfl rfl rfl rfl rfl i hi
theorem prevA_size (i : Nat) (h0 : 0 < i) (hi : i < 7) : (prevA i).size = 32 := by
  unfold prevA digA
  rw [if_neg (by omega)]
  exact dgW_size _ (wlA_len _ (by omega))
theorem digA_inj (i j : Nat) (hi : i < 6) (hj : j < 6) (h : digA i = digA j) : i = j := by
  have e : ∀ i, i < 6 → ∃ r, wlA.getD i [] = (wlA.getD i []).headD 0 :: r := six ⟨_, rfl⟩ ⟨_, rfl⟩ ⟨_, rfl⟩ ⟨_, rfl⟩ ⟨_, rfl⟩ ⟨_, rfl⟩
  unfold digA at h
  obtain ⟨r1, e1⟩ := e i hi
  obtain ⟨r2, e2⟩ := e j hj
  rw [e1, e2] at h
  have h1 := dgW_head h
  have hd : ∀ i j : Fin 6, (wlA.getD i.val []).headD 0 = (wlA.getD j.val []).headD 0 → i = j := by decide
  exact congrArg Fin.val (hd ⟨i, hi⟩ ⟨j, hj⟩ h1)
theorem digX_ne (i : Nat) (hi : i < 6) : digA i ≠ dgW (wlV.getD i []) := fun h => by
  have e : ∀ i, i < 6 → (∃ r, wlA.getD i [] = (wlA.getD i []).headD 0 :: r) ∧ (∃ r, wlV.getD i [] = (wlV.getD i []).headD 0 :: r) := six ⟨⟨_, rfl⟩, ⟨_, rfl⟩⟩ ⟨⟨_, rfl⟩, ⟨_, rfl⟩⟩ ⟨⟨_, rfl⟩, ⟨_, rfl⟩⟩ ⟨⟨_, rfl⟩, ⟨_, rfl⟩⟩ ⟨⟨_, rfl⟩, ⟨_, rfl⟩⟩ ⟨⟨_, rfl⟩, ⟨_, rfl⟩⟩
  unfold digA at h
  obtain ⟨⟨r1, e1⟩, ⟨r2, e2⟩⟩ := e i hi
  rw [e1, e2] at h
  have h1 := dgW_head h
  have hd : ∀ i : Fin 6, (wlA.getD i.val []).headD 0 ≠ (wlV.getD i.val []).headD 0 := by decide
  exact hd ⟨i, hi⟩ h1
theorem sA_ok (i : Nat) (hi : i < 6) : okB 2 (sA i) = true := by
  refine okB_iff'.2 ⟨rfl, ?_, ?_⟩
  · exact plain_check (by decide) (by omega) (fun h => by subst h; rfl) (fun h => prevA_size i h (by omega)) (by omega) (by decide) (by omega)
  · unfold sealedB
    rw [shaA i hi]
    simp [sA]
theorem sX_ok (i : Nat) (hi : i < 6) : okB 2 (sX i) = true := by
  refine okB_iff'.2 ⟨rfl, ?_, ?_⟩
  · exact plain_check (by decide) (by omega) (fun h => by subst h; rfl) (fun h => prevA_size i h (by omega)) (by unfold timeX; omega) (by decide) (by decide)
  · unfold sealedB
    rw [shaX i hi]
    simp [sX]
theorem lA_len (n : Nat) : (lA n).length = n := by simp [lA]
theorem lA_get {n k : Nat} {s : St} (h : (lA n)[k]? = some s) : k < n ∧ s = sA k := by
  have hk := (List.getElem?_eq_some_iff.1 h).1
  rw [lA_len] at hk
  unfold lA at h
  rw [List.getElem?_map, List.getElem?_range hk] at h
  exact ⟨hk, (Option.some.inj h).symm⟩
theorem lA_at {n k : Nat} (h : k < n) : (lA n)[k]? = some (sA k) := by
  unfold lA; rw [List.getElem?_map, List.getElem?_range h]; rfl
theorem lA_succ (n : Nat) : lA (n + 1) = lA n ++ [sA n] := by simp [lA, List.range_succ]
theorem lA_chain (n : Nat) (hn : n ≤ 6) : ChainL 2 (lA n) := by
  refine ⟨fun s hs => ?_, fun k s hs => ?_, fun k s t hs ht => ?_, fun i j s t hs ht e => ?_, fun s hs => ?_, fun s hs => ?_, by rw [lA_len]; omega⟩
  · obtain ⟨k, hk⟩ := List.mem_iff_getElem?.1 hs
    obtain ⟨h1, rfl⟩ := lA_get hk
    exact sA_ok k (by omega)
  · obtain ⟨_, rfl⟩ := lA_get hs
    rfl
  · obtain ⟨h1, rfl⟩ := lA_get hs
    obtain ⟨h2, rfl⟩ := lA_get ht
    exact followsL_iff.2 ⟨rfl, by show ((k + 1 : Nat) : Int) = _; exact Int.natCast_succ k, by show prevA (k + 1) = digA k; unfold prevA; rw [if_neg (by omega)]; rfl, by show ((3 * k : Nat) : Int) ≤ ((3 * (k + 1) : Nat) : Int); omega⟩
  · obtain ⟨h1, rfl⟩ := lA_get hs
    obtain ⟨h2, rfl⟩ := lA_get ht
    exact digA_inj i j (by omega) (by omega) e
  · obtain ⟨_, rfl⟩ := lA_get hs
    rfl
  · obtain ⟨k, hk⟩ := List.mem_iff_getElem?.1 hs
    obtain ⟨_, rfl⟩ := lA_get hk
    show ((11 : Nat) : Int) ≠ 3
    decide
/-- What attacker.Write writes behind the end. -/
theorem wrA (n : Nat) (hn : n < 6) : sealS (wrS 2 11 (n : Int) (3 * (n : Int)) (lA n) n) = sA n := by
  have e : wrS 2 11 (n : Int) (3 * (n : Int)) (lA n) n = { sA n with key := 0, dig := ⟨#[]⟩ } := by
    cases n with
    | zero => rfl
    | succ j =>
      unfold wrS
      simp only
      have hj : (lA (j + 1)).getD j default = sA j := by rw [List.getD_eq_getElem?_getD, lA_at (by omega)]; rfl
      rw [hj, shaA j (by omega)]
      have ht : max (3 * ((j + 1 : Nat) : Int)) (sA j).time = ((3 * (j + 1) : Nat) : Int) := by
        show max (3 * ((j + 1 : Nat) : Int)) ((3 * j : Nat) : Int) = _
        omega
      rw [ht]
      unfold sA prevA
      rw [if_neg (by omega)]
      rfl
  rw [e]
  unfold sealS
  show { sA n with key := 2, dig := sha (stB { sA n with key := 0, dig := ⟨#[]⟩ }) } = sA n
  rw [show stB { sA n with key := 0, dig := ⟨#[]⟩ } = stB (sA n) from rfl, shaA n hn]
  rfl
theorem wrA_check (n : Nat) (hn : n < 6) : checkI (wrS 2 11 (n : Int) (3 * (n : Int)) (lA n) n) = 0 := by
  have h := (okB_iff'.1 (sA_ok n hn)).2.1
  rw [← wrA n hn] at h
  exact h
/-- What it writes behind an earlier one. -/
theorem wrX (n m : Nat) (hn : n ≤ 6) (hm : m < n) : sealS (wrS 2 11 77 0 (lA n) m) = sX m := by
  have e : wrS 2 11 77 0 (lA n) m = { sX m with key := 0, dig := ⟨#[]⟩ } := by
    cases m with
    | zero => rfl
    | succ j =>
      unfold wrS
      simp only
      have hj : (lA n).getD j default = sA j := by rw [List.getD_eq_getElem?_getD, lA_at (by omega)]; rfl
      rw [hj, shaA j (by omega)]
      have ht : max (0 : Int) (sA j).time = ((timeX (j + 1) : Nat) : Int) := by
        show max (0 : Int) ((3 * j : Nat) : Int) = ((3 * (j + 1 - 1) : Nat) : Int)
        omega
      rw [ht]
      unfold sX prevA
      rw [if_neg (by omega)]
      rfl
  rw [e]
  unfold sealS
  show { sX m with key := 2, dig := sha (stB { sX m with key := 0, dig := ⟨#[]⟩ }) } = sX m
  rw [show stB { sX m with key := 0, dig := ⟨#[]⟩ } = stB (sX m) from rfl, shaX m (by omega)]
  rfl
theorem wrX_check (n m : Nat) (hn : n ≤ 6) (hm : m < n) : checkI (wrS 2 11 77 0 (lA n) m) = 0 := by
  have h := (okB_iff'.1 (sX_ok m (by omega))).2.1
  rw [← wrX n m hn hm] at h
  exact h
theorem putA_new (n : Nat) (hn : n < 6) {l' : List St} {u : Value} {c : Int} (h : AddV (lA n) (sA n) l' u c) : l' = lA (n + 1) ∧ c = 0 := by
  have hc := lA_chain n (by omega)
  have ho := okB_iff'.1 (sA_ok n hn)
  have hne : ∀ y ∈ lA n, cmpA y (sA n) ≠ 0 := fun y hy e => by
    obtain ⟨j, hj⟩ := List.mem_iff_getElem?.1 hy
    obtain ⟨h1, rfl⟩ := lA_get hj
    have h2 := (cmpA_zero.1 e).2.1
    have h3 : (j : Int) = (n : Int) := h2
    omega
  rcases addV_new hc.valid ho.2.1 ho.2.2 hne h with ⟨h1, _⟩ | ⟨_, k, rfl, _, rfl⟩
  · rw [lA_len] at h1; omega
  · refine ⟨?_, rfl⟩
    obtain ⟨b, _, h⟩ := h
    rcases h with ⟨h1, _⟩ | ⟨_, h1, _⟩ | ⟨_, _, h1, _⟩ | ⟨_, _, _, j, there, ⟨hk, hlo, hhi, ht⟩, h⟩
    · rw [hc.valid] at h1; cases h1
    · exact absurd ho.2.1 h1
    · rw [ho.2.2] at h1; cases h1
    have hj : j = n := by
      rw [lA_len] at hk
      refine Nat.le_antisymm hk (Nat.le_of_not_lt fun hlt => ?_)
      have h1 := hhi j _ (Nat.le_refl _) (lA_at hlt)
      rw [lt_num (s := sA j) (t := sA n) rfl (by show (j : Int) < (n : Int); omega)] at h1
      cases h1
    subst hj
    have hth : there = false := by
      cases there with
      | false => rfl
      | true =>
        obtain ⟨z, hz, _⟩ := ht.1 rfl
        rw [List.getElem?_eq_none (by rw [lA_len]; omega)] at hz
        cases hz
    subst hth
    have hp : putA (lA j) (sA j) j false = lA (j + 1) := by
      show (lA j).take j ++ [sA j] ++ (lA j).drop j = _
      rw [List.take_of_length_le (by rw [lA_len]; omega), List.drop_of_length_le (by rw [lA_len]; omega), List.append_nil, lA_succ]
    rcases h with ⟨h1, _⟩ | ⟨_, h1, _⟩
    · rw [hp, lA_len] at h1; omega
    · rw [h1, hp]
theorem putX_new (n m : Nat) (hn : n ≤ 6) (hm : m < n) {l' : List St} {u : Value} {c : Int} (h : AddV (lA n) (sX m) l' u c) : c = 0 ∧ ∃ p, ForkL 2 (lA n) (sX m) m p l' :=
  (lA_chain n hn).put (lA_at hm) (sX_ok m (by omega)) rfl (digX_ne m (by omega)) h
theorem folX (n j : Nat) (hn : n ≤ 6) (hm : j + 1 < n) : followsB (sA j) (sX (j + 1)) = true := by
  refine follows_of (followsL_iff.2 ⟨rfl, ?_, ?_, ?_⟩) (okB_iff'.1 (sA_ok j (by omega))).2.2 ?_
  · show ((j + 1 : Nat) : Int) = _; exact Int.natCast_succ j
  · show prevA (j + 1) = digA j; unfold prevA; rw [if_neg (by omega)]; rfl
  · show ((3 * j : Nat) : Int) ≤ ((timeX (j + 1) : Nat) : Int); unfold timeX; omega
  · show 0 ≤ (j : Int) ∧ (j : Int) ≤ 1000; omega
/-! The sanity check's two statements -/
def sP : St := ⟨((3 : Nat) : Int), ((0 : Nat) : Int), ⟨#[]⟩, ((4 : Nat) : Int), ((11 : Nat) : Int), ((0 : Nat) : Int), 0, 0, [], [], ⟨#[]⟩, ((3 : Nat) : Int), dgW [563788955, 3208639456, 2309615855, 3812496103, 226096364, 3501572407, 1119025392, 1360185751]⟩
def sQ : St := ⟨((3 : Nat) : Int), ((0 : Nat) : Int), ⟨#[]⟩, ((4 : Nat) : Int), ((14 : Nat) : Int), ((0 : Nat) : Int), 0, 0, [], [], ⟨#[]⟩, ((3 : Nat) : Int), dgW [3163981378, 3715182664, 973116963, 3620972493, 338090284, 1706348575, 2970783590, 780861419]⟩
theorem shaP : sha (stB sP) = dgW [563788955, 3208639456, 2309615855, 3812496103, 226096364, 3501572407, 1119025392, 1360185751] := shaOf2 (by decide) (by kernel_rfl : stN2 3 0 4 11 0 0 0 lk8 = [563788955, 3208639456, 2309615855, 3812496103, 226096364, 3501572407, 1119025392, 1360185751])
theorem shaQ : sha (stB sQ) = dgW [3163981378, 3715182664, 973116963, 3620972493, 338090284, 1706348575, 2970783590, 780861419] := shaOf2 (by decide) (by kernel_rfl : stN2 3 0 4 14 0 0 0 lk8 = [3163981378, 3715182664, 973116963, 3620972493, 338090284, 1706348575, 2970783590, 780861419])
theorem sP_ok : okB 3 sP = true := okB_iff'.2 ⟨rfl, plain_check (by decide) (by decide) (fun _ => rfl) (fun h => absurd h (by decide)) (by decide) (by decide) (by decide), by unfold sealedB; rw [shaP]; simp [sP]⟩
theorem sQ_ok : okB 3 sQ = true := okB_iff'.2 ⟨rfl, plain_check (by decide) (by decide) (fun _ => rfl) (fun h => absurd h (by decide)) (by decide) (by decide) (by decide), by unfold sealedB; rw [shaQ]; simp [sQ]⟩
theorem digPQ : sP.dig ≠ sQ.dig := fun h => absurd (dgW_head h) (by decide)
theorem wrP : sealS (wrS 3 11 0 4 [] 0) = sP := by
  unfold sealS
  show { sP with key := 3, dig := sha (stB sP) } = sP
  rw [shaP]; rfl
theorem wrQ : sealS (wrS 3 14 0 4 [sP] 0) = sQ := by
  unfold sealS
  show { sQ with key := 3, dig := sha (stB sQ) } = sQ
  rw [shaQ]; rfl
theorem sP_chain : ChainL 3 [sP] := by
  refine ⟨fun s hs => by rw [List.mem_singleton.1 hs]; exact sP_ok, fun k s hs => ?_, fun k s t hs ht => ?_, fun i j s t hs ht e => ?_, fun s hs => by simp at hs; subst hs; rfl, fun s hs => by rw [List.mem_singleton.1 hs]; show ((11 : Nat) : Int) ≠ 3; decide, by simp⟩
  · cases k with
    | zero => simp at hs; subst hs; rfl
    | succ k => simp at hs
  · simp at ht
  · cases i <;> cases j <;> simp_all
end Go.Proofs.YtaakacahblndcaaGreat

namespace Go.Proofs.YtaakacahblndcaaGreat
open Go.RowKit Go.Sort

theorem bytesLess_irr : ∀ x : List UInt8, Op.bytesLess x x = false
  | [] => rfl
  | a :: x => by
    simp only [Op.bytesLess, bytesLess_irr x, Bool.and_false, Bool.or_false, decide_eq_false_iff_not, UInt8.lt_irrefl, not_false_eq_true]
theorem bytesLess_asym : ∀ x y : List UInt8, Op.bytesLess x y = true → Op.bytesLess y x = false
  | [], [], h => by simp [Op.bytesLess] at h
  | [], _ :: _, _ => rfl
  | _ :: _, [], h => by simp [Op.bytesLess] at h
  | a :: x, b :: y, h => by
    simp only [Op.bytesLess, Bool.or_eq_true, decide_eq_true_eq, Bool.and_eq_true, beq_iff_eq] at h
    simp only [Op.bytesLess, Bool.or_eq_false_iff, decide_eq_false_iff_not, Bool.and_eq_false_iff, beq_eq_false_iff_ne]
    rcases h with h | ⟨rfl, h⟩
    · rw [UInt8.lt_iff_toNat_lt] at h
      refine ⟨fun h2 => ?_, .inl fun e => ?_⟩
      · rw [UInt8.lt_iff_toNat_lt] at h2; omega
      · rw [e] at h; omega
    · exact ⟨UInt8.lt_irrefl _, .inr (bytesLess_asym x y h)⟩
theorem bytesLess_three : ∀ x y : List UInt8, Op.bytesLess x y = false → Op.bytesLess y x = false → x = y
  | [], [], _, _ => rfl
  | [], _ :: _, h, _ => by simp [Op.bytesLess] at h
  | _ :: _, [], _, h => by simp [Op.bytesLess] at h
  | a :: x, b :: y, h1, h2 => by
    simp only [Op.bytesLess, Bool.or_eq_false_iff, decide_eq_false_iff_not, Bool.and_eq_false_iff, beq_eq_false_iff_ne] at h1 h2
    have e : a = b := UInt8.toNat_inj.1 (by have l1 := h1.1; have l2 := h2.1; rw [UInt8.lt_iff_toNat_lt] at l1 l2; omega)
    subst e
    have h3 := h1.2.resolve_left (by simp)
    have h4 := h2.2.resolve_left (by simp)
    rw [bytesLess_three x y h3 h4]
theorem toList_same {x y : ByteArray} (h : x.toList = y.toList) : x = y := of_decide_eq_true (by rw [← toListB, h]; exact beq_self_eq_true _)
/-- Which of two digests comes first. -/
theorem pair_two (x y : St) (hne : x.dig ≠ y.dig) : ∃ h, (h = 1 ∨ h = 2) ∧ ∀ i k si sk, [x, y][i]? = some si → [x, y][k]? = some sk → Op.bytesLess si.dig.toList sk.dig.toList = decide (2 * i + k = h) := by
  have key : ∀ h, (Op.bytesLess x.dig.toList y.dig.toList = decide (1 = h)) → (Op.bytesLess y.dig.toList x.dig.toList = decide (2 = h)) → (h = 1 ∨ h = 2) → ∀ i k si sk, [x, y][i]? = some si → [x, y][k]? = some sk → Op.bytesLess si.dig.toList sk.dig.toList = decide (2 * i + k = h) := by
    intro h h1 h2 hh i k si sk hi hk
    match i, k with
    | 0, 0 => simp at hi hk; subst hi hk; rw [bytesLess_irr]; exact (decide_eq_false (by omega)).symm
    | 0, 1 => simp at hi hk; subst hi hk; exact h1
    | 1, 0 => simp at hi hk; subst hi hk; exact h2
    | 1, 1 => simp at hi hk; subst hi hk; rw [bytesLess_irr]; exact (decide_eq_false (by omega)).symm
    | i + 2, _ => simp at hi
    | _, k + 2 => simp at hk
  cases hb : Op.bytesLess x.dig.toList y.dig.toList with
  | true => exact ⟨1, .inl rfl, key 1 (by rw [hb]; rfl) (by rw [bytesLess_asym _ _ hb]; rfl) (.inl rfl)⟩
  | false =>
    have h2 : Op.bytesLess y.dig.toList x.dig.toList = true := by
      cases h2 : Op.bytesLess y.dig.toList x.dig.toList with
      | true => rfl
      | false => exact absurd (toList_same (bytesLess_three _ _ hb h2)) hne
    exact ⟨2, .inr rfl, key 2 (by rw [hb]; rfl) (by rw [h2]; rfl) (.inr rfl)⟩
theorem nil_chain : ChainL 3 [] := ⟨fun s hs => by simp at hs, fun k s hs => by simp at hs, fun k s t hs => by simp at hs, fun i j s t hs => by simp at hs, fun s hs => by simp at hs, fun s hs => by simp at hs, by simp⟩
theorem wrP_check : checkI (wrS 3 11 0 4 [] 0) = 0 := by
  have h := (okB_iff'.1 sP_ok).2.1
  rw [← wrP] at h
  exact h
theorem wrQ_check : checkI (wrS 3 14 0 4 [sP] 0) = 0 := by
  have h := (okB_iff'.1 sQ_ok).2.1
  rw [← wrQ] at h
  exact h
theorem putP {l' : List St} {u : Value} {c : Int} (h : AddV [] sP l' u c) : l' = [sP] ∧ c = 0 := by
  have ho := okB_iff'.1 sP_ok
  obtain ⟨b, _, h⟩ := h
  rcases h with ⟨h1, _⟩ | ⟨_, h1, _⟩ | ⟨_, _, h1, _⟩ | ⟨_, _, _, j, there, ⟨hk, _, _, ht⟩, h⟩
  · rw [nil_chain.valid] at h1; cases h1
  · exact absurd ho.2.1 h1
  · rw [ho.2.2] at h1; cases h1
  have hth : there = false := by
    cases there with
    | false => rfl
    | true =>
      obtain ⟨z, hz, _⟩ := ht.1 rfl
      simp at hz
  subst hth
  have hp : putA [] sP j false = [sP] := by
    show ([] : List St).take j ++ [sP] ++ ([] : List St).drop j = _
    simp
  rcases h with ⟨h1, _⟩ | ⟨_, h1, _, h2⟩
  · rw [hp] at h1; simp at h1
  · rw [hp] at h1; exact ⟨h1, h2⟩
theorem noPQ : NoVotes [sP, sQ] := fun s hs => by
  simp only [List.mem_cons, List.not_mem_nil, or_false] at hs
  rcases hs with rfl | rfl
  · exact ⟨(okB_iff'.1 sP_ok).2.1, by show ((11 : Nat) : Int) ≠ 10; decide, rfl, rfl, rfl⟩
  · exact ⟨(okB_iff'.1 sQ_ok).2.1, by show ((14 : Nat) : Int) ≠ 10; decide, rfl, rfl, rfl⟩
theorem okPQ : ∀ s ∈ [sP, sQ], checkI s = 0 ∧ sealedB s = true := fun s hs => by
  simp only [List.mem_cons, List.not_mem_nil, or_false] at hs
  rcases hs with rfl | rfl
  · exact (okB_iff'.1 sP_ok).2
  · exact (okB_iff'.1 sQ_ok).2
/-- A row of two. -/
theorem stV_lit2 (w : World) (x y : St × Sv × Sv) : (rowBuild 27 2 #[(0, stV x), (1, stV y)]).run Tryz.prog w = .ok (.slice (some ⟨w.heap.size, 0, none⟩) 2 2) (w.alloc (.cells (stE x ++ stE y).toArray 37)) := by
  obtain ⟨i0, hi, hz0, hz1, hz2⟩ := info_parts Tryz.infoSt
  refine run_buildSlice w 27 37 2 _ (stE x ++ stE y).toArray i0 _ Tryz.underlying27 hi hz0 (by rw [hz1]; omega) (by rw [hz1]; omega) ?_
  rw [hz1]
  kernel_rfl
theorem two_sl {P : Nat → Prop} {w : World} {x y : St × Sv × Sv} {g : Nat} {t : TypeId} {fr : Nat × Nat} (hP : P g) (h : w.heap[g]? = some (.cells (stE x ++ stE y).toArray t fr)) (hx : Lies P w x) (hy : Lies P w y) : Sl stRep P w (.slice (some ⟨g, 0, none⟩) 2 2) [x.1, y.1] := by
  refine ⟨some ⟨g, 0, none⟩, 2, rfl, fun i hi => ?_⟩
  match i, hi with
  | 0, _ =>
    refine ⟨g, 0, stE x, rfl, hP, fun j v hj => ?_, x.2.1, x.2.2, rfl, hx⟩
    rw [cell_of_row _ _ _ _ _ _ h]
    have hl := (List.getElem?_eq_some_iff.1 hj).1
    rw [List.getElem?_toArray]
    simp only [Nat.zero_mul, Nat.zero_add, Nat.add_zero]
    rw [List.getElem?_append_left hl]; exact hj
  | 1, _ =>
    refine ⟨g, 0, stE y, rfl, hP, fun j v hj => ?_, y.2.1, y.2.2, rfl, hy⟩
    rw [cell_of_row _ _ _ _ _ _ h]
    show (stE x ++ stE y).toArray[0 + 1 * 13 + j]? = some v
    have hge : (stE x).length ≤ 0 + 1 * 13 + j := by rw [stE_len]; omega
    rw [List.getElem?_toArray, List.getElem?_append_right hge, stE_len]
    have e : 0 + 1 * 13 + j - 13 = j := by omega
    rw [e]; exact hj
theorem rowLoad_peer (a : Addr) : loadVar 31 a = rowLoad 31 a := rfl
theorem rowStore_peer (a : Addr) (v : Value) : storeVar 31 a v = rowStore 31 a v := rfl
theorem rowStore_msg (a : Addr) (v : Value) : storeVar 81 a v = rowStore 81 a v := rfl
theorem Tryz.sizePeer : (Tryz.prog.info? 31).map (·.size) = some 2 := by kernel_rfl
theorem Tryz.sizeMsg : (Tryz.prog.info? 81).map (·.size) = some 5 := by kernel_rfl
attribute [local go_sem ↓] rowLoad_stv rowStore_stv rowBuild_stv rowLoad_peer rowStore_peer rowStore_msg
theorem peer_load {w : World} {g : Nat} {cs : Array Value} (h : w.heap[g]? = some (.cells cs 31 (0, 0))) (hs : cs.size = 2) : (rowLoad 31 ⟨g, 0, none⟩).run Tryz.prog w = .ok (.agg cs) w :=
  run_rowLoad (P := Tryz.prog) w g 31 31 cs (0, 0) _ h Tryz.underlying31 rfl (by rw [hs]; exact Tryz.sizePeer)
theorem peer_store {w : World} {g : Nat} {old : Array Value} (h : w.heap[g]? = some (.cells old 31 (0, 0))) (ho : old.size = 2) (me : Int) (ao : Option Addr) (n cap : Nat) : (rowStore 31 ⟨g, 0, none⟩ (.agg #[.int .i64 me, .slice ao n cap])).run Tryz.prog w = .ok () (w.setRow g #[.int .i64 me, .slice ao n cap]) :=
  run_rowStore (P := Tryz.prog) w g 31 31 old #[.int .i64 me, .slice ao n cap] h Tryz.sizePeer ho (by simp [Value.oneCell'])

set_option maxHeartbeats 16000000 in
set_option maxRecDepth 100000 in
theorem awake41_any (w : World) : Calls Tryz.prog 7 #[] w fun e w' => e = .returned (.bool true) ∧ Ex w.heap.size none w w' := by
  obtain ⟨w1, hw1⟩ : ∃ w1 : World, w1 = (w.alloc (.cells #[.int .i64 0, .slice none 0 0] 31)).setRow w.heap.size #[.int .i64 3, .slice none 0 0] := ⟨_, rfl⟩
  have hst0 : (rowStore 31 ⟨w.heap.size, 0, none⟩ (.agg #[.int .i64 3, .slice none 0 0])).run Tryz.prog (w.alloc (.cells #[.int .i64 0, .slice none 0 0] 31)) = .ok () w1 := by
    rw [hw1]; exact peer_store (heap_alloc_new w _) rfl 3 none 0 0
  have HB1 : Hid (w1.heap[w.heap.size]? = some (.cells #[.int .i64 3, .slice none 0 0] 31 (0, 0))) := Lib.hid (by rw [hw1]; exact setRow_heap _ _ _ _ _ _ (heap_alloc_new w _))
  have HE1 : Hid (Ex w.heap.size none w w1) := Lib.hid (by rw [hw1]; exact (Ex.new w _).setRow _ _ (.inr (Nat.le_refl _)))
  have hz1 : w.heap.size < w1.heap.size := (Array.getElem?_eq_some_iff.1 HB1.out).1
  have hr1 := peer_load HB1.out rfl
  clear hw1
  go_enter Tryz.func7, Tryz.ntmps7
  go_upto_region 3 with (first
    | (go_at_call 10
       refine (write41_any (P := fun _ => True) 3 11 0 4 none 0 0 0 0 [] w1 rfl (fun i hi => absurd hi (by simp)) nil_chain.valid nil_chain.row (by decide) (by decide) rfl wrP_check).mono ?_
       rintro e w2 ⟨y, rfl, hy, hls, hex⟩
       rw [wrP] at hy
       have HY := Lib.hid hy
       have hst2 := stV_new w2 #[.int .i64 0, .int .i64 0, .string ⟨#[]⟩, .int .i64 0, .int .i64 0, .int .i64 0, .int .i64 0, .int .i64 0, .slice none 0 0, .slice none 0 0, .string ⟨#[]⟩, .int .i64 0, .string ⟨#[]⟩] y rfl
       obtain ⟨w3, hw3⟩ : ∃ w3 : World, w3 = w2.alloc (.cells (stV y).cells 37) := ⟨_, rfl⟩
       rw [← hw3] at hst2
       have HB3 : Hid (w3.heap[w2.heap.size]? = some (.cells (stV y).cells 37 (0, 0))) := Lib.hid (by rw [hw3]; exact heap_alloc_new w2 _)
       have HE3 : Hid (Ex w1.heap.size none w1 w3) := Lib.hid (by rw [hw3]; exact hex.alloc hex.size _)
       have HL3 : Hid (Lies (fun b => w1.heap.size ≤ b ∧ b < w2.heap.size) w3 y) := Lib.hid (by rw [hw3]; exact (hls.mono fun b hb hlt => (⟨hb, hlt⟩ : w1.heap.size ≤ b ∧ b < w2.heap.size)).keep fun b hb hlt => (Ex.new w2 _).block b hlt (by simp))
       have hz2 : w1.heap.size ≤ w2.heap.size := hex.size
       have hz3 : w2.heap.size < w3.heap.size := (Array.getElem?_eq_some_iff.1 HB3.out).1
       clear hy hls hex hw3 hr1)
    | fail)
  clear hst0 hst2
  have HP3 : Hid (w3.heap[w.heap.size]? = some (.cells #[.int .i64 3, .slice none 0 0] 31 (0, 0))) := Lib.hid ((HE3.out.block _ hz1 (by simp)).trans HB1.out)
  have hr3 := peer_load HP3.out rfl
  have hx3 := stV_box HB3.out
  go_upto_region 4 with (first
    | (go_at_call 11
       refine (keep41_any (P := fun b => w1.heap.size ≤ b ∧ b < w2.heap.size) 3 none 0 0 [] y [sP] w3 rfl (fun i hi => absurd hi (by simp)) nil_chain.valid (by decide) HL3.out (by rw [HY.out]; exact checkI_tame (okB_iff'.1 sP_ok).2.1) (fun l' u c h => putP (HY.out ▸ h))).mono ?_
       rintro e w4 ⟨ro, n2, rc, rfl, hn2, hsl, hex⟩
       obtain rfl : n2 = 1 := hn2
       have HP4 : Hid (w4.heap[w.heap.size]? = some (.cells #[.int .i64 3, .slice none 0 0] 31 (0, 0))) := Lib.hid ((hex.block _ (by omega) (by simp)).trans HP3.out)
       have hst4 := peer_store HP4.out rfl 3 ro 1 rc
       obtain ⟨w5, hw5⟩ : ∃ w5 : World, w5 = w4.setRow w.heap.size #[.int .i64 3, .slice ro 1 rc] := ⟨_, rfl⟩
       rw [← hw5] at hst4
       have HK5 : Hid (∀ b, b ≠ w.heap.size → w5.heap[b]? = w4.heap[b]?) := Lib.hid (fun b hb => by rw [hw5]; exact setRow_other _ _ _ _ hb)
       have HP5 : Hid (w5.heap[w.heap.size]? = some (.cells #[.int .i64 3, .slice ro 1 rc] 31 (0, 0))) := Lib.hid (by rw [hw5]; exact setRow_heap _ _ _ _ _ _ HP4.out)
       have HX4 : Hid (Ex w3.heap.size none w3 w4) := Lib.hid hex
       have HX5 : Hid (Ex w.heap.size none w w5) := Lib.hid (by rw [hw5]; exact ((HE1.out.trans HE3.out HE1.out.size (by simp)).trans hex (by omega) (by simp)).setRow _ _ (.inr (Nat.le_refl _)))
       have hz4 : w3.heap.size ≤ w4.heap.size := hex.size
       have hz5 : w5.heap.size = w4.heap.size := by rw [hw5]; simp [World.setRow]
       have HS5 : Hid (SlAt stRep (fun b => w.heap.size < b ∧ b < w5.heap.size) w5 ro [sP]) := Lib.hid ((hsl.mono (P' := fun b => w.heap.size < b ∧ b < w5.heap.size) (by decide) (fun b hb hlt => by have hb' : (w1.heap.size ≤ b ∧ b < w2.heap.size) ∨ w3.heap.size ≤ b := hb; exact ⟨by omega, by omega⟩)).keep (by decide) fun b hb _ => HK5.out b (Nat.ne_of_gt hb.1))
       clear hsl hex hw5 hr3 hx3)
    | fail)
  clear hst4
  have hr5 := peer_load HP5.out rfl
  go_upto_region 5 with (first
    | (go_at_call 10
       refine (write41_any (P := fun b => w.heap.size < b ∧ b < w5.heap.size) 3 14 0 4 ro rc 1 1 0 [sP] w5 rfl HS5.out sP_chain.valid sP_chain.row (by decide) (by decide) rfl wrQ_check).mono ?_
       rintro e w6 ⟨z, rfl, hy, hls, hex⟩
       rw [wrQ] at hy
       have HYZ := Lib.hid hy
       have hst6 := stV_new w6 #[.int .i64 0, .int .i64 0, .string ⟨#[]⟩, .int .i64 0, .int .i64 0, .int .i64 0, .int .i64 0, .int .i64 0, .slice none 0 0, .slice none 0 0, .string ⟨#[]⟩, .int .i64 0, .string ⟨#[]⟩] z rfl
       obtain ⟨w7, hw7⟩ : ∃ w7 : World, w7 = w6.alloc (.cells (stV z).cells 37) := ⟨_, rfl⟩
       rw [← hw7] at hst6
       have HB7 : Hid (w7.heap[w6.heap.size]? = some (.cells (stV z).cells 37 (0, 0))) := Lib.hid (by rw [hw7]; exact heap_alloc_new w6 _)
       have HE7 : Hid (Ex w5.heap.size none w5 w7) := Lib.hid (by rw [hw7]; exact hex.alloc hex.size _)
       have HL7 : Hid (Lies (fun b => w5.heap.size ≤ b ∧ b < w6.heap.size) w7 z) := Lib.hid (by rw [hw7]; exact (hls.mono fun b hb hlt => (⟨hb, hlt⟩ : w5.heap.size ≤ b ∧ b < w6.heap.size)).keep fun b hb hlt => (Ex.new w6 _).block b hlt (by simp))
       have hz6 : w5.heap.size ≤ w6.heap.size := hex.size
       have hz7 : w6.heap.size < w7.heap.size := (Array.getElem?_eq_some_iff.1 HB7.out).1
       clear hy hls hex hw7 hr5)
    | fail)
  clear hst6
  have HP7 : Hid (w7.heap[w.heap.size]? = some (.cells #[.int .i64 3, .slice ro 1 rc] 31 (0, 0))) := Lib.hid ((HE7.out.block _ (by omega) (by simp)).trans HP5.out)
  have HS7 : Hid (SlAt stRep (fun b => w.heap.size < b ∧ b < w5.heap.size) w7 ro [sP]) := Lib.hid (HS5.out.keep (by decide) fun b hb hlt => HE7.out.block b (by omega) (by simp))
  have hr7 := peer_load HP7.out rfl
  have hx7 := stV_box HB7.out
  go_upto_region 6 with (first
    | (go_at_call 32
       refine (give41_any (P := fun b => w.heap.size < b ∧ b < w5.heap.size) 3 2 ro rc 1 [sP] z w7 rfl HS7.out sP_chain.valid (by decide) (by decide) (by decide)).mono ?_
       rintro e w8 ⟨g, rfl, hex⟩
       have hst8 : (rowStore 81 ⟨w8.heap.size, 0, none⟩ (.agg #[.int .i64 3, .int .i64 2, .int .i64 2, .slice none 0 0, .slice (some ⟨g, 0, none⟩) 1 1])).run Tryz.prog (w8.alloc (.cells #[.int .i64 0, .int .i64 0, .int .i64 0, .slice none 0 0, .slice none 0 0] 81)) = .ok () ((w8.alloc (.cells #[.int .i64 0, .int .i64 0, .int .i64 0, .slice none 0 0, .slice none 0 0] 81)).setRow w8.heap.size #[.int .i64 3, .int .i64 2, .int .i64 2, .slice none 0 0, .slice (some ⟨g, 0, none⟩) 1 1]) := run_rowStore (P := Tryz.prog) _ w8.heap.size 81 81 #[.int .i64 0, .int .i64 0, .int .i64 0, .slice none 0 0, .slice none 0 0] #[.int .i64 3, .int .i64 2, .int .i64 2, .slice none 0 0, .slice (some ⟨g, 0, none⟩) 1 1] (heap_alloc_new w8 _) Tryz.sizeMsg rfl (by simp [Value.oneCell'])
       obtain ⟨w9, hw9⟩ : ∃ w9 : World, w9 = (w8.alloc (.cells #[.int .i64 0, .int .i64 0, .int .i64 0, .slice none 0 0, .slice none 0 0] 81)).setRow w8.heap.size #[.int .i64 3, .int .i64 2, .int .i64 2, .slice none 0 0, .slice (some ⟨g, 0, none⟩) 1 1] := ⟨_, rfl⟩
       rw [← hw9] at hst8
       have HB9 : Hid (w9.heap[w8.heap.size]? = some (.cells #[.int .i64 3, .int .i64 2, .int .i64 2, .slice none 0 0, .slice (some ⟨g, 0, none⟩) 1 1] 81 (0, 0))) := Lib.hid (by rw [hw9]; exact setRow_heap _ _ _ _ _ _ (heap_alloc_new w8 _))
       have HE9 : Hid (Ex w7.heap.size none w7 w9) := Lib.hid (by rw [hw9]; exact (hex.alloc hex.size _).setRow _ _ (.inr hex.size))
       clear hex hw9 hr7 hx7)
    | fail)
  clear hst8
  have HK9 : Hid (∀ b, b ≠ w.heap.size → b < w3.heap.size → w9.heap[b]? = w3.heap[b]?) := Lib.hid (fun b hb hlt => (HE9.out.block b (by omega) (by simp)).trans ((HE7.out.block b (by omega) (by simp)).trans ((HK5.out b hb).trans (HX4.out.block b hlt (by simp)))))
  have HBP : Hid (w9.heap[w2.heap.size]? = some (.cells (stV y).cells 37 (0, 0))) := Lib.hid ((HK9.out _ (by omega) hz3).trans HB3.out)
  have HBQ : Hid (w9.heap[w6.heap.size]? = some (.cells (stV z).cells 37 (0, 0))) := Lib.hid ((HE9.out.block _ hz7 (by simp)).trans HB7.out)
  have d1 : w9.cell? ⟨w2.heap.size, 1, none⟩ = some (.int .i64 0) := by
    rw [cell_of_row _ _ _ _ _ _ HBP.out, stV_cells]
    show some (Value.int .i64 y.1.number) = _
    rw [HY.out]; rfl
  have d2 : w9.cell? ⟨w6.heap.size, 1, none⟩ = some (.int .i64 0) := by
    rw [cell_of_row _ _ _ _ _ _ HBQ.out, stV_cells]
    show some (Value.int .i64 z.1.number) = _
    rw [HYZ.out]; rfl
  have d3 : w9.cell? ⟨w8.heap.size, 4, none⟩ = some (.slice (some ⟨g, 0, none⟩) 1 1) := by rw [cell_of_row _ _ _ _ _ _ HB9.out]; rfl
  have hxp := stV_box HBP.out
  have hxq := stV_box HBQ.out
  have hlit := stV_lit2 w9 y z
  obtain ⟨wa, hwa⟩ : ∃ wa : World, wa = w9.alloc (.cells (stE y ++ stE z).toArray 37) := ⟨_, rfl⟩
  rw [← hwa] at hlit
  have HXA : Hid (Ex w.heap.size none w wa) := Lib.hid (by rw [hwa]; exact ((HX5.out.trans HE7.out (by omega) (by simp)).trans HE9.out (by omega) (by simp)).alloc (by have := HE9.out.size; omega) _)
  have HBA : Hid (Sl stRep (fun _ => True) wa (.slice (some ⟨w9.heap.size, 0, none⟩) 2 2) [sP, sQ]) := Lib.hid (by
    have h := two_sl (P := fun _ => True) (w := wa) (x := y) (y := z) (g := w9.heap.size) trivial (by rw [hwa]; exact heap_alloc_new w9 _) ((HL3.out.keep fun b hb hlt => by rw [hwa]; exact ((Ex.new w9 _).block b (by have := HE9.out.size; omega) (by simp)).trans (HK9.out b (by omega) hlt)).mono fun _ _ _ => trivial) ((HL7.out.keep fun b hb hlt => by rw [hwa]; exact ((Ex.new w9 _).block b (by have := HE9.out.size; omega) (by simp)).trans (HE9.out.block b hlt (by simp))).mono fun _ _ _ => trivial)
    rw [HY.out, HYZ.out] at h
    exact h)
  clear hwa
  go_wp2_with (first
    | (go_at_call 33
       obtain ⟨hh, hh1, hh2⟩ := pair_two sP sQ digPQ
       refine (guilty36_two (P := fun _ => True) _ sP sQ 3 hh wa HBA.out rfl rfl (by decide) (by decide) rfl hh1 hh2 okPQ noPQ).mono ?_
       rintro e wb ⟨⟨r5, c5, rfl⟩, hex⟩
       have HXB : Hid (Ex wa.heap.size none wa wb) := Lib.hid hex
       clear hex hh2)
    | fail)
  go_ret
  exact ⟨rfl, HXA.out.trans HXB.out HXA.out.size (by simp)⟩
end Go.Proofs.YtaakacahblndcaaGreat
