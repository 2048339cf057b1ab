/- The library's Compact at an owned row of ints, in these texts' words; what it keeps. No statement of the seat. | A region that draws its order and makes boxes: the boxes are different ones. For whatever program; no statement of the seat. | ref23.SameInts: contracts, no statement of the seat. | mill.Light: contracts, no statement of the seat. | mill.Roll: contracts, no statement of the seat. | A region that draws its order, by what holds at whatever set of done operations; boxes made and filled within it. For whatever program; no statement of the seat. -/
import Derived.Test.YtaihmldiglgipaaGreatMg02
import Derived.Test.YtaihmldiglgipaaGreatRows
import Derived.Test.YtaihmldiglgipaaGreatMg00
namespace Go.Proofs.YtaihmldiglgipaaGreat
open Go.RowKit Go.Sort Go.Lib

set_option maxHeartbeats 400000 in
theorem compactOwnI_any (ro : Option Addr) (rc n base : Nat) (xs : List Int) (w : World) (hown : OwnI w base ro rc xs) (hn : xs.length = n) (hm : xs.length ≤ 1000000000000) (hb : base ≤ w.heap.size) :
    Calls Tryz.prog 46 #[.slice ro n rc] w fun e w' => e = .returned (.slice ro (Lib.compact xs).length rc) ∧ Ex base none w w' ∧ IntsAt w' ro (Lib.compact xs) := by
  subst hn
  rcases hown.2 with ⟨h1, h2⟩ | ⟨g, cap, cur, hv, hg, hh, _⟩
  · have hx : xs = [] := List.eq_nil_of_length_eq_zero h2
    subst hx
    refine (Tryz.slices_Compact_int_empty ro rc w).mono ?_
    rintro e w' ⟨rfl, rfl⟩
    have : Lib.compact ([] : List Int) = [] := by simp [Lib.compact, Lib.compactUpTo]
    exact ⟨by rw [this]; rfl, Ex.refl _ _ _, by rw [this]; exact IntsAt.nil _ _⟩
  · cases hv
    have hc := hown.cap
    have hlt := (Array.getElem?_eq_some_iff.1 hh).1
    have hH := own_holds hown
    refine (Tryz.slices_Compact_int g 0 rc xs w hH (by omega) (by omega)).mono ?_
    rintro e w' ⟨rfl, q, rfl⟩
    have hex := ex_putRow (Value.int .i64) w g 0 q (Lib.compact xs ++ List.replicate (xs.length - (Lib.compact xs).length) 0).toArray #[]
    rw [grow_empty] at hex
    have hle : (Lib.compact xs).length ≤ xs.length := by
      unfold Lib.compact Lib.compactUpTo
      simp only [List.length_map]
      exact Nat.le_trans (List.length_filter_le _ _) (by simp)
    refine ⟨rfl, (hex.mono hb).above hg, ?_⟩
    have hH2 := holds_putRow (Value.int .i64) (Go.Sort.ahead w q) g 0 xs.toArray (Lib.compact xs ++ List.replicate (xs.length - (Lib.compact xs).length) 0).toArray (holds_ahead (Value.int .i64) w q g 0 _ hH) (by simp; omega)
    have := (holds_ints hH2).take (Lib.compact xs).length
    rwa [List.take_left] at this
end Go.Proofs.YtaihmldiglgipaaGreat

namespace Go.Proofs.YtaihmldiglgipaaGreat
open Go.RowKit Go.Sort

section
variable {P : Program} {md : Region.Mode} {ops : Array Oper} {Q : Exit → Act → World → Prop}
end
/-- A step that makes a box. -/
def StepBox (P : Program) (Q : Exit → Act → World → Prop) (l : List Oper) (fs : List Fact) (a : Act) (w : World) (i : Nat) (o : Oper) : Prop :=
  ∀ (a' : Act) (w' : World), Ex w.heap.size none w w' → Rim fs.length (dstOf l) a a' → Known .any fs.length (dstOf l) (fun i => (factOf fs i).p) o a' w' → ∀ K : Act → World → Prop, (∀ v w'', Ex w'.heap.size none w' w'' → (factOf fs i).p v w'' → v = .pointer (some ⟨w'.heap.size, 0, none⟩) → w'.heap.size < w''.heap.size → K (a'.put o.dst v) w'') → o.wp P a' w' K Q
/-- All steps, one after the other; those in bx make boxes. -/
def AllB (P : Program) (Q : Exit → Act → World → Prop) (l : List Oper) (fs : List Fact) (bx : List Nat) (a : Act) (w : World) : List Oper → Nat → Prop
  | [], _ => True
  | o :: r, i => (if bx.contains i = true then StepBox P Q l fs a w i o else StepOK P Q l fs a w i o) ∧ AllB P Q l fs bx a w r (i + 1)
end Go.Proofs.YtaihmldiglgipaaGreat

namespace Go.Proofs.YtaihmldiglgipaaGreat
open Go.RowKit

theorem same_take {xs ys : List Int} {k : Nat} (h : xs.take k = ys.take k) (h1 : k < xs.length) (h2 : k < ys.length) (he : xs.getD k 0 = ys.getD k 0) : xs.take (k + 1) = ys.take (k + 1) := by
  rw [take_snoc xs k h1, take_snoc ys k h2, h, he]

set_option maxHeartbeats 400000 in
theorem sameInts_any (v1 v2 : Value) (xs ys : List Int) (w : World) (hv1 : Ints w v1 xs) (hv2 : Ints w v2 ys) (hm : xs.length ≤ 9223372036854775807) :
    Calls Tryz.prog 22 #[v1, v2] w fun e w' => e = .returned (.bool (decide (xs = ys))) ∧ Ex w.heap.size none w w' := by
  obtain ⟨ao, cap, rfl, hx⟩ := hv1
  obtain ⟨bo, cbp, rfl, hy⟩ := hv2
  by_cases hl : xs.length = ys.length
  · have hl1 : ((xs.length : Int) != ys.length) = false := by simp [hl]
    have HL := Lib.hid hl
    go_enter Tryz.func22, Tryz.ntmps22
    clear hl
    go_wp2
    clear hl1
    go_loopw [5] (fun i wr => ∃ k : Nat, k ≤ xs.length ∧ i = .int .i64 k ∧ xs.take k = ys.take k ∧ ∃ n, w.drewN n = wr) (fun i _ => xs.length - (intOf i).toNat)
    case atStart => exact ⟨0, Nat.zero_le _, rfl, by simp, 0, rfl⟩
    case round =>
      obtain ⟨k, hk, rfl, ht, n, rfl⟩ := hrel
      have HT := Lib.hid ht
      clear ht
      by_cases hlt : k < xs.length
      · have hlt2 : k < ys.length := by have := HL.out; omega
        obtain ⟨b, off, y, rfl, hck, HY⟩ := hx.get k hlt
        obtain ⟨b', off', z, rfl, hcz, HZ⟩ := hy.get k hlt2
        by_cases he : y = z
        · have hb : (y != z) = false := by simpa using he
          have HR := Lib.hid (same_take HT.out hlt hlt2 (by rw [HY.out, HZ.out, he]))
          clear he
          go_wp2
          go_quiet (fail)
          go_wp2
          go_roundw
          case rel => exact ⟨k + 1, by omega, by go_num, HR.out, _, rfl⟩
          case measure => simp [intOf]; omega
        · have hb : (y != z) = true := by simpa using he
          have HR : Hid (xs ≠ ys) := fun h => he (by rw [← HY.out, ← HZ.out, h])
          clear he
          go_wp2
          go_quiet (fail)
          go_wp2
          go_ret
          exact ⟨ret_bool (by simp [HR.out]), by repeat (first | exact Ex.refl _ _ _ | refine Ex.drewN ?_)⟩
      · have HR : Hid (xs = ys) := by
          have h := HT.out
          have := HL.out
          rwa [List.take_of_length_le (by omega), List.take_of_length_le (by omega)] at h
        go_wp2
        go_ret
        exact ⟨ret_bool (by simp [HR.out]), by repeat (first | exact Ex.refl _ _ _ | refine Ex.drewN ?_)⟩
  · have hl1 : ((xs.length : Int) != ys.length) = true := by simp; omega
    have HR : Hid (xs ≠ ys) := fun h => hl (by rw [h])
    clear hl
    go_enter Tryz.func22, Tryz.ntmps22
    go_wp2
    go_ret
    exact ⟨ret_bool (by simp [HR.out]), Ex.refl _ _ _⟩
end Go.Proofs.YtaihmldiglgipaaGreat

namespace Go.Proofs.YtaihmldiglgipaaGreat
open Go.RowKit

theorem light_any (ao : Option Addr) (cap n : Nat) (w : World) :
    Calls Tryz.prog 5 #[.slice ao n cap] w fun e w' => e = .returned (.bool (decide ((n : Int) ≤ 400))) ∧ w = w' := by
  go_enter Tryz.func5, Tryz.ntmps5
  go_wp2
  go_ret
  exact ⟨rfl, rfl⟩

end Go.Proofs.YtaihmldiglgipaaGreat

namespace Go.Proofs.YtaihmldiglgipaaGreat
open Go.RowKit

theorem roll_any (v1 : Value) (L : List Int) (w : World) (hv1 : Ints w v1 L) (hL : L.length ≤ 1000000) :
    Calls Tryz.prog 7 #[v1] w fun e w' => ∃ p, e = .returned (.pointer (some ⟨p, 0, none⟩)) ∧ DiceAt (p + 1) w' p L ∧ w.heap.size ≤ p ∧ p + 1 ≤ w'.heap.size ∧ Ex w.heap.size none w w' := by
  obtain ⟨ao, cap, rfl, hx⟩ := hv1
  go_enter Tryz.func7, Tryz.ntmps7
  go_wp2_with (go_at_call 24; refine (madeRoll_any _ _ _ ⟨_, _, rfl, hx⟩ hL).mono ?_; rintro e w' ⟨p, rfl, h1, h2, h3, h4⟩)
  go_ret
  exact ⟨_, rfl, h1, h2, h3, h4⟩

end Go.Proofs.YtaihmldiglgipaaGreat

namespace Go.Proofs.YtaihmldiglgipaaGreat
open Go.RowKit Go.Sort

section
variable {P : Program} {md : Region.Mode} {ops : Array Oper} {Q : Exit → Act → World → Prop}
theorem inv_any {INV : Array Bool → Act → World → Prop} (hac : ∀ i o, ops[i]? = some o → o.guard = none ∧ ∀ e ∈ o.after, Region.binds md e = true → e.on < i)
    (hstep : ∀ i o, ops[i]? = some o → ∀ (ls : Array Bool) (a : Act) (w : World), ls.size = ops.size → ls.getD i true = false → (∀ e ∈ o.after, Region.binds md e = true → ls.getD e.on false = true) → INV ls a w → ∀ K : Act → World → Prop, (∀ v w', INV (ls.setIfInBounds i true) (a.put o.dst v) w' → K (a.put o.dst v) w') → o.wp P a w K Q)
    (hend : ∀ (ls : Array Bool) (a : Act) (w : World), ls.size = ops.size → (∀ i, i < ops.size → ls.getD i true = true) → INV ls a w → Q .normal a w) :
    ∀ (m : Nat) (ls : Array Bool) (a : Act) (w : World), (List.range ops.size).countP (fun i => !ls.getD i true) = m → ls.size = ops.size → INV ls a w → wpAny P md ops Q m ls a w := by
  intro m
  induction m with
  | zero =>
    intro ls a w hc hs hI
    have hall : ∀ i, i < ops.size → ls.getD i true = true := fun i hi => by
      have h := List.countP_eq_zero.1 hc i (List.mem_range.2 hi)
      simpa using h
    refine ⟨?_, hend ls a w hs hall hI⟩
    cases hr : Region.ready md ops ls with
    | nil => rfl
    | cons j r =>
      have hj : j ∈ Region.ready md ops ls := by rw [hr]; simp
      obtain ⟨h1, o, ho, _⟩ := mem_ready.1 hj
      have := hall j (Array.getElem?_eq_some_iff.1 ho).1
      rw [this] at h1; cases h1
  | succ m ih =>
    intro ls a w hc hs hI
    have hex : ∃ i, i < ops.size ∧ ls.getD i true = false := by
      apply Classical.byContradiction
      intro hno
      have : (List.range ops.size).countP (fun i => !ls.getD i true) = 0 := List.countP_eq_zero.2 fun i hi => by
        have hi' := List.mem_range.1 hi
        cases hb : ls.getD i true with
        | true => simp
        | false => exact absurd ⟨i, hi', hb⟩ hno
      omega
    have hmin : ∀ k i, i ≤ k → i < ops.size → ls.getD i true = false → ∃ j, j ∈ Region.ready md ops ls := by
      intro k
      induction k with
      | zero =>
        intro i hi hin hb
        obtain rfl : i = 0 := by omega
        obtain ⟨_, hlt⟩ := hac 0 ops[0] (Array.getElem?_eq_getElem hin)
        exact ⟨0, mem_ready.2 ⟨hb, ops[0], Array.getElem?_eq_getElem hin, fun e he hbe => by have := hlt e he hbe; omega⟩⟩
      | succ k ihk =>
        intro i hi hin hb
        obtain ⟨_, hlt⟩ := hac i ops[i] (Array.getElem?_eq_getElem hin)
        by_cases hq : ∃ e ∈ ops[i].after, Region.binds md e = true ∧ ls.getD e.on false = false
        · obtain ⟨e, he, hbe0, hbe⟩ := hq
          have h1 := hlt e he hbe0
          exact ihk e.on (by omega) (by omega) (getD_in (by omega) hbe)
        · exact ⟨i, mem_ready.2 ⟨hb, ops[i], Array.getElem?_eq_getElem hin, fun e he hbi => by
            cases hbe : ls.getD e.on false with
            | true => rfl
            | false => exact absurd ⟨e, he, hbi, hbe⟩ hq⟩⟩
    refine ⟨fun z => ?_, fun i hi => ?_⟩
    · obtain ⟨i, hin, hb⟩ := hex
      obtain ⟨j, hj⟩ := hmin i i (Nat.le_refl _) hin hb
      rw [z] at hj; cases hj
    · obtain ⟨hun, o, ho, hall⟩ := mem_ready.1 hi
      have hin := (Array.getElem?_eq_some_iff.1 ho).1
      unfold wpOp
      simp only [ho]
      rw [if_pos (show Region.wanted o (yielded ops a.tmps) = true by simp [Region.wanted, (hac i o ho).1])]
      refine .inl (hstep i o ho ls a w hs hun hall hI _ fun v w' hI' => ih _ _ _ ?_ (by simp [hs]) hI')
      have h1 := countP_one (p := fun i => !ls.getD i true) (q := fun j => !(ls.setIfInBounds i true).getD j true) (i := i) (by simp [hun]) (by
        simp only [Array.getD_eq_getD_getElem?]
        rw [Array.getElem?_setIfInBounds_self_of_lt (by omega)]; rfl) (fun j hj => by rw [getD_set_ne true (Ne.symm hj)]) ops.size hin
      omega
end
/-- No guard; each operation waits for earlier ones alone. -/
def invB (l : List Oper) : Bool := (List.range l.length).all fun i => match l[i]? with
  | some o => o.guard.isNone && o.after.all (fun e => !Region.binds .any e || decide (e.on < i))
  | none => false
theorem wp_region_inv {P : Program} {id : Nat} {l : List Oper} {Q : Exit → Act → World → Prop} {a : Act} {w : World} (INV : Array Bool → Act → World → Prop) (hm : P.follows .mixedOrders = true) (hB : invB l = true)
    (h0 : INV (Array.replicate l.length false) a w.drew)
    (hstep : ∀ i o, l[i]? = some o → ∀ (ls : Array Bool) (a : Act) (w : World), ls.size = l.length → ls.getD i true = false → (∀ e ∈ o.after, Region.binds .any e = true → ls.getD e.on false = true) → INV ls a w → ∀ K : Act → World → Prop, (∀ v w', INV (ls.setIfInBounds i true) (a.put o.dst v) w' → K (a.put o.dst v) w') → o.wp P a w K Q)
    (hend : ∀ (ls : Array Bool) (a : Act) (w : World), (∀ i, i < l.length → ls.getD i false = true) → INV ls a w → Q .normal a w) : (Code.region id l.toArray true).wp P Q a w := by
  refine wp_region_any hm ?_
  refine inv_any (INV := INV) (fun i o ho => ?_) (fun i o ho ls a w hs => hstep i o (by simpa using ho) ls a w (by simpa using hs)) (fun ls a w hs hall hI => hend ls a w (fun i hi => ?_) hI) _ _ _ _ ?_ (by simp) (by simpa using h0)
  · have ho' : l[i]? = some o := by simpa using ho
    have hi := (List.getElem?_eq_some_iff.1 ho').1
    have h := List.all_eq_true.1 hB i (List.mem_range.2 hi)
    rw [ho'] at h
    simp only [Bool.and_eq_true] at h
    refine ⟨Option.isNone_iff_eq_none.1 h.1, fun e he hb => ?_⟩
    have k := Array.all_eq_true_iff_forall_mem.1 h.2 e he
    simpa [hb] using k
  · have h := hall i (by simpa using hi)
    have hs' : i < ls.size := by rw [hs]; simpa using hi
    simp only [Array.getD_eq_getD_getElem?, Array.getElem?_eq_getElem hs', Option.getD_some] at h ⊢
    exact h
  · have : ∀ m, m ≤ l.toArray.size → (List.range m).countP (fun i => !(Array.replicate l.toArray.size false).getD i true) = m := by
      intro m
      induction m with
      | zero => intro _; rfl
      | succ m ih =>
        intro h
        rw [List.range_succ, List.countP_append, ih (by omega)]
        have : (Array.replicate l.toArray.size false).getD m true = false := getD_in (by simp at h ⊢; omega) (getD_replicate_false _ _)
        simp only [List.countP_cons, List.countP_nil, this]
        rfl
    exact this _ (Nat.le_refl _)

/-- What holds: values, boxes with their cells, all boxes different. -/
structure PB (l : List Oper) (h : Nat) (vs : List (Option Value)) (bxs : List (Nat × Nat)) (old new : Array Value) (t : TypeId) (a0 : Act) (w0 : World) (ls : Array Bool) (a : Act) (w : World) : Prop where
  ex : Ex w0.heap.size none w0 w
  rim : Rim h (dstOf l) a0 a
  val : ∀ i v, vs[i]? = some (some v) → ls.getD i false = true → a.eval (.tmp (dstOf l i)) = v
  box : ∀ x ∈ bxs, ls.getD x.1 false = true → ∃ b, a.eval (.tmp (dstOf l x.1)) = .pointer (some ⟨b, 0, none⟩) ∧ w0.heap.size ≤ b ∧ w.heap[b]? = some (.cells (if ls.getD x.2 false = true then new else old) t (0, 0))
  ne : ∀ x ∈ bxs, ∀ y ∈ bxs, x ≠ y → ls.getD x.1 false = true → ls.getD y.1 false = true → a.eval (.tmp (dstOf l x.1)) ≠ a.eval (.tmp (dstOf l y.1))
  late : ∀ x ∈ bxs, ls.getD x.2 false = true → ls.getD x.1 false = true
/-- The head has slots of its own; a box is made in the head and filled behind it, and its store waits for it. -/
def pbB (l : List Oper) (h N : Nat) (vs : List (Option Value)) (bxs : List (Nat × Nat)) : Bool :=
  invB l && decide (h ≤ l.length) && (List.range l.length).all (fun i => match l[i]? with
    | some o => if i < h then o.dst.isSome && decide (dstOf l i < N) && (List.range h).all (fun j => decide (i = j) || !decide (dstOf l i = dstOf l j)) && (((vs[i]?).getD none).isSome || bxs.any fun x => decide (x.1 = i)) else o.dst.isNone && (bxs.any fun x => decide (x.2 = i))
    | none => false) && bxs.all (fun x => decide (x.1 < h) && decide (h ≤ x.2) && decide (x.2 < l.length) && decide ((vs[x.1]?).getD none = none) && (match l[x.2]? with | some o => o.after.any (fun e => Region.binds .any e && decide (e.on = x.1)) | none => false) && bxs.all (fun y => decide (x = y) || (!decide (x.1 = y.1) && !decide (x.2 = y.2)))) && (List.range vs.length).all (fun i => decide (i < h) || ((vs[i]?).getD none).isNone)
theorem wp_skipV {P : Program} {o : Oper} {a : Act} {w w' : World} {K : Act → World → Prop} {Q : Exit → Act → World → Prop} (h : (execOp a.eval o).run P w = .ok .skip w') (hK : K (a.put o.dst undef) w') : o.wp P a w K Q := by
  unfold Oper.wp
  rw [h]
  exact hK
/-- What is known of the values that an operation waits for. -/
def KnownV (l : List Oper) (vs : List (Option Value)) (o : Oper) (a : Act) : Prop := ∀ e ∈ o.after, Region.binds .any e = true → ∀ u, vs[e.on]? = some (some u) → a.eval (.tmp (dstOf l e.on)) = u
/-- An operation yields its value, and the world stands. -/
def ValOK (P : Program) (l : List Oper) (h : Nat) (vs : List (Option Value)) (a : Act) (w : World) (v : Value) (o : Oper) : Prop := ∀ (a' : Act) (w' : World), Ex w.heap.size none w w' → Rim h (dstOf l) a a' → KnownV l vs o a' → (execOp a'.eval o).run P w' = .ok (.value v) w'
def AllV (P : Program) (l : List Oper) (h : Nat) (vs : List (Option Value)) (a : Act) (w : World) : List Oper → List (Option Value) → Prop
  | o :: r, some v :: q => ValOK P l h vs a w v o ∧ AllV P l h vs a w r q
  | _ :: r, none :: q => AllV P l h vs a w r q
  | _, _ => True
theorem allV_get {P : Program} {l : List Oper} {h : Nat} {vs : List (Option Value)} {a : Act} {w : World} : ∀ (r : List Oper) (q : List (Option Value)), AllV P l h vs a w r q → ∀ (j : Nat) (o : Oper) (v : Value), r[j]? = some o → q[j]? = some (some v) → ValOK P l h vs a w v o
  | [], _, _, j, o, v, h1, _ => by simp at h1
  | _ :: _, [], _, j, o, v, _, h2 => by simp at h2
  | x :: r, some u :: q, hA, 0, o, v, h1, h2 => by
    simp only [List.getElem?_cons_zero, Option.some.injEq] at h1 h2
    subst h1 h2
    exact hA.1
  | x :: r, none :: q, hA, 0, o, v, h1, h2 => by simp at h2
  | x :: r, some u :: q, hA, j + 1, o, v, h1, h2 => by
    rw [List.getElem?_cons_succ] at h1 h2
    exact allV_get r q hA.2 j o v h1 h2
  | x :: r, none :: q, hA, j + 1, o, v, h1, h2 => by
    rw [List.getElem?_cons_succ] at h1 h2
    exact allV_get r q hA j o v h1 h2
theorem getD_set_eq {ls : Array Bool} {i : Nat} (hi : i < ls.size) : (ls.setIfInBounds i true).getD i false = true := by
  simp only [Array.getD_eq_getD_getElem?]
  rw [Array.getElem?_setIfInBounds_self_of_lt hi]; rfl
/-- The law. -/
theorem wp_region_pb {P : Program} {id : Nat} {l : List Oper} {Q : Exit → Act → World → Prop} {a : Act} {w : World} (N h : Nat) (vs : List (Option Value)) (bxs : List (Nat × Nat)) (old new : Array Value) (t : TypeId) (hm : P.follows .mixedOrders = true) (hB : pbB l h N vs bxs = true) (hN : a.tmps.size = N)
    (hval : AllV P l h vs a w l vs)
    (hbox : ∀ x ∈ bxs, ∀ o, l[x.1]? = some o → ∀ (a' : Act) (w' : World), (execOp a'.eval o).run P w' = .ok (.value (.pointer (some ⟨w'.heap.size, 0, none⟩))) (w'.alloc (.cells old t)))
    (hstore : ∀ x ∈ bxs, ∀ o, l[x.2]? = some o → ∀ (a' : Act) (w' : World) (b : Nat), a'.eval (.tmp (dstOf l x.1)) = .pointer (some ⟨b, 0, none⟩) → KnownV l vs o a' → w'.heap[b]? = some (.cells old t (0, 0)) → (execOp a'.eval o).run P w' = .ok .skip (w'.setRow b new))
    (hend : ∀ a' w', Ex w.heap.size none w w' → Rim h (dstOf l) a a' → (∀ i v, vs[i]? = some (some v) → i < l.length → a'.eval (.tmp (dstOf l i)) = v) → (∀ x ∈ bxs, ∃ b, a'.eval (.tmp (dstOf l x.1)) = .pointer (some ⟨b, 0, none⟩) ∧ w.heap.size ≤ b ∧ w'.heap[b]? = some (.cells new t (0, 0))) → (∀ x ∈ bxs, ∀ y ∈ bxs, x ≠ y → a'.eval (.tmp (dstOf l x.1)) ≠ a'.eval (.tmp (dstOf l y.1))) → Q .normal a' w') : (Code.region id l.toArray true).wp P Q a w := by
  simp only [pbB, Bool.and_eq_true, decide_eq_true_eq] at hB
  obtain ⟨⟨⟨⟨hB1, hB2⟩, hB3⟩, hB4⟩, hB5⟩ := hB
  have hvh : ∀ i v, vs[i]? = some (some v) → i < h := fun i v hv => by
    have hi := (List.getElem?_eq_some_iff.1 hv).1
    have k := List.all_eq_true.1 hB5 i (List.mem_range.2 hi)
    rw [hv] at k
    simpa using k
  have hop : ∀ i o, l[i]? = some o → if i < h then o.dst = some (dstOf l i) ∧ dstOf l i < N ∧ (∀ j, j < h → dstOf l i = dstOf l j → i = j) ∧ ((∃ v, vs[i]? = some (some v)) ∨ ∃ x ∈ bxs, x.1 = i) else o.dst = none ∧ ∃ x ∈ bxs, x.2 = i := fun i o ho => by
    have hi := (List.getElem?_eq_some_iff.1 ho).1
    have k := List.all_eq_true.1 hB3 i (List.mem_range.2 hi)
    rw [ho] at k
    by_cases c : i < h
    · simp only [c, if_true, Bool.and_eq_true, decide_eq_true_eq, Bool.or_eq_true] at k
      rw [if_pos c]
      obtain ⟨⟨⟨k1, k2⟩, k3⟩, k4⟩ := k
      refine ⟨?_, k2, fun j hj e => ?_, ?_⟩
      · unfold dstOf
        rw [ho]
        cases hx : o.dst with
        | none => rw [hx] at k1; cases k1
        | some d => simp [hx]
      · have kk := List.all_eq_true.1 k3 j (List.mem_range.2 hj)
        simp only [Bool.or_eq_true, decide_eq_true_eq, Bool.not_eq_true', decide_eq_false_iff_not] at kk
        rcases kk with kk | kk
        · exact kk
        · exact absurd e kk
      · rcases k4 with k4 | k4
        · left
          cases hx : vs[i]? with
          | none => rw [hx] at k4; cases k4
          | some y =>
            cases y with
            | none => rw [hx] at k4; cases k4
            | some v => exact ⟨v, rfl⟩
        · right
          obtain ⟨x, hx, hxe⟩ := List.any_eq_true.1 k4
          exact ⟨x, hx, by simpa using hxe⟩
    · simp only [c, if_false, Bool.and_eq_true] at k
      rw [if_neg c]
      obtain ⟨k1, k2⟩ := k
      obtain ⟨x, hx, hxe⟩ := List.any_eq_true.1 k2
      exact ⟨Option.isNone_iff_eq_none.1 k1, x, hx, by simpa using hxe⟩
  have hbx : ∀ x ∈ bxs, x.1 < h ∧ h ≤ x.2 ∧ x.2 < l.length ∧ (∀ v, vs[x.1]? ≠ some (some v)) ∧ (∀ o, l[x.2]? = some o → ∃ e ∈ o.after, Region.binds .any e = true ∧ e.on = x.1) ∧ ∀ y ∈ bxs, x ≠ y → x.1 ≠ y.1 ∧ x.2 ≠ y.2 := fun x hx => by
    have k := List.all_eq_true.1 hB4 x hx
    simp only [Bool.and_eq_true, decide_eq_true_eq] at k
    obtain ⟨⟨⟨⟨⟨k1, k2⟩, k3⟩, k4⟩, k5⟩, k6⟩ := k
    refine ⟨k1, k2, k3, (fun v hv => by rw [hv] at k4; cases k4), fun o ho => ?_, fun y hy hne => ?_⟩
    · rw [ho] at k5
      obtain ⟨i, hi, hie⟩ := Array.any_eq_true.1 k5
      simp only [Bool.and_eq_true, decide_eq_true_eq] at hie
      exact ⟨o.after[i], Array.getElem_mem hi, hie.1, hie.2⟩
    · have kk := List.all_eq_true.1 k6 y hy
      simp only [Bool.or_eq_true, decide_eq_true_eq, Bool.and_eq_true, Bool.not_eq_true', decide_eq_false_iff_not] at kk
      rcases kk with kk | kk
      · exact absurd kk hne
      · exact kk
  refine wp_region_inv (PB l h vs bxs old new t a w) hm hB1 ?_ ?_ ?_
  · have hno : ∀ i, (Array.replicate l.length false).getD i false = true → False := fun i hi => by rw [getD_replicate_false] at hi; cases hi
    exact ⟨Ex.drew (Ex.refl _ _ _), rim_refl _ _ _, fun i v _ hi => (hno i hi).elim, fun x _ hi => (hno _ hi).elim, fun x _ y _ _ hi => (hno _ hi).elim, fun x _ hi => (hno _ hi).elim⟩
  · intro i o ho ls a' w' hs hun hall hI K hK
    have hi := (List.getElem?_eq_some_iff.1 ho).1
    have hz : i < ls.size := by omega
    have hkv : KnownV l vs o a' := fun e he hb u hu => hI.val e.on u hu (hall e he hb)
    have hne : ∀ j, j ≠ i → (ls.setIfInBounds i true).getD j false = ls.getD j false := fun j hj => getD_set_ne false (Ne.symm hj)
    have hun' : ls.getD i false = false := getD_both hun
    have hsz : a'.tmps.size = N := by rw [hI.rim.2.1]; exact hN
    have k := hop i o ho
    by_cases c : i < h
    · rw [if_pos c] at k
      obtain ⟨k1, k2, k3, k4⟩ := k
      have hold : ∀ j u, j < h → j ≠ i → (a'.put o.dst u).eval (.tmp (dstOf l j)) = a'.eval (.tmp (dstOf l j)) := fun j u hj hji => by
        rw [k1]; exact eval_put_ne fun e => hji (k3 j hj e).symm
      have hnew : ∀ u, (a'.put o.dst u).eval (.tmp (dstOf l i)) = u := fun u => by rw [k1]; exact eval_put_eq (by omega)
      have hrim : ∀ u, Rim h (dstOf l) a (a'.put o.dst u) := fun u => by rw [k1]; exact hI.rim.put c
      have hbi : ∀ x ∈ bxs, x.2 ≠ i := fun x hx => by have := (hbx x hx).2.1; omega
      rcases k4 with ⟨v, hv⟩ | ⟨x, hx, rfl⟩
      · refine wp_value (v := v) (allV_get l vs hval i o v ho hv a' w' hI.ex hI.rim hkv) (hK v w' ?_)
        have hxi : ∀ x ∈ bxs, x.1 ≠ i := fun x hx e => (hbx x hx).2.2.2.1 v (by rw [e]; exact hv)
        refine ⟨hI.ex, hrim v, fun j u hu hj => ?_, fun x hx hl => ?_, fun x hx y hy hxy h1 h2 => ?_, fun x hx hl => ?_⟩
        · by_cases e : j = i
          · subst e
            rw [hu] at hv
            rw [hnew]
            exact (Option.some.inj (Option.some.inj hv)).symm
          · rw [hold j v (hvh j u hu) e]
            exact hI.val j u hu (by rwa [hne j e] at hj)
        · rw [hne _ (hxi x hx)] at hl
          rw [hold _ v (hbx x hx).1 (hxi x hx), hne _ (hbi x hx)]
          exact hI.box x hx hl
        · rw [hne _ (hxi x hx)] at h1
          rw [hne _ (hxi y hy)] at h2
          rw [hold _ v (hbx x hx).1 (hxi x hx), hold _ v (hbx y hy).1 (hxi y hy)]
          exact hI.ne x hx y hy hxy h1 h2
        · rw [hne _ (hbi x hx)] at hl
          rw [hne _ (hxi x hx)]
          exact hI.late x hx hl
      · have hx1 := hbx x hx
        have hx2f : ls.getD x.2 false = false := by
          cases hq : ls.getD x.2 false with
          | false => rfl
          | true => have := hI.late x hx hq; rw [hun'] at this; cases this
        refine wp_value (v := .pointer (some ⟨w'.heap.size, 0, none⟩)) (hbox x hx o ho a' w') (hK _ _ ?_)
        have hxi : ∀ y ∈ bxs, y ≠ x → y.1 ≠ x.1 := fun y hy e => ((hbx y hy).2.2.2.2.2 x hx e).1
        refine ⟨hI.ex.alloc hI.ex.size _, hrim _, fun j u hu hj => ?_, fun y hy hl => ?_, fun y hy z hz' hyz h1 h2 => ?_, fun y hy hl => ?_⟩
        · have e : j ≠ x.1 := fun e => hx1.2.2.2.1 u (by rw [← e]; exact hu)
          rw [hold j _ (hvh j u hu) e]
          exact hI.val j u hu (by rwa [hne j e] at hj)
        · by_cases e : y = x
          · subst e
            rw [hne _ (hbi y hy), hx2f]
            exact ⟨_, hnew _, hI.ex.size, heap_alloc_new _ _⟩
          · rw [hne _ (hxi y hy e)] at hl
            obtain ⟨b, b1, b2, b3⟩ := hI.box y hy hl
            rw [hne _ (hbi y hy)]
            exact ⟨b, by rw [hold _ _ (hbx y hy).1 (hxi y hy e)]; exact b1, b2, ((Ex.new w' _).block b (Array.getElem?_eq_some_iff.1 b3).1 (by simp)).trans b3⟩
        · have far : ∀ y ∈ bxs, y ≠ x → ls.getD y.1 false = true → a'.eval (.tmp (dstOf l y.1)) ≠ .pointer (some ⟨w'.heap.size, 0, none⟩) := fun y hy _ hl he => by
            obtain ⟨b, b1, _, b3⟩ := hI.box y hy hl
            rw [b1] at he
            have hb := (Array.getElem?_eq_some_iff.1 b3).1
            have : b = w'.heap.size := by
              injection he with he
              injection he with he
              injection he
            omega
          by_cases e : y = x
          · subst e
            have e2 : z ≠ y := Ne.symm hyz
            rw [hne _ (hxi z hz' e2)] at h2
            rw [hnew, hold _ _ (hbx z hz').1 (hxi z hz' e2)]
            exact (far z hz' e2 h2).symm
          · rw [hne _ (hxi y hy e)] at h1
            by_cases e2 : z = x
            · subst e2
              rw [hnew, hold _ _ (hbx y hy).1 (hxi y hy e)]
              exact far y hy e h1
            · rw [hne _ (hxi z hz' e2)] at h2
              rw [hold _ _ (hbx y hy).1 (hxi y hy e), hold _ _ (hbx z hz').1 (hxi z hz' e2)]
              exact hI.ne y hy z hz' hyz h1 h2
        · rw [hne _ (hbi y hy)] at hl
          have hl2 := hI.late y hy hl
          by_cases e : y = x
          · subst e; exact getD_set_eq hz
          · rw [hne _ (hxi y hy e)]; exact hl2
    · rw [if_neg c] at k
      obtain ⟨k1, x, hx, rfl⟩ := k
      have hx1 := hbx x hx
      obtain ⟨e, he, hb, heo⟩ := hx1.2.2.2.2.1 o ho
      have hxl : ls.getD x.1 false = true := by have := hall e he hb; rwa [heo] at this
      obtain ⟨b, b1, b2, b3⟩ := hI.box x hx hxl
      rw [hun'] at b3
      have hput : ∀ u, a'.put o.dst u = a' := fun u => by rw [k1]; rfl
      refine wp_skipV (hstore x hx o ho a' w' b b1 hkv b3) (hK _ _ ?_)
      have h1i : ∀ y ∈ bxs, y.1 ≠ x.2 := fun y hy => by have := (hbx y hy).1; omega
      rw [hput]
      refine ⟨⟨hI.ex.os, hI.ex.tape, hI.ex.output, by simpa using hI.ex.size, fun q hq hne => (setRow_other _ _ _ _ (by omega)).trans (hI.ex.block q hq hne)⟩, hI.rim, fun j u hu hj => hI.val j u hu (by rwa [hne j (by have := hvh j u hu; omega)] at hj), fun y hy hl => ?_, fun y hy z hz' hyz h1 h2 => ?_, fun y hy hl => ?_⟩
      · rw [hne _ (h1i y hy)] at hl
        obtain ⟨d, d1, d2, d3⟩ := hI.box y hy hl
        refine ⟨d, d1, d2, ?_⟩
        by_cases ey : y = x
        · subst ey
          have : d = b := by
            rw [b1] at d1
            injection d1 with d1
            injection d1 with d1
            injection d1 with d1
            exact d1.symm
          subst this
          rw [getD_set_eq hz]
          exact setRow_heap _ _ _ _ _ _ b3
        · have hdb : d ≠ b := fun e => hI.ne y hy x hx ey hl hxl (by rw [d1, b1, e])
          rw [hne _ ((hbx y hy).2.2.2.2.2 x hx ey).2]
          exact (setRow_other _ _ _ _ hdb).trans d3
      · rw [hne _ (h1i y hy)] at h1
        rw [hne _ (h1i z hz')] at h2
        exact hI.ne y hy z hz' hyz h1 h2
      · rw [hne _ (h1i y hy)]
        by_cases ey : y = x
        · rw [ey]; exact hxl
        · rw [hne _ ((hbx y hy).2.2.2.2.2 x hx ey).2] at hl
          exact hI.late y hy hl
  · intro ls a' w' hall hI
    refine hend a' w' hI.ex hI.rim (fun i v hv hi => hI.val i v hv (hall i hi)) (fun x hx => ?_) (fun x hx y hy hxy => hI.ne x hx y hy hxy (hall _ ?_) (hall _ ?_))
    · obtain ⟨b, b1, b2, b3⟩ := hI.box x hx (hall _ (by have := (hbx x hx).1; omega))
      rw [hall _ (hbx x hx).2.2.1] at b3
      exact ⟨b, b1, b2, b3⟩
    · have := (hbx x hx).1; omega
    · have := (hbx y hy).1; omega
theorem wpList_done {P : Program} {ops : Array Oper} {Q : Exit → Act → World → Prop} {a : Act} {w : World} (h : wpList P ops Q [] a w) : Q .normal a w := h
end Go.Proofs.YtaihmldiglgipaaGreat
