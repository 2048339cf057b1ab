/- Join, Minus: contracts, no statement of the seat. | The keys of the map of losses: a struct of two numbers. No statement of the seat. | What the map of losses holds: of each author the last one named. Plain. No statement of the seat. | A map that holds whatever values, by the kit's own datum 'held': plain facts. No statement of the seat. | The library's slices.SortFunc at trustflow/api.Statement: its laying by the shelf, in plain words. No statement of the seat. | What the library's CompactFunc at trustflow/api.Statement leans on of a program: so that its walks may be made over whatever program and number of cells. No statement of the seat. | slices.CompactFunc at trustflow/api.Statement, over whatever program that bears it: a contract, no statement of the seat. | mill.Light: contracts, no statement of the seat. | made.Mod: contracts, no statement of the seat. | Dice: Roll, Next, Some, Keys: contracts, no statement of the seat. | mill.Roll: contracts, no statement of the seat. | Dice.One: a contract, no statement of the seat. -/
import Derived.Test.YtaakacahblndcaaGreatMg01
import Derived.Test.YtaakacahblndcaaGreatMg00
import Derived.Test.YtaakacahblndcaaGreatRows
import Derived.DeepKeys4
import Derived.WideKeyPair
import Derived.Maps.OwnSet
import Derived.Shelf.SlSortCmp.WholeK
import Derived.Shelf.SlSortCmp.NoneTotal
namespace Go.Proofs.YtaakacahblndcaaGreat
open Go.RowKit

theorem keysTo_yes {c : Int → Bool} {k : Nat} (h : c k = true) : keysTo c (k + 1) = keysTo c k ++ [(k : Int)] := by rw [keysTo, if_pos h]
theorem keysTo_no {c : Int → Bool} {k : Nat} (h : c k = false) : keysTo c (k + 1) = keysTo c k := by rw [keysTo, if_neg (by simp [h]), List.append_nil]

set_option maxHeartbeats 400000 in
theorem join_any (v1 v2 : Value) (xs ys : List Int) (w : World) (hv1 : Ints w v1 xs) (hv2 : Ints w v2 ys) (hm : xs.length ≤ 9223372036854775807) (hm2 : ys.length ≤ 9223372036854775807) :
    Calls Tryz.prog 72 #[v1, v2] w fun e w' => ∃ ro rc, e = .returned (.slice ro (joinI xs ys).length rc) ∧ OwnI w' w.heap.size ro rc (joinI xs ys) ∧ Ex w.heap.size none w w' := by
  obtain ⟨ao, cap, rfl, hx⟩ := hv1
  obtain ⟨bo, cbp, rfl, hy⟩ := hv2
  go_enter Tryz.func72, Tryz.ntmps72
  go_wp2
  go_loopw [5, 6] (fun v i wr => ∃ (k : Nat) (ro : Option Addr) (rc : Nat), k ≤ 64 ∧ i = .int .i64 k ∧ v = .slice ro (keysTo (fun k => hasI xs k || hasI ys k) k).length rc ∧ OwnI wr w.heap.size ro rc (keysTo (fun k => hasI xs k || hasI ys k) k) ∧ Ex w.heap.size none w wr) (fun _ i _ => 64 - (intOf i).toNat)
  case atStart => exact ⟨0, none, 0, by omega, rfl, rfl, OwnI.nil _ _, Ex.refl _ _ _⟩
  case round =>
    obtain ⟨k, ro, rc, hk, rfl, rfl, hown, hex⟩ := hrel
    have hle := keysTo_le (fun k => hasI xs k || hasI ys k) k
    have hsz := hex.size
    have hx1 := hx.keep hex (Nat.le_refl _) (by simp)
    have hy1 := hy.keep hex (Nat.le_refl _) (by simp)
    by_cases hlt : k < 64
    · by_cases h2 : hasI xs (k : Int) = true
      · have HK := Lib.hid (keysTo_yes (c := (fun k => hasI xs k || hasI ys k)) (k := k) (by simp [h2]))
        go_wp2_with (first
          | (go_at_call 30; refine (refHas_any _ _ _ _ (by first | exact ⟨_, _, rfl, hx1⟩ | exact ⟨_, _, rfl, hy1⟩) (by first | exact hm | exact hm2)).mono ?_; rintro e w' ⟨rfl, rfl⟩)
          | (at_builtin; refine wpList_appI rfl _ _ _ rfl Tryz.underlying22 Tryz.infoInt w.heap.size ro rc _ wr.heap.size k rfl rfl hown (Ex.new _ _) (by go_simp) (by omega) hsz ?_; intro ro' rc' w1 hown1 hex1))
        go_roundw
        case rel => exact ⟨k + 1, ro', rc', by omega, by go_num, by rw [HK.out, List.length_append]; rfl, by rw [HK.out]; exact hown1, hex.trans hex1 (Nat.le_refl _) (by simp)⟩
        case measure => simp [intOf]; omega
      · replace h2 : hasI xs (k : Int) = false := by simpa using h2
        by_cases h3 : hasI ys (k : Int) = true
        · have HK := Lib.hid (keysTo_yes (c := (fun k => hasI xs k || hasI ys k)) (k := k) (by simp [h3]))
          go_wp2_with (first
            | (go_at_call 30; refine (refHas_any _ _ _ _ (by first | exact ⟨_, _, rfl, hx1⟩ | exact ⟨_, _, rfl, hy1⟩) (by first | exact hm | exact hm2)).mono ?_; rintro e w' ⟨rfl, rfl⟩)
            | (at_builtin; refine wpList_appI rfl _ _ _ rfl Tryz.underlying22 Tryz.infoInt w.heap.size ro rc _ wr.heap.size k rfl rfl hown (Ex.new _ _) (by go_simp) (by omega) hsz ?_; intro ro' rc' w1 hown1 hex1))
          go_roundw
          case rel => exact ⟨k + 1, ro', rc', by omega, by go_num, by rw [HK.out, List.length_append]; rfl, by rw [HK.out]; exact hown1, hex.trans hex1 (Nat.le_refl _) (by simp)⟩
          case measure => simp [intOf]; omega
        · replace h3 : hasI ys (k : Int) = false := by simpa using h3
          have HK := Lib.hid (keysTo_no (c := (fun k => hasI xs k || hasI ys k)) (k := k) (by simp [h2, h3]))
          go_wp2_with (first
            | (go_at_call 30; refine (refHas_any _ _ _ _ (by first | exact ⟨_, _, rfl, hx1⟩ | exact ⟨_, _, rfl, hy1⟩) (by first | exact hm | exact hm2)).mono ?_; rintro e w' ⟨rfl, rfl⟩)
            | (at_builtin; refine wpList_appI rfl _ _ _ rfl Tryz.underlying22 Tryz.infoInt w.heap.size ro rc _ wr.heap.size k rfl rfl hown (Ex.new _ _) (by go_simp) (by omega) hsz ?_; intro ro' rc' w1 hown1 hex1))
          go_roundw
          case rel => exact ⟨k + 1, ro, rc, by omega, by go_num, by rw [HK.out], by rw [HK.out]; exact hown, hex⟩
          case measure => simp [intOf]; omega
    · obtain rfl : k = 64 := by omega
      go_wp2
      go_ret
      exact ⟨ro, rc, rfl, hown, hex⟩

end Go.Proofs.YtaakacahblndcaaGreat

namespace Go.Proofs.YtaakacahblndcaaGreat
open Go.RowKit Go.Maps

/-- What a key reads as. -/
def keyL (k a : Int) : Lit := .string (keyBytes [.int .i64 k, .int .i64 a])
end Go.Proofs.YtaakacahblndcaaGreat

namespace Go.Proofs.YtaakacahblndcaaGreat
open Go.RowKit Go.Maps

theorem snoc_ind {α : Type} {motive : List α → Prop} (nil : motive []) (snoc : ∀ l x, motive l → motive (l ++ [x])) (l : List α) : motive l := by
  have h : ∀ r : List α, motive r.reverse := by
    intro r
    induction r with
    | nil => simpa using nil
    | cons x r ih => simpa using snoc _ x ih
  simpa using h l.reverse
/-- The map behind the votes l (author, heir) on one lost key. -/
def mapD (a : Int) (l : List (Int × Int)) : DataW Unit := l.foldl (fun D p => D.put (keyL p.1 a) (.lit (.int .i64 p.2))) (.map [])
/-- Whom an author named last. -/
def lastOf (l : List (Int × Int)) (k : Int) : Option Int := ((l.filter fun p => decide (p.1 = k)).getLast?).map (·.2)
/-- Who has named 'next' last, of the first n keys. -/
def voicesL (l : List (Int × Int)) (next : Int) (n : Nat) : List Int := ((List.range n).filter fun (k : Nat) => decide (lastOf l (k : Int) = some next)).map fun (k : Nat) => (k : Int)
end Go.Proofs.YtaakacahblndcaaGreat

namespace Go.Proofs.YtaakacahblndcaaGreat
open Go.RowKit Go.Maps

/-- How a value of whatever type reads: as itself. -/
def valElem (v : Value) : Option (DataW Value × List MemPlace) := some (.held v, [])
/-- The map behind stores. -/
def mapV (l : List (Lit × Value)) : DataW Value := l.foldl (fun D p => D.put p.1 (.held p.2)) (.map [])
theorem mapV_snoc (l : List (Lit × Value)) (p : Lit × Value) : mapV (l ++ [p]) = (mapV l).put p.1 (.held p.2) := by
  unfold mapV; rw [List.foldl_append]; rfl
open Classical in
/-- What was stored last at a key. -/
noncomputable def lastV (l : List (Lit × Value)) (k : Lit) : Option Value := l.foldl (fun r p => if p.1 = k then some p.2 else r) none
open Classical in
theorem lastV_snoc (l : List (Lit × Value)) (p : Lit × Value) (k : Lit) : lastV (l ++ [p]) k = if p.1 = k then some p.2 else lastV l k := by
  unfold lastV; rw [List.foldl_append]; rfl
theorem mapV_isMap (l : List (Lit × Value)) : IsMap (mapV l) := by
  induction l using snoc_ind with
  | nil => exact isMap_empty
  | snoc l p ih => rw [mapV_snoc]; exact ih.put _ _
theorem mapV_has {l : List (Lit × Value)} {k : Lit} (hk : WideAt.IsKeyLit k) : Maps.has (mapV l) k = (lastV l k).isSome := by
  induction l using snoc_ind with
  | nil => rfl
  | snoc l p ih =>
    rw [mapV_snoc, lastV_snoc]
    by_cases h : p.1 = k
    · rw [if_pos h, h, has_put_same (mapV_isMap l) hk]; rfl
    · rw [if_neg h, has_put_other (fun e => h e.symm), ih]
theorem mapV_at {l : List (Lit × Value)} {k : Lit} (z : Value) (hk : WideAt.IsKeyLit k) : (mapV l).atKey k (.held z) = .held ((lastV l k).getD z) := by
  induction l using snoc_ind with
  | nil => rfl
  | snoc l p ih =>
    rw [mapV_snoc, lastV_snoc]
    by_cases h : p.1 = k
    · rw [if_pos h, h, atKey_put_same (mapV_isMap l) hk]; rfl
    · rw [if_neg h, atKey_put_other (fun e => h e.symm), ih]
theorem valElem_inv {v : Value} {d : DataW Value} {ps : List MemPlace} (h : valElem v = some (d, ps)) : d = .held v := by
  unfold valElem at h; cases h; rfl
/-- 'v, ok := m[k]' at a map of whatever values, at the operation. -/
theorem wpList_lookV {P : Program} (w : World) {ops : Array Oper} {rest : List Oper} {o : Oper} {a : Act} {Q : Exit → Act → World → Prop}
    (hg : o.guard = none) (m x : Operand) (t : TypeId) (hop : o.op = Op.lookup t m x true)
    (k e : TypeId) (K : Keyed P k) (ht : P.underlying t = some (.map k e)) (z : Value) (hz : (zeroValue e).run P w = .ok z w) (b n : Nat) (l : List (Lit × Value))
    (hm : a.eval m = .map (some b)) (hown : w.ownsMap P k valElem b n (mapV l)) (key : Value) (kl : Lit) (hx : a.eval x = key) (hkey : keyOf P k key = some kl) (hkl : WideAt.IsKeyLit kl)
    (v : Value) (ok : Bool) (hv : (lastV l kl).getD z = v) (hok : (lastV l kl).isSome = ok)
    (hK : wpList P ops Q rest (a.put o.dst (.tuple #[v, .bool ok])) w) :
    wpList P ops Q (o :: rest) a w := by
  refine wpList_plain hg fun K' hK' => ?_
  obtain ⟨u, ps, hrun, hr⟩ := hown.look_ok K ht hz (zd := .held z) (zp := []) rfl hkey
  have h1 := valElem_inv hr
  rw [mapV_at z hkl, hv] at h1
  cases h1
  rw [mapV_has hkl, hok] at hrun
  unfold Oper.wp
  simp [execOp, hop, hm, hx, hrun, Result.andThen]
  exact hK' _ _ hK
end Go.Proofs.YtaakacahblndcaaGreat

namespace Go.Proofs
open Go.Shelf
def Tryz.pdqSt_ren : Go.Shelf.Ren := ⟨fun | 6 => 97 | 15 => 143 | 14 => 142 | 28 => 192 | 29 => 193 | 20 => 184 | 21 => 185 | 22 => 186 | 23 => 187 | 24 => 188 | 25 => 189 | 26 => 190 | 27 => 191 | 46 => 203 | 47 => 204 | 48 => 205 | 49 => 206 | 50 => 207 | 57 => 232 | n => n, fun | 22 => 27 | 24 => 37 | 25 => 123 | 3 => 3 | 39 => 144 | 0 => 0 | 53 => 145 | 55 => 143 | 4 => 4 | 46 => 207 | 45 => 206 | 50 => 157 | 5 => 5 | 9 => 9 | 66 => 218 | 70 => 222 | 76 => 239 | 77 => 240 | n => n, fun | n => n⟩
end Go.Proofs

namespace Go.Proofs.YtaakacahblndcaaGreat
open Go.RowKit Go.Sort

structure CLaySt (P : Program) (k : Nat) : Prop where
  mixed : P.follows .mixedOrders = true
  t0 : P.underlying 0 = some (TypeDesc.tuple #[])
  a0 : ∀ w, (isAgg 0).run P w = .ok false w
  z0 : ∀ w, (Go.sizeOf 0).run P w = .ok 1 w
  v0 : ∀ w, (zeroValue 0).run P w = .ok (Value.tuple #[]) w
  t1 : P.underlying 3 = some (TypeDesc.int IntKind.i64)
  a1 : ∀ w, (isAgg 3).run P w = .ok false w
  z1 : ∀ w, (Go.sizeOf 3).run P w = .ok 1 w
  v1 : ∀ w, (zeroValue 3).run P w = .ok (Value.int IntKind.i64 0) w
  t2 : P.underlying 4 = some (TypeDesc.bool)
  a2 : ∀ w, (isAgg 4).run P w = .ok false w
  z2 : ∀ w, (Go.sizeOf 4).run P w = .ok 1 w
  v2 : ∀ w, (zeroValue 4).run P w = .ok (Value.bool false) w
  t3 : P.underlying 144 = some (TypeDesc.int IntKind.u64)
  a3 : ∀ w, (isAgg 144).run P w = .ok false w
  z3 : ∀ w, (Go.sizeOf 144).run P w = .ok 1 w
  v3 : ∀ w, (zeroValue 144).run P w = .ok (Value.int IntKind.u64 0) w
  t4 : P.underlying 27 = some (TypeDesc.slice 37)
  a4 : ∀ w, (isAgg 27).run P w = .ok false w
  z4 : ∀ w, (Go.sizeOf 27).run P w = .ok 1 w
  v4 : ∀ w, (zeroValue 27).run P w = .ok (Value.slice none 0 0) w
  t5 : P.underlying 123 = some (TypeDesc.func #[37, 37] #[3] false)
  a5 : ∀ w, (isAgg 123).run P w = .ok false w
  z5 : ∀ w, (Go.sizeOf 123).run P w = .ok 1 w
  v5 : ∀ w, (zeroValue 123).run P w = .ok (Value.nilFunc) w
  aE : ∀ w, (isAgg 37).run P w = .ok true w
  zE : ∀ w, (Go.sizeOf 37).run P w = .ok k w

end Go.Proofs.YtaakacahblndcaaGreat

namespace Go.Proofs.YtaakacahblndcaaGreat
open Go.RowKit Go.Sort
variable {P : Program} {α : Type} [Inhabited α]

/-- What is asked of a function that tells whether two elements are the same. -/
def EqAtSt (P : Program) (f : Nat) (cb : Array Value) (enc : α → List Value) (eq : α → α → Bool) : Prop :=
  ∀ (w : World) (x y : α), Calls P f (#[.agg (enc x).toArray, .agg (enc y).toArray] ++ cb) w fun e w' => e = .returned (.bool (eq x y)) ∧ ∃ q os', w' = grow (w.drewN q) os'
end Go.Proofs.YtaakacahblndcaaGreat

namespace Go.Proofs.YtaakacahblndcaaGreat
open Go.RowKit

theorem light_any (ao : Option Addr) (cap n : Nat) (w : World) :
    Calls Tryz.prog 6 #[.slice ao n cap] w fun e w' => e = .returned (.bool (decide ((n : Int) ≤ 400))) ∧ w = w' := by
  go_enter Tryz.func6, Tryz.ntmps6
  go_wp2
  go_ret
  exact ⟨rfl, rfl⟩

end Go.Proofs.YtaakacahblndcaaGreat

namespace Go.Proofs.YtaakacahblndcaaGreat
open Go.RowKit

theorem tmod_neg {n m : Int} (hm : 1 ≤ m) (h : n.tmod m < 0) : n.tmod m + m = modI n m := by
  rw [modI_pos hm, Int.tmod_eq_emod]
  rw [Int.tmod_eq_emod] at h
  split at h <;> rename_i h' <;> simp only [h', ↓reduceIte] at h ⊢
  · have := Int.emod_nonneg n (show m ≠ 0 by omega); omega
  · have : (m.natAbs : Int) = m := by omega
    omega
theorem tmod_pos {n m : Int} (hm : 1 ≤ m) (h : ¬ n.tmod m < 0) : n.tmod m = modI n m := by
  rw [modI_pos hm, Int.tmod_eq_emod]
  rw [Int.tmod_eq_emod] at h
  have := Int.emod_lt_of_pos n (show 0 < m by omega)
  split at h <;> rename_i h' <;> simp only [h', ↓reduceIte] at h ⊢
  · simp
  · have : (m.natAbs : Int) = m := by omega
    omega
theorem tmod_bd {n m : Int} (hm : 1 ≤ m) : -m ≤ n.tmod m ∧ n.tmod m < m := by
  by_cases h : n.tmod m < 0
  · have := tmod_neg hm h; have := modI_bd (n := n) hm; omega
  · have := tmod_pos hm h; have := modI_bd (n := n) hm; omega

set_option maxHeartbeats 400000 in
theorem mod_any (n m : Int) (w : World) (hm : m ≤ 4611686018427387904) :
    Calls Tryz.prog 35 #[.int .i64 n, .int .i64 m] w fun e w' => e = .returned (.int .i64 (modI n m)) ∧ w = w' := by
  by_cases h1 : m < 1
  · go_enter Tryz.func35, Tryz.ntmps35
    go_wp2
    go_ret
    exact ⟨ret_int (by unfold modI; rw [if_pos h1]), rfl⟩
  · obtain ⟨b1, b2⟩ := tmod_bd (n := n) (show 1 ≤ m by omega)
    by_cases h2 : n.tmod m < 0
    · have H := Lib.hid (tmod_neg (show 1 ≤ m by omega) h2)
      go_enter Tryz.func35, Tryz.ntmps35
      go_wp2
      go_ret
      exact ⟨ret_int H.out, rfl⟩
    · have H := Lib.hid (tmod_pos (show 1 ≤ m by omega) h2)
      go_enter Tryz.func35, Tryz.ntmps35
      go_wp2
      go_ret
      exact ⟨ret_int H.out, rfl⟩

end Go.Proofs.YtaakacahblndcaaGreat

namespace Go.Proofs.YtaakacahblndcaaGreat
open Go.RowKit

/-- Block p is a Dice whose numbers that are left are d; it and its list lie below block N. -/
def DiceAt (N : Nat) (w : World) (p : Nat) (d : List Int) : Prop :=
  ∃ (L : List Int) (at' : Nat) (ao : Option Addr) (cap : Nat), w.heap[p]? = some (.cells #[.slice ao L.length cap, .int .i64 at'] 85 (0, 0)) ∧ at' ≤ L.length ∧ d = L.drop at' ∧ L.length ≤ 1000000 ∧ IntsAt w ao L ∧ (L ≠ [] → ∀ a, ao = some a → a.block < N ∧ a.block ≠ p) ∧ p < N

theorem DiceAt.keep {N : Nat} {w w' : World} {p B : Nat} {d : List Int} (h : DiceAt N w p d) (hx : Ex B none w w') (hB : N ≤ B) : DiceAt N w' p d := by
  obtain ⟨L, at', ao, cap, h1, h2, h3, h4, h5, h6, h7⟩ := h
  refine ⟨L, at', ao, cap, ?_, h2, h3, h4, fun j hj => ?_, h6, h7⟩
  · rw [hx.block p (by omega) (by simp)]
    exact h1
  · obtain ⟨b, off, e, hc⟩ := h5 j hj
    refine ⟨b, off, e, fun i hi => ?_⟩
    have hbN : b < N := (h6 (by intro h; simp [h] at hj) _ e).1
    exact (World.cell?_of_block (w := w) (hx.block b (by omega) (by simp))).trans (hc i hi)
theorem cell_at {w : World} {b o : Nat} {cs : Array Value} {e : TypeId} {fr : Nat × Nat} {v : Value} (h : w.heap[b]? = some (.cells cs e fr)) (hv : cs[o]? = some v) : w.cell? ⟨b, o, none⟩ = some v := by
  simp [World.cell?, h, hv]
theorem free_at {w : World} {b o : Nat} {cs : Array Value} {e : TypeId} (h : w.heap[b]? = some (.cells cs e (0, 0))) : w.frozen? ⟨b, o, none⟩ = false := by
  simp [World.frozen?, h]
theorem heap_setCell {w : World} {b o : Nat} {cs : Array Value} {e : TypeId} {fr : Nat × Nat} (h : w.heap[b]? = some (.cells cs e fr)) (v : Value) : (w.setCell ⟨b, o, none⟩ v).heap[b]? = some (.cells (cs.setIfInBounds o v) e fr) := by
  simp [World.setCell, Array.getElem?_modify, h]

set_option maxHeartbeats 400000 in
theorem next_any (N p : Nat) (d : List Int) (n : Int) (w : World) (hd : DiceAt N w p d) (hn : n ≤ 4611686018427387904) :
    Calls Tryz.prog 9 #[.pointer (some ⟨p, 0, none⟩), .int .i64 n] w fun e w' => e = .returned (.int .i64 (dVal d n)) ∧ DiceAt N w' p d.tail ∧ Ex w.heap.size (some p) w w' := by
  obtain ⟨L, k, ao, cap, hh, hk, hdl, hL, hx, haw, hpN⟩ := hd
  have c0 := cell_at (o := 0) hh rfl
  have c1 := cell_at (o := 1) hh rfl
  have f1 := free_at (o := 1) hh
  by_cases hlt : k < L.length
  · obtain ⟨b, off, y, rfl, hck, HY⟩ := hx.get k hlt
    have hbp : b ≠ p := (haw (by intro h; simp [h] at hlt) _ rfl).2
    have HA := Lib.hid haw
    have hdd : d = y :: L.drop (k + 1) := by
      rw [hdl, List.drop_eq_getElem_cons hlt, ← HY.out]; simp [List.getD, hlt]
    have HD := Lib.hid hdd
    have HH := Lib.hid hh
    have HX := Lib.hid hx
    clear hdd hdl hh hx haw
    have hbp2 : p ≠ b := fun h => hbp h.symm
    go_enter Tryz.func9, Tryz.ntmps9
    go_wp2
    go_quiet (fail)
    go_wp2
    go_quiet ((go_at_call 35; exact Calls.quiet_of_same ((mod_any _ _ _ hn).mono fun _ _ h => ⟨h.1, h.2.symm⟩)))
    go_wp2
    go_ret
    refine ⟨by rw [HD.out]; rfl, ?_, (((Ex.refl _ _ _).drewN).setCell _ _ _ (Or.inl rfl)).drewN⟩
    refine ⟨L, k + 1, some ⟨b, off, none⟩, cap, ?_, by omega, by rw [HD.out]; rfl, hL, fun j hj => ?_, HA.out, hpN⟩
    · exact (heap_setCell (w := w) (o := 1) HH.out (.int .i64 ((k : Int) + 1))).trans (by simp)
    · obtain ⟨b', off', e, hc⟩ := HX.out j hj
      refine ⟨b', off', e, fun i hi => ?_⟩
      cases e
      exact (World.cell?_setCell_other (w := w) _ _ _ (by simp)).trans (hc i hi)
  · have hd0 : d = [] := by rw [hdl, List.drop_eq_nil_of_le (by omega)]
    have hge : L.length ≤ k := by omega
    have HH : DiceAt N w p [] := ⟨L, k, ao, cap, hh, hk, by rw [List.drop_eq_nil_of_le (by omega)], hL, hx, haw, hpN⟩
    have HH := Lib.hid HH
    subst hd0
    clear hdl hh hx haw
    go_enter Tryz.func9, Tryz.ntmps9
    go_wp2
    go_quiet (fail)
    go_wp2
    go_ret
    exact ⟨rfl, HH.out, (Ex.refl _ _ _).drewN⟩

set_option maxHeartbeats 400000 in
theorem madeRoll_any (v1 : Value) (L : List Int) (w : World) (hv1 : Ints w v1 L) (hL : L.length ≤ 1000000) :
    Calls Tryz.prog 34 #[v1] w fun e w' => ∃ p, e = .returned (.pointer (some ⟨p, 0, none⟩)) ∧ DiceAt (p + 1) w' p L ∧ w.heap.size ≤ p ∧ p + 1 ≤ w'.heap.size ∧ Ex w.heap.size none w w' := by
  obtain ⟨ao, cap, rfl, hx⟩ := hv1
  have HX := Lib.hid hx
  clear hx
  go_enter Tryz.func34, Tryz.ntmps34
  go_wp2
  go_ret
  exact ⟨_, rfl, ⟨L, 0, ao, cap, heap_alloc_new w _, Nat.zero_le _, rfl, hL, HX.out.keep (Ex.new w _) (Nat.le_refl _) (by simp), fun hne a ha => by have := HX.out.lt hne a ha; omega, by omega⟩, Nat.le_refl _, by simp, Ex.new w _⟩

end Go.Proofs.YtaakacahblndcaaGreat

namespace Go.Proofs.YtaakacahblndcaaGreat
open Go.RowKit

theorem roll_any (v1 : Value) (L : List Int) (w : World) (hv1 : Ints w v1 L) (hL : L.length ≤ 1000000) :
    Calls Tryz.prog 8 #[v1] w fun e w' => ∃ p, e = .returned (.pointer (some ⟨p, 0, none⟩)) ∧ DiceAt (p + 1) w' p L ∧ w.heap.size ≤ p ∧ p + 1 ≤ w'.heap.size ∧ Ex w.heap.size none w w' := by
  obtain ⟨ao, cap, rfl, hx⟩ := hv1
  go_enter Tryz.func8, Tryz.ntmps8
  go_wp2_with (go_at_call 34; refine (madeRoll_any _ _ _ ⟨_, _, rfl, hx⟩ hL).mono ?_; rintro e w' ⟨p, rfl, h1, h2, h3, h4⟩)
  go_ret
  exact ⟨_, rfl, h1, h2, h3, h4⟩

end Go.Proofs.YtaakacahblndcaaGreat

namespace Go.Proofs.YtaakacahblndcaaGreat
open Go.RowKit

end Go.Proofs.YtaakacahblndcaaGreat
