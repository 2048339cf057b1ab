/- SHA-256 as a function on lists of bytes and words. Plain, no program in sight. | ref09.Until, Window: contracts, no statement of the seat. | slices.Clone at numbers and at pins: contracts, no statement of the seat. -/
import Derived.Test.YtdmchekkcmjafaaMg06
import Derived.Laws.BitsAllLaws
import Derived.Test.YtdmchekkcmjafaaMg05
import Derived.WalkSpells
namespace Go.Proofs.Ytdmchekkcmjafaa
open Go.RowKit Go.Sort

/-- A word turned to the right. -/
def turnU (x : UInt32) (n : Nat) : UInt32 := (x >>> UInt32.ofNat n) ||| (x <<< UInt32.ofNat (32 - n))
def wordU (b : List UInt8) (i : Nat) : UInt32 := ((((b.getD (4 * i) 0).toUInt32 <<< 24) ||| ((b.getD (4 * i + 1) 0).toUInt32 <<< 16)) ||| ((b.getD (4 * i + 2) 0).toUInt32 <<< 8)) ||| (b.getD (4 * i + 3) 0).toUInt32
def schedA (w : List UInt32) (i : Nat) : UInt32 := (turnU (w.getD (i - 15) 0) 7 ^^^ turnU (w.getD (i - 15) 0) 18) ^^^ (w.getD (i - 15) 0 >>> 3)
def schedC (w : List UInt32) (i : Nat) : UInt32 := (turnU (w.getD (i - 2) 0) 17 ^^^ turnU (w.getD (i - 2) 0) 19) ^^^ (w.getD (i - 2) 0 >>> 10)
def schedU (w : List UInt32) (i : Nat) : UInt32 := ((w.getD (i - 16) 0 + schedA w i) + w.getD (i - 7) 0) + schedC w i
/-- The first n words of a block. -/
def sched (b : List UInt8) : Nat → List UInt32
  | 0 => []
  | n + 1 => sched b n ++ [if n < 16 then wordU b n else schedU (sched b n) n]
theorem sched_len (b : List UInt8) : ∀ n, (sched b n).length = n
  | 0 => rfl
  | n + 1 => by simp [sched, sched_len b n]
def rS (v : List UInt32) : UInt32 := (turnU (v.getD 4 0) 6 ^^^ turnU (v.getD 4 0) 11) ^^^ turnU (v.getD 4 0) 25
def rC (v : List UInt32) : UInt32 := (v.getD 4 0 &&& v.getD 5 0) ^^^ ((~~~(v.getD 4 0)) &&& v.getD 6 0)
def rX (v : List UInt32) (k w : UInt32) : UInt32 := (((v.getD 7 0 + rS v) + rC v) + k) + w
def rT (v : List UInt32) : UInt32 := (turnU (v.getD 0 0) 2 ^^^ turnU (v.getD 0 0) 13) ^^^ turnU (v.getD 0 0) 22
def rM (v : List UInt32) : UInt32 := ((v.getD 0 0 &&& v.getD 1 0) ^^^ (v.getD 0 0 &&& v.getD 2 0)) ^^^ (v.getD 1 0 &&& v.getD 2 0)
def roundU (v : List UInt32) (k w : UInt32) : List UInt32 := [(rX v k w + rT v) + rM v, v.getD 0 0, v.getD 1 0, v.getD 2 0, v.getD 3 0 + rX v k w, v.getD 4 0, v.getD 5 0, v.getD 6 0]
/-- The state behind n rounds. -/
def rounds (ks ws : List UInt32) (h : List UInt32) : Nat → List UInt32
  | 0 => h
  | n + 1 => roundU (rounds ks ws h n) (ks.getD n 0) (ws.getD n 0)
theorem rounds_len (ks ws h : List UInt32) (hh : h.length = 8) : ∀ n, (rounds ks ws h n).length = 8
  | 0 => hh
  | _n + 1 => rfl
/-- The sums of two lists, the first n of them. -/
def addTo (v h : List UInt32) (n : Nat) : List UInt32 := (List.range v.length).map fun i => if i < n then v.getD i 0 + h.getD i 0 else v.getD i 0
def blockU (h : List UInt32) (b : List UInt8) (ks : List UInt32) : List UInt32 := addTo (rounds ks (sched b 64) h 64) h 8
def constU : List UInt32 := [0x428a2f98, 0x71374491, 0xb5c0fbcf, 0xe9b5dba5, 0x3956c25b, 0x59f111f1, 0x923f82a4, 0xab1c5ed5,
  0xd807aa98, 0x12835b01, 0x243185be, 0x550c7dc3, 0x72be5d74, 0x80deb1fe, 0x9bdc06a7, 0xc19bf174,
  0xe49b69c1, 0xefbe4786, 0x0fc19dc6, 0x240ca1cc, 0x2de92c6f, 0x4a7484aa, 0x5cb0a9dc, 0x76f988da,
  0x983e5152, 0xa831c66d, 0xb00327c8, 0xbf597fc7, 0xc6e00bf3, 0xd5a79147, 0x06ca6351, 0x14292967,
  0x27b70a85, 0x2e1b2138, 0x4d2c6dfc, 0x53380d13, 0x650a7354, 0x766a0abb, 0x81c2c92e, 0x92722c85,
  0xa2bfe8a1, 0xa81a664b, 0xc24b8b70, 0xc76c51a3, 0xd192e819, 0xd6990624, 0xf40e3585, 0x106aa070,
  0x19a4c116, 0x1e376c08, 0x2748774c, 0x34b0bcb5, 0x391c0cb3, 0x4ed8aa4a, 0x5b9cca4f, 0x682e6ff3,
  0x748f82ee, 0x78a5636f, 0x84c87814, 0x8cc70208, 0x90befffa, 0xa4506ceb, 0xbef9a3f7, 0xc67178f2]
def startU : List UInt32 := [0x6a09e667, 0xbb67ae85, 0x3c6ef372, 0xa54ff53a, 0x510e527f, 0x9b05688c, 0x1f83d9ab, 0x5be0cd19]
/-- How many zeros are laid behind n bytes. -/
def padN (n : Nat) : Nat := (56 + 64 - n % 64) % 64
theorem padN_spec (n : Nat) : (n + padN n) % 64 = 56 ∧ ∀ j, j < padN n → (n + j) % 64 ≠ 56 := by
  unfold padN
  refine ⟨by omega, fun j hj => by omega⟩
/-- A length as eight bytes. -/
def len8 (n : Nat) : List UInt8 := int8 ((n : Int) * 8)
theorem len8_len (n : Nat) : (len8 n).length = 8 := rfl
/-- The padded message. -/
def padded (b : List UInt8) : List UInt8 := b ++ [128] ++ List.replicate (padN (b.length + 1)) 0 ++ len8 b.length
theorem padded_mod (b : List UInt8) : (padded b).length % 64 = 0 := by
  have := (padN_spec (b.length + 1)).1
  simp only [padded, List.length_append, List.length_replicate, len8_len, List.length_cons, List.length_nil]
  omega
/-- The state behind n blocks of 64 bytes. -/
def blocks (m : List UInt8) : Nat → List UInt32
  | 0 => startU
  | n + 1 => blockU (blocks m n) ((m.drop (64 * n)).take 64) constU
theorem addTo_len (v h : List UInt32) (n : Nat) : (addTo v h n).length = v.length := by simp [addTo]
theorem blockU_len (h : List UInt32) (b : List UInt8) (ks : List UInt32) (hh : h.length = 8) : (blockU h b ks).length = 8 := by rw [blockU, addTo_len, rounds_len _ _ _ hh]
theorem blocks_len (m : List UInt8) : ∀ n, (blocks m n).length = 8
  | 0 => rfl
  | n + 1 => blockU_len _ _ _ (blocks_len m n)
def bytesU (x : UInt32) : List UInt8 := [(x >>> 24).toUInt8, (x >>> 16).toUInt8, (x >>> 8).toUInt8, x.toUInt8]
def outTo (h : List UInt32) (n : Nat) : List UInt8 := (h.take n).flatMap bytesU
/-- SHA-256. -/
def sha (b : List UInt8) : ByteArray := strOf (outTo (blocks (padded b) ((padded b).length / 64)) 8)
theorem outTo_len (h : List UInt32) (n : Nat) (hn : n ≤ h.length) : (outTo h n).length = 4 * n := by
  unfold outTo
  induction n with
  | zero => simp
  | succ n ih =>
    rw [List.take_add_one, List.getElem?_eq_getElem (by omega), List.flatMap_append, List.length_append, ih (by omega)]
    simp [bytesU]; omega
theorem sha_size (b : List UInt8) : (sha b).size = 32 := by
  unfold sha
  rw [strOf_size, outTo_len _ _ (by rw [blocks_len]; omega)]

/-! Words in their cells -/
def wdE (x : UInt32) : List Value := [.int .u32 x.toNat]
theorem wdE_len (x : UInt32) : (wdE x).length = 1 := rfl
theorem one_wdE : ∀ b, ∀ v ∈ wdE b, v.oneCell' = true := fun b v hv => by simp [wdE] at hv; subst hv; rfl
def wdRep : Rep UInt32 := valRep wdE 1 wdE_len one_wdE
theorem Try.infoW : (Try.prog.info? 88).map (fun i => (i.zero, i.size, i.bytes)) = some (some (.int .u32 0), 1, 4) := by kernel_rfl
theorem flat_wdE (xs : List UInt32) : flatL wdE xs = xs.map fun b => .int .u32 b.toNat := by
  induction xs with
  | nil => rfl
  | cons x r ih => simp only [flatL, List.flatMap_cons, List.map_cons] at *; rw [ih]; rfl
theorem wd_get {P : Nat → Prop} {w : World} {ao : Option Addr} {xs : List UInt32} (h : SlAt wdRep P w ao xs) (i : Nat) (hi : i < xs.length) : ∃ b off, ao = some ⟨b, off, none⟩ ∧ P b ∧ b < w.heap.size ∧ w.cell? ⟨b, off + i, none⟩ = some (.int .u32 (xs[i]).toNat) := by
  obtain ⟨b, off, cs, e, hp, hr, hR⟩ := h i hi
  have := hr 0 (.int .u32 (xs[i]).toNat) (by rw [show cs = _ from hR]; rfl)
  rw [show off + i * wdRep.k + 0 = off + i by simp [wdRep, valRep]] at this
  exact ⟨b, off, e, hp, World.block_lt_of_cell? w _ this, this⟩

/-! What the machine makes of words -/
theorem u_xor (x y : UInt32) : bits .xor .u32 (x.toNat : Int) (y.toNat : Int) = ((x ^^^ y).toNat : Int) := by rw [u32_xor_nat _ _ x.toNat_lt y.toNat_lt, UInt32.toNat_xor]
theorem u_or (x y : UInt32) : bits .or .u32 (x.toNat : Int) (y.toNat : Int) = ((x ||| y).toNat : Int) := by rw [u32_or_nat _ _ x.toNat_lt y.toNat_lt, UInt32.toNat_or]
theorem u_and (x y : UInt32) : bits .and .u32 (x.toNat : Int) (y.toNat : Int) = ((x &&& y).toNat : Int) := by rw [u32_and_nat _ _ x.toNat_lt y.toNat_lt, UInt32.toNat_and]
theorem u_not (x : UInt32) : bits .xor .u32 4294967295 (x.toNat : Int) = ((~~~x).toNat : Int) := by
  have h := u_xor 4294967295 x
  have e : (4294967295 : UInt32) ^^^ x = ~~~x := by
    apply UInt32.toBitVec_inj.1
    simp only [UInt32.toBitVec_xor, UInt32.toBitVec_not]
    exact BitVec.allOnes_xor
  rw [e] at h
  exact h
theorem u_add (x y : UInt32) : IntKind.u32.wrap ((x.toNat : Int) + (y.toNat : Int)) = ((x + y).toNat : Int) := by
  rw [IntKind.wrap_u32, UInt32.toNat_add]
  omega
theorem u_add' (x y : UInt32) : ((x.toNat : Int) + (y.toNat : Int)) % 4294967296 = ((x + y).toNat : Int) := by rw [← u_add, IntKind.wrap_u32]
theorem u_shr (x : UInt32) (n : Nat) (hn : n < 32) : (x.toNat : Int) / 2 ^ n = ((x >>> UInt32.ofNat n).toNat : Int) := by
  rw [UInt32.toNat_shiftRight, UInt32.toNat_ofNat', Nat.shiftRight_eq_div_pow, Nat.mod_eq_of_lt (show n < 2 ^ 32 by omega), Nat.mod_eq_of_lt hn, Int.natCast_ediv, Int.natCast_pow]
  rfl
theorem u_shl (x : UInt32) (n : Nat) (hn : n < 32) : (x.toNat : Int) * 2 ^ n % 4294967296 = ((x <<< UInt32.ofNat n).toNat : Int) := by
  rw [UInt32.toNat_shiftLeft, UInt32.toNat_ofNat', Nat.shiftLeft_eq, Nat.mod_eq_of_lt (show n < 2 ^ 32 by omega), Nat.mod_eq_of_lt hn, Int.natCast_emod, Int.natCast_mul, Int.natCast_pow]
  rfl
/-! The same behind names that the walk's simp does not open -/
def xorU (x y : UInt32) : UInt32 := x ^^^ y
def andU (x y : UInt32) : UInt32 := x &&& y
def orU (x y : UInt32) : UInt32 := x ||| y
def notU (x : UInt32) : UInt32 := ~~~x
def addU (x y : UInt32) : UInt32 := x + y
def shrU (x : UInt32) (n : Nat) : UInt32 := x >>> UInt32.ofNat n
theorem r_xor (x y : UInt32) : bits .xor .u32 (x.toNat : Int) (y.toNat : Int) = ((xorU x y).toNat : Int) := u_xor x y
theorem r_and (x y : UInt32) : bits .and .u32 (x.toNat : Int) (y.toNat : Int) = ((andU x y).toNat : Int) := u_and x y
theorem r_or (x y : UInt32) : bits .or .u32 (x.toNat : Int) (y.toNat : Int) = ((orU x y).toNat : Int) := u_or x y
theorem r_not (x : UInt32) : bits .xor .u32 IntKind.u32.max (x.toNat : Int) = ((notU x).toNat : Int) := by
  rw [show IntKind.u32.max = 4294967295 by decide]; exact u_not x
theorem r_add (x y : UInt32) : IntKind.u32.wrap ((x.toNat : Int) + (y.toNat : Int)) = ((addU x y).toNat : Int) := u_add x y
theorem r_add' (x y : UInt32) : ((x.toNat : Int) + (y.toNat : Int)) % 4294967296 = ((addU x y).toNat : Int) := u_add' x y
theorem r_shr3 (x : UInt32) : (x.toNat : Int) / 8 = ((shrU x 3).toNat : Int) := u_shr x 3 (by omega)
theorem r_shr10 (x : UInt32) : (x.toNat : Int) / 1024 = ((shrU x 10).toNat : Int) := u_shr x 10 (by omega)
theorem u_turn (x : UInt32) (n : Nat) (h1 : 1 ≤ n) (h2 : n ≤ 31) : bits .or .u32 ((x.toNat : Int) / 2 ^ n) ((x.toNat : Int) * 2 ^ (32 - n) % 4294967296) = ((turnU x n).toNat : Int) := by
  rw [u_shr x n (by omega), u_shl x (32 - n) (by omega), u_or]
  rfl
end Go.Proofs.Ytdmchekkcmjafaa

namespace Go.Proofs.Ytdmchekkcmjafaa
open Go.RowKit Go.Sort

theorem filter_yes {p : St → Bool} {l : List St} {k : Nat} {s : St} (h : l[k]? = some s) (hp : p s = true) : (l.take (k + 1)).filter p = (l.take k).filter p ++ [s] := by
  rw [List.take_add_one, h, List.filter_append]; simp [hp]
theorem filter_no {p : St → Bool} {l : List St} {k : Nat} {s : St} (h : l[k]? = some s) (hp : p s = false) : (l.take (k + 1)).filter p = (l.take k).filter p := by
  rw [List.take_add_one, h, List.filter_append]; simp [hp]
theorem filter_le {p : St → Bool} {l : List St} {k : Nat} (hk : k ≤ l.length) : ((l.take k).filter p).length ≤ k := Nat.le_trans (List.length_filter_le _ _) (by simp; omega)

/-- The cells of a literal of one statement. -/
theorem lit_st {w : World} {x : St × Sv × Sv} {t : TypeId} {cs : Array Value} (h : cs.toList = stE x) : ∀ (j : Nat) (v : Value), (stE x)[j]? = some v → (w.alloc (.cells cs t)).cell? ⟨w.heap.size, j, none⟩ = some v := fun j v hv => by
  rw [cell_of_row _ _ _ _ _ _ (heap_alloc_new w _)]
  rw [← h] at hv
  simpa using hv
/-- Lists that have been laid anew do not lie in the row that was there before. -/
theorem lies_new {wr w2 : World} {base : Nat} {ao : Option Addr} {cap : Nat} {l : List St} {x : St × Sv × Sv} {o : Obj} (hown : OwnS wr base ao cap l) (hx : Lies (fun b => wr.heap.size ≤ b) w2 x) (hb : base ≤ wr.heap.size) : Lies (fun b => base ≤ b ∧ rowOf ao ≠ some b) (w2.alloc o) x := by
  obtain ⟨xs, _, h1, _⟩ := hown
  refine Lies.mono (P := fun b => wr.heap.size ≤ b) (hx.keep fun b _ hlt => (Ex.new w2 o).block b hlt (by simp)) (fun b hbb _ => ⟨by omega, fun e => ?_⟩)
  cases ao with
  | none => cases e
  | some ad =>
    have := (h1.lt ad rfl).2
    simp [rowOf] at e
    omega

set_option maxHeartbeats 2000000 in
set_option maxRecDepth 100000 in
theorem refUntil_any {P : Nat → Prop} (v : Value) (l : List St) (t : Int) (w : World) (hv : Sl stRep P w v l) (hm : l.length ≤ 100000) (hl : LightL 1000000 l) :
    Calls Try.prog 12 #[v, .int .i64 t] w fun e w' => ∃ ro rc, e = .returned (.slice ro (l.filter (fun s => decide (s.time ≤ t))).length rc) ∧ OwnS w' w.heap.size ro rc (l.filter (fun s => decide (s.time ≤ t))) ∧ Ex w.heap.size none w w' := by
  obtain ⟨ao, cap, rfl, hx⟩ := hv
  have HL := Lib.hid hl
  obtain ⟨p, hp⟩ : ∃ p : St → Bool, p = (fun s => decide (s.time ≤ t)) := ⟨_, rfl⟩
  have HP := Lib.hid hp
  rw [← hp]
  clear hl hp
  go_enter Try.func12, Try.ntmps12
  go_wp2
  go_loopw [5, 6] (fun v i wr => ∃ (k : Nat) (ro : Option Addr) (rc : Nat), k ≤ l.length ∧ i = .int .i64 k ∧ v = .slice ro ((l.take k).filter p).length rc ∧ OwnS wr w.heap.size ro rc ((l.take k).filter p) ∧ Ex w.heap.size none w wr) (fun _ i _ => l.length - (intOf i).toNat)
  case atStart => exact ⟨0, none, 0, by omega, rfl, by simp, by simpa using OwnS.nil _ _, Ex.refl _ _ _⟩
  case round =>
    obtain ⟨k, ro, rc, hk, rfl, rfl, hown, hex⟩ := hrel
    have hle := filter_le (p := p) hk
    have hsz := hex.size
    by_cases hlt : k < l.length
    · have fx := hx.keep (by decide) (fun b _ hb => hex.block b hb (by simp))
      obtain ⟨b, off, s, ⟨lo, ln, lc⟩, ⟨po, pn, pc⟩, rfl, _, hls, hr, HX⟩ := st_get fx k hlt
      have hc := st_at hr
      simp only [Sv.v] at hc
      obtain ⟨c0, c1, c2, c3, c4, c5, c6, c7, c8, c9, c10, c11, c12⟩ := hc
      have hm1 := HL.out.get HX.out
      have HLS := Lib.hid hls
      have HO := Lib.hid hown
      clear fx hr hls hown
      by_cases hp : s.time ≤ t
      · have d1 : decide (s.time ≤ t) = true := decide_eq_true hp
        have HK : Hid ((l.take (k + 1)).filter p = (l.take k).filter p ++ [s]) := filter_yes HX.out (by rw [HP.out]; exact d1)
        go_wp2_with fail
        refine (copy03_lit s lo po ln lc pn pc _ HLS.out (by omega)).mono ?_
        rintro e w2 ⟨la, na, ca, pa, np, cp, rfl, hl2, hex2⟩
        have hs2 := hex2.size
        have HL2 := Lib.hid hl2
        clear hl2 c0 c1 c2 c3 c4 c5 c6 c7 c8 c9 c10 c11 c12
        go_wp2_with (at_builtin; refine wpList_appS rfl (.tmp 20) (.tmp 26) _ rfl Try.underlying22 Try.infoSt w.heap.size ro rc _ ((l.take k).filter p) rfl (by rfl) w2.heap.size (by rfl) (s, ⟨la, na, ca⟩, ⟨pa, np, cp⟩) (HO.out.keep (hex2.trans (Ex.new w2 _) hs2 (by simp)) (Nat.le_refl _)) (lit_st rfl) (lies_new HO.out HL2.out hsz) (by omega) (by simp <;> omega) ?_; intro ro' rc' w3 hown3 hex3)
        go_roundw
        case rel => exact ⟨k + 1, ro', rc', by omega, by go_num, by rw [HK.out, List.length_append]; rfl, by rw [HK.out]; exact hown3, (hex.trans hex2 hsz (by simp)).trans ((Ex.new w2 _).mono (show w.heap.size ≤ w2.heap.size by omega) |>.trans hex3 (Nat.le_refl _) (by simp)) (Nat.le_refl _) (by simp)⟩
        case measure => simp [intOf] <;> omega
      · have d1 : decide (s.time ≤ t) = false := decide_eq_false hp
        have HK : Hid ((l.take (k + 1)).filter p = (l.take k).filter p) := filter_no HX.out (by rw [HP.out]; exact d1)
        go_wp2
        go_roundw
        case rel => exact ⟨k + 1, ro, rc, by omega, by go_num, by rw [HK.out], by rw [HK.out]; exact HO.out, hex⟩
        case measure => simp [intOf] <;> omega
    · obtain rfl : k = l.length := by omega
      rw [List.take_length] at hown ⊢
      go_wp2
      go_ret
      exact ⟨ro, rc, rfl, hown, hex⟩

set_option maxHeartbeats 2000000 in
set_option maxRecDepth 100000 in
theorem refWindow_any {P : Nat → Prop} (v : Value) (l : List St) (t u : Int) (w : World) (hv : Sl stRep P w v l) (hm : l.length ≤ 100000) (hl : LightL 1000000 l) :
    Calls Try.prog 14 #[v, .int .i64 t, .int .i64 u] w fun e w' => ∃ ro rc, e = .returned (.slice ro (l.filter (fun s => decide (t ≤ s.time) && decide (s.time ≤ u))).length rc) ∧ OwnS w' w.heap.size ro rc (l.filter (fun s => decide (t ≤ s.time) && decide (s.time ≤ u))) ∧ Ex w.heap.size none w w' := by
  obtain ⟨ao, cap, rfl, hx⟩ := hv
  have HL := Lib.hid hl
  obtain ⟨p, hp⟩ : ∃ p : St → Bool, p = (fun s => decide (t ≤ s.time) && decide (s.time ≤ u)) := ⟨_, rfl⟩
  have HP := Lib.hid hp
  rw [← hp]
  clear hl hp
  go_enter Try.func14, Try.ntmps14
  go_wp2
  go_loopw [7, 8] (fun v i wr => ∃ (k : Nat) (ro : Option Addr) (rc : Nat), k ≤ l.length ∧ i = .int .i64 k ∧ v = .slice ro ((l.take k).filter p).length rc ∧ OwnS wr w.heap.size ro rc ((l.take k).filter p) ∧ Ex w.heap.size none w wr) (fun _ i _ => l.length - (intOf i).toNat)
  case atStart => exact ⟨0, none, 0, by omega, rfl, by simp, by simpa using OwnS.nil _ _, Ex.refl _ _ _⟩
  case round =>
    obtain ⟨k, ro, rc, hk, rfl, rfl, hown, hex⟩ := hrel
    have hle := filter_le (p := p) hk
    have hsz := hex.size
    by_cases hlt : k < l.length
    · have fx := hx.keep (by decide) (fun b _ hb => hex.block b hb (by simp))
      obtain ⟨b, off, s, ⟨lo, ln, lc⟩, ⟨po, pn, pc⟩, rfl, _, hls, hr, HX⟩ := st_get fx k hlt
      have hc := st_at hr
      simp only [Sv.v] at hc
      obtain ⟨c0, c1, c2, c3, c4, c5, c6, c7, c8, c9, c10, c11, c12⟩ := hc
      have hm1 := HL.out.get HX.out
      have HLS := Lib.hid hls
      have HO := Lib.hid hown
      clear fx hr hls hown
      by_cases hp : t ≤ s.time
      · have d1 : decide (t ≤ s.time) = true := decide_eq_true hp
        by_cases hq : s.time ≤ u
        · have d2 : decide (s.time ≤ u) = true := decide_eq_true hq
          have HK : Hid ((l.take (k + 1)).filter p = (l.take k).filter p ++ [s]) := filter_yes HX.out (by rw [HP.out]; simp [d1, d2])
          go_wp2_with fail
          refine (copy03_lit s lo po ln lc pn pc _ HLS.out (by omega)).mono ?_
          rintro e w2 ⟨la, na, ca, pa, np, cp, rfl, hl2, hex2⟩
          have hs2 := hex2.size
          have HL2 := Lib.hid hl2
          clear hl2 c0 c1 c2 c3 c4 c5 c6 c7 c8 c9 c10 c11 c12
          go_wp2_with (at_builtin; refine wpList_appS rfl (.tmp 31) (.tmp 37) _ rfl Try.underlying22 Try.infoSt w.heap.size ro rc _ ((l.take k).filter p) rfl (by rfl) w2.heap.size (by rfl) (s, ⟨la, na, ca⟩, ⟨pa, np, cp⟩) (HO.out.keep (hex2.trans (Ex.new w2 _) hs2 (by simp)) (Nat.le_refl _)) (lit_st rfl) (lies_new HO.out HL2.out hsz) (by omega) (by simp <;> omega) ?_; intro ro' rc' w3 hown3 hex3)
          go_roundw
          case rel => exact ⟨k + 1, ro', rc', by omega, by go_num, by rw [HK.out, List.length_append]; rfl, by rw [HK.out]; exact hown3, (hex.trans hex2 hsz (by simp)).trans ((Ex.new w2 _).mono (show w.heap.size ≤ w2.heap.size by omega) |>.trans hex3 (Nat.le_refl _) (by simp)) (Nat.le_refl _) (by simp)⟩
          case measure => simp [intOf] <;> omega
        · have d2 : decide (s.time ≤ u) = false := decide_eq_false hq
          have HK : Hid ((l.take (k + 1)).filter p = (l.take k).filter p) := filter_no HX.out (by rw [HP.out]; simp [d1, d2])
          go_wp2
          go_roundw
          case rel => exact ⟨k + 1, ro, rc, by omega, by go_num, by rw [HK.out], by rw [HK.out]; exact HO.out, hex⟩
          case measure => simp [intOf] <;> omega
      · have d1 : decide (t ≤ s.time) = false := decide_eq_false hp
        have HK : Hid ((l.take (k + 1)).filter p = (l.take k).filter p) := filter_no HX.out (by rw [HP.out]; simp [d1])
        go_wp2
        go_roundw
        case rel => exact ⟨k + 1, ro, rc, by omega, by go_num, by rw [HK.out], by rw [HK.out]; exact HO.out, hex⟩
        case measure => simp [intOf] <;> omega
    · obtain rfl : k = l.length := by omega
      rw [List.take_length] at hown ⊢
      go_wp2
      go_ret
      exact ⟨ro, rc, rfl, hown, hex⟩
end Go.Proofs.Ytdmchekkcmjafaa

namespace Go.Proofs.Ytdmchekkcmjafaa
open Go.RowKit Go.Sort

theorem sl_none {α : Type} {r : Rep α} {P : Nat → Prop} {w : World} {xs : List α} (h : SlAt r P w none xs) : xs = [] := by
  rcases Nat.eq_zero_or_pos xs.length with h0 | h0
  · exact List.eq_nil_of_length_eq_zero h0
  · obtain ⟨b, off, _, e, _⟩ := h 0 h0
    cases e

set_option maxHeartbeats 1000000 in
theorem cloneInts_any {P : Nat → Prop} (ao : Option Addr) (n cap : Nat) (xs : List Int) (w : World) (hv : Sl intRep P w (.slice ao n cap) xs) (hm : xs.length ≤ 1000000) :
    Calls Try.prog 46 #[.slice ao n cap] w fun e w' => ∃ (ao' : Option Addr) (n' c' : Nat), e = .returned (.slice ao' n' c') ∧ Sl intRep (fun b => w.heap.size ≤ b) w' (.slice ao' n' c') xs ∧ Ex w.heap.size none w w' := by
  have q : ∀ (w : World) (a : Option Addr) (n c n' c' : Nat), (binOp .eql 25 (.slice a n c) (.slice none n' c')).run Try.prog w = .ok (.bool a.isNone) w := fun w a n c n' c' => Lib.run_eql_slice_nil w _ _ a n c n' c' Try.underlying25
  obtain ⟨ao', cap', e, hx⟩ := hv
  simp only [Value.slice.injEq] at e
  obtain ⟨rfl, rfl, rfl⟩ := e
  cases ao with
  | none =>
    obtain rfl := sl_none hx
    go_enter Try.func46, Try.ntmps46
    go_wp2
    go_ret
    exact ⟨none, 0, 0, rfl, Sl.nil _ _, Ex.refl _ _ _⟩
  | some ad =>
    have HX : Hid (Sl intRep P w (.slice (some ad) xs.length cap) xs) := ⟨_, _, rfl, hx⟩
    clear hx
    go_enter Try.func46, Try.ntmps46
    go_wp2_with (at_builtin; refine wpList_appIs (w0 := w.alloc (.cells #[] 3)) rfl (.tmp 5) (.tmp 6) _ rfl Try.underlying25 Try.infoInt w.heap.size (some ⟨w.heap.size, 0, none⟩) 0 [] xs (.slice (some ⟨w.heap.size, 0, none⟩) 0 0) _ 0 rfl rfl (by rfl) (by rfl) (sl_ints (HX.out.keep (by decide) (fun b _ hb => (Ex.new w _).block b hb (by simp)))) (World.ownsRow_lit w #[] 0 (Nat.le_refl _) (by decide) rfl) (Ex.refl _ _ _) (by simp; omega) (by simp) ?_; intro la lcap w1 hown1 hex1)
    go_ret
    refine ⟨la, xs.length, lcap, by simp, by simpa using own_ints_sl hown1, (Ex.new w (.cells #[] 3)).trans hex1 (Nat.le_refl _) (by simp)⟩

set_option maxHeartbeats 1000000 in
theorem clonePins_any {P : Nat → Prop} (ao : Option Addr) (n cap : Nat) (xs : List PinD) (w : World) (hv : Sl pinRep P w (.slice ao n cap) xs) (hm : xs.length ≤ 1000000) :
    Calls Try.prog 47 #[.slice ao n cap] w fun e w' => ∃ (ao' : Option Addr) (n' c' : Nat), e = .returned (.slice ao' n' c') ∧ Sl pinRep (fun b => w.heap.size ≤ b) w' (.slice ao' n' c') xs ∧ Ex w.heap.size none w w' := by
  have q : ∀ (w : World) (a : Option Addr) (n c n' c' : Nat), (binOp .eql 26 (.slice a n c) (.slice none n' c')).run Try.prog w = .ok (.bool a.isNone) w := fun w a n c n' c' => Lib.run_eql_slice_nil w _ _ a n c n' c' Try.underlying26
  obtain ⟨ao', cap', e, hx⟩ := hv
  simp only [Value.slice.injEq] at e
  obtain ⟨rfl, rfl, rfl⟩ := e
  cases ao with
  | none =>
    obtain rfl := sl_none hx
    go_enter Try.func47, Try.ntmps47
    go_wp2
    go_ret
    exact ⟨none, 0, 0, rfl, Sl.nil _ _, Ex.refl _ _ _⟩
  | some ad =>
    have HX : Hid (Sl pinRep P w (.slice (some ad) xs.length cap) xs) := ⟨_, _, rfl, hx⟩
    clear hx
    go_enter Try.func47, Try.ntmps47
    go_wp2_with (at_builtin; refine wpList_appE (w0 := w.alloc (.cells #[] 66)) rfl (.tmp 5) (.tmp 6) _ 66 rfl Try.underlying26 (.agg #[.int .i64 0, .int .i64 0, .string ⟨#[]⟩]) 3 32 Try.infoPin rfl (by decide) (by decide) pinE pinE_len one_pinE w.heap.size (some ⟨w.heap.size, 0, none⟩) 0 [] xs (.slice (some ⟨w.heap.size, 0, none⟩) 0 0) _ 0 rfl rfl (by rfl) (some ad) xs.length cap (by rfl) rfl rfl (val_cells (hk := pinE_len) (h1 := one_pinE) (by decide) (HX.out.keep (by decide) (fun b _ hb => (Ex.new w _).block b hb (by simp))).at') (World.ownsRow_lit w #[] 0 (Nat.le_refl _) (by decide) rfl) (Ex.refl _ _ _) (by simp; omega) (by simp) ?_; intro la lcap w1 hown1 hex1)
    go_ret
    exact ⟨la, xs.length, lcap, by simp, by
      have h := own_val_sl (hk := pinE_len) (h1 := one_pinE) hown1
      simp only [List.nil_append] at h
      exact h, (Ex.new w (.cells #[] 66)).trans hex1 (Nat.le_refl _) (by simp)⟩
end Go.Proofs.Ytdmchekkcmjafaa
