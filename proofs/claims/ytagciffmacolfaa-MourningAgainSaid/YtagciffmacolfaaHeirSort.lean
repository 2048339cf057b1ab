/- The library's insertion sort at heirs, by the shelf's contract: its laying in plain words, and the contract at heirs sorted by the lost key. No statement of the seat. -/
import Derived.Shelf.SlSortCmp.InsertionK
import Derived.Test.YtagciffmacolfaaHeirFns
namespace Go.Proofs
open Go.Shelf
def Try.insHeir_ren : Go.Shelf.Ren := ⟨fun | 20 => 84 | n => n, fun | 24 => 43 | 22 => 38 | 3 => 3 | 25 => 77 | 4 => 4 | 0 => 0 | n => n, fun | n => n⟩
theorem Try.insHeir : Go.Proofs.SlLaysF0.n20 Try.prog Try.insHeir_ren := {
  mixed := by kernel_rfl
  f20 := ⟨Try.f84.name, by decide, Try.func84.trans (congrArg some (by kernel_rfl))⟩
  t0 := Try.underlying0
  a0 := Try.isAgg0
  z0 := Try.sizeOf0
  v0 := Try.zeroValue0
  t3 := Try.underlying3
  a3 := Try.isAgg3
  z3 := Try.sizeOf3
  v3 := Try.zeroValue3
  t4 := Try.underlying4
  a4 := Try.isAgg4
  z4 := Try.sizeOf4
  v4 := Try.zeroValue4
  t22 := Try.underlying38
  a22 := Try.isAgg38
  z22 := Try.sizeOf38
  v22 := Try.zeroValue38
  t25 := Try.underlying77
  a25 := Try.isAgg77
  z25 := Try.sizeOf77
  v25 := Try.zeroValue77 }
end Go.Proofs
namespace Go.Proofs.Ytagciffmacolfaa
open Go.RowKit Go.Sort

def encH (x : Int × Int) : List Value := [.int .i64 x.1, .int .i64 x.2]
theorem one_encH : ∀ x, ∀ v ∈ encH x, v.oneCell' = true := fun x v hv => by simp [encH] at hv; rcases hv with rfl | rfl <;> rfl
def byLost (x y : Int × Int) : Int := cmpI x.1 y.1

theorem insHeir_any (g off cap a b n : Nat) (A B : Int) (hA : (a : Int) = A) (hB : (b : Int) = B) (d : Array (Int × Int)) (w : World) (hH : HoldsK encH 2 w g off d) (hg : g < w.heap.size) (hab : a ≤ b) (hb : b ≤ d.size) (hsz : d.size < 4611686018427387904) (hn : d.size = n) :
    Calls Try.prog 84 #[.slice (some ⟨g, off, none⟩) n cap, .int .i64 A, .int .i64 B, .func (.func 63) #[] #[]] w fun e w' =>
      e = .returned (.tuple #[]) ∧ ∃ n os, w' = sortWorldK encH 2 w g off n (Sort.insertionSort (ltOf byLost) d a b) os := by
  subst hA hB hn
  exact AnyQ.insertionSortCmpFunc Try.insHeir 2 Try.isAgg43 Try.sizeOf43 encH (fun _ => rfl) (fun x v hv => by simp [encH] at hv; rcases hv with rfl | rfl <;> rfl) byLost 63 #[] g off cap a b d w
    (enters_of Try.func63 (by kernel_rfl) rfl) (fun m os dk _ x y => byLost_any x y _) hH hg hab hb hsz
end Go.Proofs.Ytagciffmacolfaa
