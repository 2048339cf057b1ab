/- What the library's stable sort at trustflow/api.Heir leans on of a program: so that its walks may be made over whatever program and number of cells. No statement of the seat. -/
import Derived.Test.YtagciffmacolfaaRows
import Derived.Test.YtagciffmacolfaaSym
import Derived.Test.YtagciffmacolfaaRowK
namespace Go.Proofs.Ytagciffmacolfaa
open Go.RowKit Go.Sort

structure LayHeir (P : Program) (k : Nat) : Prop where
  mixed : P.follows .mixedOrders = true
  fS : P.funcs[94]? = some Try.f94
  fR : P.funcs[92]? = some Try.f92
  fM : P.funcs[85]? = some Try.f85
  fT : P.funcs[71]? = some Try.f71
  fI : ∀ args w, (callFunc 84 args).run P w = .ok (.enter 84 args) w
  t0 : P.underlying 0 = some (TypeDesc.tuple #[])
  a0 : ∀ w, (isAgg 0).run P w = .ok false w
  z0 : ∀ w, (Go.sizeOf 0).run P w = .ok 1 w
  v0 : ∀ w, (zeroValue 0).run P w = .ok (Value.tuple #[]) w
  t1 : P.underlying 3 = some (TypeDesc.int IntKind.i64)
  a1 : ∀ w, (isAgg 3).run P w = .ok false w
  z1 : ∀ w, (Go.sizeOf 3).run P w = .ok 1 w
  v1 : ∀ w, (zeroValue 3).run P w = .ok (Value.int IntKind.i64 0) w
  t2 : P.underlying 4 = some (TypeDesc.bool)
  a2 : ∀ w, (isAgg 4).run P w = .ok false w
  z2 : ∀ w, (Go.sizeOf 4).run P w = .ok 1 w
  v2 : ∀ w, (zeroValue 4).run P w = .ok (Value.bool false) w
  t3 : P.underlying 80 = some (TypeDesc.int IntKind.u64)
  a3 : ∀ w, (isAgg 80).run P w = .ok false w
  z3 : ∀ w, (Go.sizeOf 80).run P w = .ok 1 w
  v3 : ∀ w, (zeroValue 80).run P w = .ok (Value.int IntKind.u64 0) w
  t4 : P.underlying 38 = some (TypeDesc.slice 43)
  a4 : ∀ w, (isAgg 38).run P w = .ok false w
  z4 : ∀ w, (Go.sizeOf 38).run P w = .ok 1 w
  v4 : ∀ w, (zeroValue 38).run P w = .ok (Value.slice none 0 0) w
  t5 : P.underlying 77 = some (TypeDesc.func #[43, 43] #[3] false)
  a5 : ∀ w, (isAgg 77).run P w = .ok false w
  z5 : ∀ w, (Go.sizeOf 77).run P w = .ok 1 w
  v5 : ∀ w, (zeroValue 77).run P w = .ok (Value.nilFunc) w
  aE : ∀ w, (isAgg 43).run P w = .ok true w
  zE : ∀ w, (Go.sizeOf 43).run P w = .ok k w

theorem layHeir : LayHeir Try.prog 2 := {
  mixed := by kernel_rfl
  fS := Try.func94
  fR := Try.func92
  fM := Try.func85
  fT := Try.func71
  fI := enters_of Try.func84 (by kernel_rfl) rfl
  t0 := Try.underlying0
  a0 := Try.isAgg0
  z0 := Try.sizeOf0
  v0 := Try.zeroValue0
  t1 := Try.underlying3
  a1 := Try.isAgg3
  z1 := Try.sizeOf3
  v1 := Try.zeroValue3
  t2 := Try.underlying4
  a2 := Try.isAgg4
  z2 := Try.sizeOf4
  v2 := Try.zeroValue4
  t3 := Try.underlying80
  a3 := Try.isAgg80
  z3 := Try.sizeOf80
  v3 := Try.zeroValue80
  t4 := Try.underlying38
  a4 := Try.isAgg38
  z4 := Try.sizeOf38
  v4 := Try.zeroValue38
  t5 := Try.underlying77
  a5 := Try.isAgg77
  z5 := Try.sizeOf77
  v5 := Try.zeroValue77
  aE := Try.isAgg43
  zE := Try.sizeOf43 }
end Go.Proofs.Ytagciffmacolfaa
