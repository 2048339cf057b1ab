/- What the library's stable sort at trustflow/api.Statement leans on of a program: so that its walks may be made over whatever program and number of cells. No statement of the seat. -/
import Derived.Test.YtdmchekkcmjafaaRows
import Derived.Test.YtdmchekkcmjafaaSym
import Derived.Test.YtdmchekkcmjafaaRowK
namespace Go.Proofs.Ytdmchekkcmjafaa
open Go.RowKit Go.Sort

structure LaySt (P : Program) (k : Nat) : Prop where
  mixed : P.follows .mixedOrders = true
  fS : P.funcs[75]? = some Try.f75
  fR : P.funcs[71]? = some Try.f71
  fM : P.funcs[62]? = some Try.f62
  fT : P.funcs[48]? = some Try.f48
  fI : ∀ args w, (callFunc 61 args).run P w = .ok (.enter 61 args) w
  t0 : P.underlying 0 = some (TypeDesc.tuple #[])
  a0 : ∀ w, (isAgg 0).run P w = .ok false w
  z0 : ∀ w, (Go.sizeOf 0).run P w = .ok 1 w
  v0 : ∀ w, (zeroValue 0).run P w = .ok (Value.tuple #[]) w
  t1 : P.underlying 3 = some (TypeDesc.int IntKind.i64)
  a1 : ∀ w, (isAgg 3).run P w = .ok false w
  z1 : ∀ w, (Go.sizeOf 3).run P w = .ok 1 w
  v1 : ∀ w, (zeroValue 3).run P w = .ok (Value.int IntKind.i64 0) w
  t2 : P.underlying 4 = some (TypeDesc.bool)
  a2 : ∀ w, (isAgg 4).run P w = .ok false w
  z2 : ∀ w, (Go.sizeOf 4).run P w = .ok 1 w
  v2 : ∀ w, (zeroValue 4).run P w = .ok (Value.bool false) w
  t3 : P.underlying 85 = some (TypeDesc.int IntKind.u64)
  a3 : ∀ w, (isAgg 85).run P w = .ok false w
  z3 : ∀ w, (Go.sizeOf 85).run P w = .ok 1 w
  v3 : ∀ w, (zeroValue 85).run P w = .ok (Value.int IntKind.u64 0) w
  t4 : P.underlying 22 = some (TypeDesc.slice 30)
  a4 : ∀ w, (isAgg 22).run P w = .ok false w
  z4 : ∀ w, (Go.sizeOf 22).run P w = .ok 1 w
  v4 : ∀ w, (zeroValue 22).run P w = .ok (Value.slice none 0 0) w
  t5 : P.underlying 53 = some (TypeDesc.func #[30, 30] #[3] false)
  a5 : ∀ w, (isAgg 53).run P w = .ok false w
  z5 : ∀ w, (Go.sizeOf 53).run P w = .ok 1 w
  v5 : ∀ w, (zeroValue 53).run P w = .ok (Value.nilFunc) w
  aE : ∀ w, (isAgg 30).run P w = .ok true w
  zE : ∀ w, (Go.sizeOf 30).run P w = .ok k w

theorem laySt : LaySt Try.prog 13 := {
  mixed := by kernel_rfl
  fS := Try.func75
  fR := Try.func71
  fM := Try.func62
  fT := Try.func48
  fI := enters_of Try.func61 (by kernel_rfl) rfl
  t0 := Try.underlying0
  a0 := Try.isAgg0
  z0 := Try.sizeOf0
  v0 := Try.zeroValue0
  t1 := Try.underlying3
  a1 := Try.isAgg3
  z1 := Try.sizeOf3
  v1 := Try.zeroValue3
  t2 := Try.underlying4
  a2 := Try.isAgg4
  z2 := Try.sizeOf4
  v2 := Try.zeroValue4
  t3 := Try.underlying85
  a3 := Try.isAgg85
  z3 := Try.sizeOf85
  v3 := Try.zeroValue85
  t4 := Try.underlying22
  a4 := Try.isAgg22
  z4 := Try.sizeOf22
  v4 := Try.zeroValue22
  t5 := Try.underlying53
  a5 := Try.isAgg53
  z5 := Try.sizeOf53
  v5 := Try.zeroValue53
  aE := Try.isAgg30
  zE := Try.sizeOf30 }
end Go.Proofs.Ytdmchekkcmjafaa
