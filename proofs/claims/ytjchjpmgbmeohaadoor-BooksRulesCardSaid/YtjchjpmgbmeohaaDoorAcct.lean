/- wide.Zero; acct.Check, Again, Good. -/
import Derived.Test.YtjchjpmgbmeohaaDoorProg
import Derived.Test.YtjchjpmgbmeohaaDoorBase
import Derived.Test.YtjchjpmgbmeohaaDoorEqAcc
import Derived.Test.YtjchjpmgbmeohaaDoorNm
import Derived.KernelRfl
import Derived.BigQuiet
import Derived.Lib.Hide
import Derived.Deep.DeepMust
set_option linter.unusedSimpArgs false
set_option linter.unusedVariables false
namespace Go.Proofs.YtjchjpmgbmeohaaDoor
open Go.RowKit

structure Acc where
  id : Nm
  dp : Nm
  dq : Nm
  cp : Nm
  cq : Nm
  ledger : Int
  code : Int
  flags : Int
  stamp : Int
def Acc.cells (a : Acc) : List Value := [.int .u64 a.id.hi, .int .u64 a.id.lo, .int .u64 a.dp.hi, .int .u64 a.dp.lo, .int .u64 a.dq.hi, .int .u64 a.dq.lo, .int .u64 a.cp.hi, .int .u64 a.cp.lo, .int .u64 a.cq.hi, .int .u64 a.cq.lo, .int .i64 a.ledger, .int .i64 a.code, .int .i64 a.flags, .int .i64 a.stamp]
def Acc.val (a : Acc) : Value := .agg #[.int .u64 a.id.hi, .int .u64 a.id.lo, .int .u64 a.dp.hi, .int .u64 a.dp.lo, .int .u64 a.dq.hi, .int .u64 a.dq.lo, .int .u64 a.cp.hi, .int .u64 a.cp.lo, .int .u64 a.cq.hi, .int .u64 a.cq.lo, .int .i64 a.ledger, .int .i64 a.code, .int .i64 a.flags, .int .i64 a.stamp]
structure Acc.ok (a : Acc) : Prop where
  id : a.id.ok
  dp : a.dp.ok
  dq : a.dq.ok
  cp : a.cp.ok
  cq : a.cq.ok
  ledger : -9223372036854775808 ≤ a.ledger ∧ a.ledger ≤ 9223372036854775807
  code : -9223372036854775808 ≤ a.code ∧ a.code ≤ 9223372036854775807
  flags : -9223372036854775808 ≤ a.flags ∧ a.flags ≤ 9223372036854775807
  stamp : -9223372036854775808 ≤ a.stamp ∧ a.stamp ≤ 9223372036854775807

def Acc.fresh (a : Acc) : Bool := a.dp.zero && (a.dq.zero && (a.cp.zero && (a.cq.zero && a.stamp == 0)))
theorem chain5 (p q r s t : Bool) : (p = false) ∨ (p = true ∧ q = false) ∨ (p = true ∧ q = true ∧ r = false) ∨ (p = true ∧ q = true ∧ r = true ∧ s = false) ∨ (p = true ∧ q = true ∧ r = true ∧ s = true ∧ t = false) ∨ (p = true ∧ q = true ∧ r = true ∧ s = true ∧ t = true) := by
  cases p <;> cases q <;> cases r <;> cases s <;> cases t <;> simp
/-- What is wrong with an account, as the program asks it. -/
def Acc.check (a : Acc) : Int :=
  if (bits .andNot .i64 a.flags 7 != 0) = true then 3 else if a.id.zero = true then 4 else if a.id.most = true then 5 else if (bits .and .i64 a.flags 6 == 6) = true then 6 else
  if a.fresh = false then 7 else if a.ledger < 1 ∨ 4294967295 < a.ledger then 8 else if a.code < 1 ∨ 65535 < a.code then 9 else 0

theorem chain7 (p q r s t u v : Bool) : (p = true) ∨ (p = false ∧ q = true) ∨ (p = false ∧ q = false ∧ r = true) ∨ (p = false ∧ q = false ∧ r = false ∧ s = true) ∨ (p = false ∧ q = false ∧ r = false ∧ s = false ∧ t = false) ∨ (p = false ∧ q = false ∧ r = false ∧ s = false ∧ t = true ∧ u = true) ∨
    (p = false ∧ q = false ∧ r = false ∧ s = false ∧ t = true ∧ u = false ∧ v = true) ∨ (p = false ∧ q = false ∧ r = false ∧ s = false ∧ t = true ∧ u = false ∧ v = false) := by
  cases p <;> cases q <;> cases r <;> cases s <;> cases t <;> cases u <;> cases v <;> simp

end Go.Proofs.YtjchjpmgbmeohaaDoor
