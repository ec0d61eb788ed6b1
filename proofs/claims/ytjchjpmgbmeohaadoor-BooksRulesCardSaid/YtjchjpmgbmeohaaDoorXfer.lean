/- Package xfer: Ends, Pending, Balances, together, ending, moving, Check. -/
import Derived.Test.YtjchjpmgbmeohaaDoorEqTx
import Derived.Test.YtjchjpmgbmeohaaDoorNm
import Derived.Test.YtjchjpmgbmeohaaDoorLoads
import Derived.LoopN
set_option linter.unusedSimpArgs false
set_option linter.unusedVariables false
namespace Go.Proofs.YtjchjpmgbmeohaaDoor
open Go.RowKit

structure Tx where
  id : Nm
  debit : Nm
  credit : Nm
  amount : Nm
  pending : Nm
  timeout : Int
  ledger : Int
  code : Int
  flags : Int
  stamp : Int
  born : Int
def Tx.val (a : Tx) : Value := .agg #[.int .u64 a.id.hi, .int .u64 a.id.lo, .int .u64 a.debit.hi, .int .u64 a.debit.lo, .int .u64 a.credit.hi, .int .u64 a.credit.lo, .int .u64 a.amount.hi, .int .u64 a.amount.lo, .int .u64 a.pending.hi, .int .u64 a.pending.lo, .int .i64 a.timeout, .int .i64 a.ledger, .int .i64 a.code, .int .i64 a.flags, .int .i64 a.stamp, .int .i64 a.born]
structure Tx.ok (a : Tx) : Prop where
  id : a.id.ok
  debit : a.debit.ok
  credit : a.credit.ok
  amount : a.amount.ok
  pending : a.pending.ok
  timeout : -9223372036854775808 ≤ a.timeout ∧ a.timeout ≤ 9223372036854775807
  ledger : -9223372036854775808 ≤ a.ledger ∧ a.ledger ≤ 9223372036854775807
  code : -9223372036854775808 ≤ a.code ∧ a.code ≤ 9223372036854775807
  flags : -9223372036854775808 ≤ a.flags ∧ a.flags ≤ 9223372036854775807
  stamp : -9223372036854775808 ≤ a.stamp ∧ a.stamp ≤ 9223372036854775807
  born : -9223372036854775808 ≤ a.born ∧ a.born ≤ 9223372036854775807
/-- The flags go together. -/
def Tx.together (a : Tx) : Bool :=
  !((bits .and .i64 a.flags 2 != 0 && bits .and .i64 a.flags 4 != 0) || (bits .and .i64 a.flags 2 != 0 && bits .and .i64 a.flags 8 != 0) || (bits .and .i64 a.flags 4 != 0 && bits .and .i64 a.flags 8 != 0)) &&
    (!(bits .and .i64 a.flags 12 != 0 && bits .and .i64 a.flags 240 != 0) && (bits .and .i64 a.flags 192 == 0 || bits .and .i64 a.flags 2 != 0))

end Go.Proofs.YtjchjpmgbmeohaaDoor
