/- Numbers of 128 bits; wide.Zero; wide.Most. -/
import Derived.Test.YtjchjpmgbmeohaaDoorProg
import Derived.Test.YtjchjpmgbmeohaaDoorBase
import Derived.Test.YtjchjpmgbmeohaaDoorEqNum
import Derived.KernelRfl
import Derived.BigQuiet
import Derived.Lib.Hide
import Derived.Deep.DeepMust
set_option linter.unusedSimpArgs false
set_option linter.unusedVariables false
namespace Go.Proofs.YtjchjpmgbmeohaaDoor
open Go.RowKit

structure Nm where
  hi : Int
  lo : Int
def Nm.cells (x : Nm) : List Value := [.int .u64 x.hi, .int .u64 x.lo]
structure Nm.ok (x : Nm) : Prop where
  hi0 : 0 ≤ x.hi
  hi1 : x.hi < 18446744073709551616
  lo0 : 0 ≤ x.lo
  lo1 : x.lo < 18446744073709551616
/-- The greatest number of 64 bits. -/
def M64 : Int := 18446744073709551615
def Nm.zero (x : Nm) : Bool := x.hi == 0 && x.lo == 0
def Nm.most (x : Nm) : Bool := x.hi == M64 && x.lo == M64

/-- The package's greatest number lies where it was laid. -/
structure Most (w : World) : Prop where
  hi : w.cell? ⟨0, 0, none⟩ = some (.int .u64 M64)
  lo : w.cell? ⟨0, 1, none⟩ = some (.int .u64 M64)
theorem Most.fr {w w' : World} {S : Nat → Prop} (h : Most w) (hf : Fr S w w') (hn : ¬ S 0) : Most w' := ⟨hf.cell (p := ⟨0, 0, none⟩) h.hi hn, hf.cell (p := ⟨0, 1, none⟩) h.lo hn⟩

end Go.Proofs.YtjchjpmgbmeohaaDoor
