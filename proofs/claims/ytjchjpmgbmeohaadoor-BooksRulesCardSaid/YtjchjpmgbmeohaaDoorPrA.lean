/- Package probe: a name's bits, mixed. -/
import Derived.Test.YtjchjpmgbmeohaaDoorRw
import Derived.Test.YtjchjpmgbmeohaaDoorRow
import Derived.Test.YtjchjpmgbmeohaaDoorBaseS
import Derived.Test.YtjchjpmgbmeohaaDoorEqNum
import Derived.Test.YtjchjpmgbmeohaaDoorNm
import Derived.Test.YtjchjpmgbmeohaaDoorBits
import Derived.BigQuiet
import Derived.Lib.Hide
import Derived.Deep.DeepMust
import Derived.Deep.CutBlock
import Derived.Deep.RegionLaw
import Derived.KernelRfl
set_option linter.unusedSimpArgs false
set_option linter.unusedVariables false
namespace Go.Proofs.YtjchjpmgbmeohaaDoor
open Go.RowKit

def mixA (x : Nm) : Int := bits .xor .u64 (bits .xor .u64 x.lo (IntKind.u64.wrap (x.hi * 2147483648))) (x.hi / 8589934592)
def mixB (x : Nm) : Int := IntKind.u64.wrap (mixA x * 11400714819323198485)
def mix (x : Nm) : Int := bits .xor .u64 (mixB x) (mixB x / 536870912)
theorem u64_in (z : Int) : 0 ≤ IntKind.u64.wrap z ∧ IntKind.u64.wrap z < 18446744073709551616 := by rw [IntKind.wrap_u64]; omega
theorem mix_in (x : Nm) : 0 ≤ mix x ∧ mix x < 18446744073709551616 := u64_in _
theorem spread_any (w : World) (x : Nm) : Calls Tryd.prog 106 #[.agg #[.int .u64 x.hi, .int .u64 x.lo]] w fun e w' => e = .returned (.int .u64 (mix x)) ∧ Fr (fun _ => False) w w' := by
  go_enter Tryd.func106, Tryd.ntmps106
  go_wp2_with fail
  go_ret
  exact ⟨rfl, by repeat (first | (with_reducible exact Fr.refl _ _) | (with_reducible refine Fr.drew ?_) | (with_reducible refine Fr.drewN ?_ _) | (with_reducible refine Fr.alloc ?_ _) | (with_reducible refine Fr.set1 ?_ _) | (with_reducible refine Fr.setNew ?_ (by omega) _))⟩
theorem and_mask {x : Int} {n e : Nat} (hn : n = 2 ^ e) (he : e ≤ 40) (h0 : 0 ≤ x) (h1 : x < 18446744073709551616) : bits .and .u64 x ((n : Int) - 1) = x % n := by
  obtain ⟨X, rfl⟩ := Int.eq_ofNat_of_zero_le h0
  have hp : 0 < n := by rw [hn]; exact Nat.two_pow_pos e
  have hnl : n ≤ 2 ^ 40 := by rw [hn]; exact Nat.pow_le_pow_right (by decide) he
  have hnl2 : n ≤ 1099511627776 := by simpa using hnl
  have e1 : (BitVec.ofInt 64 (X : Int)).toNat = X := by
    have := toNat_ofInt64 (X : Int)
    omega
  have e2 : (BitVec.ofInt 64 ((n : Int) - 1)).toNat = n - 1 := by
    have := toNat_ofInt64 ((n : Int) - 1)
    omega
  show IntKind.u64.wrap (((BitVec.ofInt 64 (X : Int) &&& BitVec.ofInt 64 ((n : Int) - 1)).toNat : Nat) : Int) = _
  rw [BitVec.toNat_and, e1, e2, hn, Nat.and_two_pow_sub_one_eq_mod, IntKind.wrap_u64, ← hn]
  have hm : X % n < n := Nat.mod_lt _ hp
  have hc : ((X % n : Nat) : Int) = (X : Int) % n := Int.natCast_emod X n
  omega
end Go.Proofs.YtjchjpmgbmeohaaDoor
