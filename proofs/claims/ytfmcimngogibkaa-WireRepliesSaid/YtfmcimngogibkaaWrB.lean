/- many: things read one by one. -/
import Derived.Test.YtfmcimngogibkaaWXferT
import Derived.Test.YtfmcimngogibkaaRow
import Derived.Test.YtfmcimngogibkaaRw
import Derived.Deep.DeepMust
set_option linter.unusedSimpArgs false
set_option linter.unusedVariables false
namespace Go.Proofs.Ytfmcimngogibkaa
open Go.RowKit

abbrev RS := List Int × Bool
/-- One round of many; so many rounds. -/
def stM {α : Type} (lf : RS → RS) (gt : RS → α) (p : List α × RS) : List α × RS := if p.2.2 = true then p else (p.1 ++ [gt p.2], lf p.2)
def itM {α : Type} (lf : RS → RS) (gt : RS → α) : Nat → List α × RS → List α × RS
  | 0, p => p
  | k + 1, p => stM lf gt (itM lf gt k p)
section
variable {α : Type} {lf : RS → RS} {gt : RS → α}
theorem itM_torn {p : List α × RS} {k n : Nat} (hk : k ≤ n) (h : (itM lf gt k p).2.2 = true) : itM lf gt n p = itM lf gt k p := by
  induction n with
  | zero => obtain rfl : k = 0 := by omega
            rfl
  | succ n ih =>
    by_cases e : k = n + 1
    · subst e; rfl
    · have := ih (by omega)
      simp only [itM, stM, this, h, if_true]
theorem itM_len {p : List α × RS} (k : Nat) : (itM lf gt k p).1.length ≤ p.1.length + k := by
  induction k with
  | zero => exact Nat.le_refl _
  | succ k ih =>
    simp only [itM, stM]
    split
    · omega
    · simp only [List.length_append, List.length_singleton]; omega
theorem itM_bytes {p : List α × RS} (hlf : ∀ s, Bytes s.1 → Bytes (lf s).1) (hp : Bytes p.2.1) (k : Nat) : Bytes (itM lf gt k p).2.1 := by
  induction k with
  | zero => exact hp
  | succ k ih =>
    simp only [itM, stM]
    split
    · exact ih
    · exact hlf _ ih
end
/-- How many a byte says. -/
def cntR (s : RS) : Nat := (le (rdV s 1)).toNat
def manyR {α : Type} (lf : RS → RS) (gt : RS → α) (s : RS) : List α × RS := itM lf gt (cntR s) ([], rdS s 1)
theorem cnt_le {s : RS} (h : Bytes s.1) : 0 ≤ le (rdV s 1) ∧ le (rdV s 1) ≤ 255 := by
  have hv := rdV_bytes 1 h
  have hl := rdV_len (s := s) 1
  cases hq : rdV s 1 with
  | nil => simp [le]
  | cons x xs =>
    rw [hq] at hv hl
    obtain rfl : xs = [] := List.eq_nil_of_length_eq_zero (by simpa using hl)
    have := hv x (List.mem_cons_self ..)
    simp only [le]
    omega
theorem rdAll_bytes : ∀ (ns : List Nat) (s : RS), Bytes s.1 → Bytes (rdAll s ns).1
  | [], _, h => h
  | n :: ns, s, h => rdAll_bytes ns (rdS s n) (rdS_bytes n h)
def Acc.took (s : RS) : Acc := if (Acc.left s).2 = true then Acc.none else Acc.got s
def Tx.took (s : RS) : Tx := if (Tx.left s).2 = true then Tx.none else Tx.got s
def Nm.left (s : RS) : RS := rdS s 16
def Nm.took (s : RS) : Nm := ⟨numHi (rdV s 16), numLo (rdV s 16)⟩
def iLeft (s : RS) : RS := rdS s 1
def iTook (s : RS) : Int := le (rdV s 1)
end Go.Proofs.Ytfmcimngogibkaa
