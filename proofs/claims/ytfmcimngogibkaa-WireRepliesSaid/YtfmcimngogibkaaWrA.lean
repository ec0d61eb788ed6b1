/- Requests: engine.Good, ask.Good, and the document's. -/
import Derived.Test.YtfmcimngogibkaaAcct
import Derived.Test.YtfmcimngogibkaaXfer
import Derived.Test.YtfmcimngogibkaaRow
import Derived.Deep.DeepMust
set_option linter.unusedSimpArgs false
set_option linter.unusedVariables false
namespace Go.Proofs.Ytfmcimngogibkaa
open Go.RowKit

structure Flt where
  acct : Nm
  from_ : Int
  upto : Int
  deb : Bool
  cre : Bool
  lat : Bool
  lim : Int
def engGood (op : Int) (n1 n2 : Nat) (now : Int) : Bool :=
  if op = 1 then decide (1 ≤ n1) && decide (n1 ≤ 8) else if op = 2 then decide (1 ≤ n2) && decide (n2 ≤ 8) else if op = 3 then decide (0 ≤ now) && decide (now ≤ 1099511627776) else false
def fltGood (f : Flt) : Bool := decide (0 ≤ f.from_) && (decide (0 ≤ f.upto) && (decide (1 ≤ f.lim) && (decide (f.lim ≤ 16) && (f.deb || f.cre))))
def askGood (op : Int) (n3 : Nat) (f : Flt) : Bool := if op = 4 ∨ op = 5 then decide (1 ≤ n3) && decide (n3 ≤ 16) else if op = 6 then fltGood f else false
/-- A request by value: slices of so many things. -/
abbrev reqAgg (op : Int) (a1 : Option Addr) (n1 c1 : Nat) (a2 : Option Addr) (n2 c2 : Nat) (now : Int) (a3 : Option Addr) (n3 c3 : Nat) (f : Flt) : Value :=
  .agg #[.int .i64 op, .slice a1 n1 c1, .slice a2 n2 c2, .int .i64 now, .slice a3 n3 c3, .int .u64 f.acct.hi, .int .u64 f.acct.lo, .int .i64 f.from_, .int .i64 f.upto, .bool f.deb, .bool f.cre, .bool f.lat, .int .i64 f.lim]

section
variable (w : World) (op : Int) (a1 : Option Addr) (n1 c1 : Nat) (a2 : Option Addr) (n2 c2 : Nat) (now : Int) (a3 : Option Addr) (n3 c3 : Nat) (f : Flt)
theorem ops3 (op : Int) : (op = 1) ∨ (op = 2) ∨ (op = 3) ∨ ((op == 1) = false ∧ (op == 2) = false ∧ (op == 3) = false) := by
  by_cases h1 : op = 1
  · exact .inl h1
  by_cases h2 : op = 2
  · exact .inr (.inl h2)
  by_cases h3 : op = 3
  · exact .inr (.inr (.inl h3))
  exact .inr (.inr (.inr ⟨by simpa using h1, by simpa using h2, by simpa using h3⟩))
set_option maxRecDepth 4000 in
set_option maxHeartbeats 1600000 in
theorem eng_any : Calls Try.prog 32 #[reqAgg op a1 n1 c1 a2 n2 c2 now a3 n3 c3 f] w fun e w' => e = .returned (.bool (engGood op n1 n2 now)) ∧ Fr (fun _ => False) w w' := by
  rcases ops3 op with rfl | rfl | rfl | ⟨h1, h2, h3⟩
  · have hg : engGood 1 n1 n2 now = (decide (1 ≤ n1) && decide (n1 ≤ 8)) := rfl
    rw [hg]
    by_cases k1 : 1 ≤ n1
    · have k1I : (1 : Int) ≤ n1 := by omega
      go_enter Try.func32, Try.ntmps32
      go_wp2_with fail
      go_ret
      exact ⟨by congr 2; simp [k1]; omega, by repeat (first | (with_reducible exact Fr.refl _ _) | (with_reducible refine Fr.drew ?_) | (with_reducible refine Fr.drewN ?_ _) | (with_reducible refine Fr.alloc ?_ _) | (with_reducible refine Fr.set1 ?_ _) | (with_reducible refine Fr.setNew ?_ (by omega) _))⟩
    · have k1I : ¬ (1 : Int) ≤ n1 := by omega
      go_enter Try.func32, Try.ntmps32
      go_wp2_with fail
      go_ret
      exact ⟨by simp [k1], by repeat (first | (with_reducible exact Fr.refl _ _) | (with_reducible refine Fr.drew ?_) | (with_reducible refine Fr.drewN ?_ _) | (with_reducible refine Fr.alloc ?_ _) | (with_reducible refine Fr.set1 ?_ _) | (with_reducible refine Fr.setNew ?_ (by omega) _))⟩
  · have hg : engGood 2 n1 n2 now = (decide (1 ≤ n2) && decide (n2 ≤ 8)) := rfl
    rw [hg]
    by_cases k1 : 1 ≤ n2
    · have k1I : (1 : Int) ≤ n2 := by omega
      go_enter Try.func32, Try.ntmps32
      go_wp2_with fail
      go_ret
      exact ⟨by congr 2; simp [k1]; omega, by repeat (first | (with_reducible exact Fr.refl _ _) | (with_reducible refine Fr.drew ?_) | (with_reducible refine Fr.drewN ?_ _) | (with_reducible refine Fr.alloc ?_ _) | (with_reducible refine Fr.set1 ?_ _) | (with_reducible refine Fr.setNew ?_ (by omega) _))⟩
    · have k1I : ¬ (1 : Int) ≤ n2 := by omega
      go_enter Try.func32, Try.ntmps32
      go_wp2_with fail
      go_ret
      exact ⟨by simp [k1], by repeat (first | (with_reducible exact Fr.refl _ _) | (with_reducible refine Fr.drew ?_) | (with_reducible refine Fr.drewN ?_ _) | (with_reducible refine Fr.alloc ?_ _) | (with_reducible refine Fr.set1 ?_ _) | (with_reducible refine Fr.setNew ?_ (by omega) _))⟩
  · have hg : engGood 3 n1 n2 now = (decide (0 ≤ now) && decide (now ≤ 1099511627776)) := rfl
    rw [hg]
    by_cases k1 : 0 ≤ now
    · go_enter Try.func32, Try.ntmps32
      go_wp2_with fail
      go_ret
      exact ⟨by simp [k1], by repeat (first | (with_reducible exact Fr.refl _ _) | (with_reducible refine Fr.drew ?_) | (with_reducible refine Fr.drewN ?_ _) | (with_reducible refine Fr.alloc ?_ _) | (with_reducible refine Fr.set1 ?_ _) | (with_reducible refine Fr.setNew ?_ (by omega) _))⟩
    · have k2 : decide (0 ≤ now) = false := decide_eq_false k1
      rw [k2]
      go_enter Try.func32, Try.ntmps32
      go_wp2_with fail
      go_ret
      exact ⟨rfl, by repeat (first | (with_reducible exact Fr.refl _ _) | (with_reducible refine Fr.drew ?_) | (with_reducible refine Fr.drewN ?_ _) | (with_reducible refine Fr.alloc ?_ _) | (with_reducible refine Fr.set1 ?_ _) | (with_reducible refine Fr.setNew ?_ (by omega) _))⟩
  · have hg : engGood op n1 n2 now = false := by
      simp only [beq_eq_false_iff_ne, ne_eq] at h1 h2 h3
      simp [engGood, h1, h2, h3]
    rw [hg]
    go_enter Try.func32, Try.ntmps32
    go_wp2_with fail
    go_ret
    exact ⟨rfl, by repeat (first | (with_reducible exact Fr.refl _ _) | (with_reducible refine Fr.drew ?_) | (with_reducible refine Fr.drewN ?_ _) | (with_reducible refine Fr.alloc ?_ _) | (with_reducible refine Fr.set1 ?_ _) | (with_reducible refine Fr.setNew ?_ (by omega) _))⟩
theorem ops45 (op : Int) : ((op == 4) = true) ∨ ((op == 4) = false ∧ (op == 5) = true) ∨ ((op == 4) = false ∧ (op == 5) = false ∧ (op == 6) = true) ∨ ((op == 4) = false ∧ (op == 5) = false ∧ (op == 6) = false) := by
  cases (op == 4) <;> cases (op == 5) <;> cases (op == 6) <;> simp
theorem ask45 {op : Int} (h : op = 4 ∨ op = 5) : askGood op n3 f = (decide (1 ≤ n3) && decide (n3 ≤ 16)) := by rw [askGood, if_pos h]
theorem ask6 {op : Int} (h : op = 6) : askGood op n3 f = fltGood f := by rw [askGood, if_neg (by omega), if_pos h]
theorem ask0 {op : Int} (h4 : (op == 4) = false) (h5 : (op == 5) = false) (h6 : (op == 6) = false) : askGood op n3 f = false := by
  simp only [beq_eq_false_iff_ne, ne_eq] at h4 h5 h6
  rw [askGood, if_neg (by omega), if_neg h6]
set_option maxRecDepth 4000 in
set_option maxHeartbeats 1600000 in
theorem ask_any : Calls Try.prog 33 #[reqAgg op a1 n1 c1 a2 n2 c2 now a3 n3 c3 f] w fun e w' => e = .returned (.bool (askGood op n3 f)) ∧ Fr (fun _ => False) w w' := by
  obtain ⟨b, hb⟩ : ∃ b, askGood op n3 f = b := ⟨_, rfl⟩
  have HB := Lib.hid hb
  rw [hb]
  clear hb
  rcases ops45 op with h4 | ⟨h4, h5⟩ | ⟨h4, h5, h6⟩ | ⟨h4, h5, h6⟩
  · by_cases k1 : 1 ≤ n3
    · have k1I : (1 : Int) ≤ n3 := by omega
      go_enter Try.func33, Try.ntmps33
      go_wp2_with fail
      go_ret
      exact ⟨by rw [← HB.out, ask45 _ _ (.inl (by simpa using h4))]; congr 2; simp [k1]; omega, by repeat (first | (with_reducible exact Fr.refl _ _) | (with_reducible refine Fr.drew ?_) | (with_reducible refine Fr.drewN ?_ _) | (with_reducible refine Fr.alloc ?_ _) | (with_reducible refine Fr.set1 ?_ _) | (with_reducible refine Fr.setNew ?_ (by omega) _))⟩
    · have k1I : ¬ (1 : Int) ≤ n3 := by omega
      go_enter Try.func33, Try.ntmps33
      go_wp2_with fail
      go_ret
      exact ⟨by rw [← HB.out, ask45 _ _ (.inl (by simpa using h4))]; simp [k1], by repeat (first | (with_reducible exact Fr.refl _ _) | (with_reducible refine Fr.drew ?_) | (with_reducible refine Fr.drewN ?_ _) | (with_reducible refine Fr.alloc ?_ _) | (with_reducible refine Fr.set1 ?_ _) | (with_reducible refine Fr.setNew ?_ (by omega) _))⟩
  · by_cases k1 : 1 ≤ n3
    · have k1I : (1 : Int) ≤ n3 := by omega
      go_enter Try.func33, Try.ntmps33
      go_wp2_with fail
      go_ret
      exact ⟨by rw [← HB.out, ask45 _ _ (.inr (by simpa using h5))]; congr 2; simp [k1]; omega, by repeat (first | (with_reducible exact Fr.refl _ _) | (with_reducible refine Fr.drew ?_) | (with_reducible refine Fr.drewN ?_ _) | (with_reducible refine Fr.alloc ?_ _) | (with_reducible refine Fr.set1 ?_ _) | (with_reducible refine Fr.setNew ?_ (by omega) _))⟩
    · have k1I : ¬ (1 : Int) ≤ n3 := by omega
      go_enter Try.func33, Try.ntmps33
      go_wp2_with fail
      go_ret
      exact ⟨by rw [← HB.out, ask45 _ _ (.inr (by simpa using h5))]; simp [k1], by repeat (first | (with_reducible exact Fr.refl _ _) | (with_reducible refine Fr.drew ?_) | (with_reducible refine Fr.drewN ?_ _) | (with_reducible refine Fr.alloc ?_ _) | (with_reducible refine Fr.set1 ?_ _) | (with_reducible refine Fr.setNew ?_ (by omega) _))⟩
  · have HV := Lib.hid (HB.out.symm.trans (ask6 n3 f (by simpa using h6)))
    obtain ⟨x, d0, d1, d2, d3, d4, d5⟩ := f
    cases q1 : decide (0 ≤ d0)
    · have r1 : ¬ 0 ≤ d0 := of_decide_eq_false q1
      go_enter Try.func33, Try.ntmps33
      go_wp2_with fail
      go_ret
      exact ⟨by rw [HV.out, fltGood]; simp; omega, by repeat (first | (with_reducible exact Fr.refl _ _) | (with_reducible refine Fr.drew ?_) | (with_reducible refine Fr.drewN ?_ _) | (with_reducible refine Fr.alloc ?_ _) | (with_reducible refine Fr.set1 ?_ _) | (with_reducible refine Fr.setNew ?_ (by omega) _))⟩
    have r1 : 0 ≤ d0 := of_decide_eq_true q1
    cases q2 : decide (0 ≤ d1)
    · have r2 : ¬ 0 ≤ d1 := of_decide_eq_false q2
      go_enter Try.func33, Try.ntmps33
      go_wp2_with fail
      go_ret
      exact ⟨by rw [HV.out, fltGood]; simp; omega, by repeat (first | (with_reducible exact Fr.refl _ _) | (with_reducible refine Fr.drew ?_) | (with_reducible refine Fr.drewN ?_ _) | (with_reducible refine Fr.alloc ?_ _) | (with_reducible refine Fr.set1 ?_ _) | (with_reducible refine Fr.setNew ?_ (by omega) _))⟩
    have r2 : 0 ≤ d1 := of_decide_eq_true q2
    cases q3 : decide (1 ≤ d5)
    · have r3 : ¬ 1 ≤ d5 := of_decide_eq_false q3
      go_enter Try.func33, Try.ntmps33
      go_wp2_with fail
      go_ret
      exact ⟨by rw [HV.out, fltGood]; simp; omega, by repeat (first | (with_reducible exact Fr.refl _ _) | (with_reducible refine Fr.drew ?_) | (with_reducible refine Fr.drewN ?_ _) | (with_reducible refine Fr.alloc ?_ _) | (with_reducible refine Fr.set1 ?_ _) | (with_reducible refine Fr.setNew ?_ (by omega) _))⟩
    have r3 : 1 ≤ d5 := of_decide_eq_true q3
    cases q4 : decide (d5 ≤ 16)
    · have r4 : ¬ d5 ≤ 16 := of_decide_eq_false q4
      go_enter Try.func33, Try.ntmps33
      go_wp2_with fail
      go_ret
      exact ⟨by rw [HV.out, fltGood]; simp; omega, by repeat (first | (with_reducible exact Fr.refl _ _) | (with_reducible refine Fr.drew ?_) | (with_reducible refine Fr.drewN ?_ _) | (with_reducible refine Fr.alloc ?_ _) | (with_reducible refine Fr.set1 ?_ _) | (with_reducible refine Fr.setNew ?_ (by omega) _))⟩
    have r4 : d5 ≤ 16 := of_decide_eq_true q4
    cases d2
    · go_enter Try.func33, Try.ntmps33
      go_wp2_with fail
      go_ret
      exact ⟨by rw [HV.out, fltGood]; simp [r1, r2, r3, r4], by repeat (first | (with_reducible exact Fr.refl _ _) | (with_reducible refine Fr.drew ?_) | (with_reducible refine Fr.drewN ?_ _) | (with_reducible refine Fr.alloc ?_ _) | (with_reducible refine Fr.set1 ?_ _) | (with_reducible refine Fr.setNew ?_ (by omega) _))⟩
    · go_enter Try.func33, Try.ntmps33
      go_wp2_with fail
      go_ret
      exact ⟨by rw [HV.out, fltGood]; simp [r1, r2, r3, r4], by repeat (first | (with_reducible exact Fr.refl _ _) | (with_reducible refine Fr.drew ?_) | (with_reducible refine Fr.drewN ?_ _) | (with_reducible refine Fr.alloc ?_ _) | (with_reducible refine Fr.set1 ?_ _) | (with_reducible refine Fr.setNew ?_ (by omega) _))⟩
  · have hv := ask0 n3 f h4 h5 h6
    rw [HB.out] at hv
    rw [hv]
    clear hv
    go_enter Try.func33, Try.ntmps33
    go_wp2_with fail
    go_ret
    exact ⟨rfl, by repeat (first | (with_reducible exact Fr.refl _ _) | (with_reducible refine Fr.drew ?_) | (with_reducible refine Fr.drewN ?_ _) | (with_reducible refine Fr.alloc ?_ _) | (with_reducible refine Fr.set1 ?_ _) | (with_reducible refine Fr.setNew ?_ (by omega) _))⟩
end
end Go.Proofs.Ytfmcimngogibkaa
