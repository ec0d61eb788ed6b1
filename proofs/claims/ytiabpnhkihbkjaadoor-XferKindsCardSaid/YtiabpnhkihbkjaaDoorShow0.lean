/- A number's decimal digits, as the document's answer makes them. -/
import Derived.Test.YtiabpnhkihbkjaaDoorBase
namespace Go.Proofs.YtiabpnhkihbkjaaDoor
open Go.RowKit

/-- The digits doubled, and one more or none. -/
def dbl : List Int → Int → List Int × Int
  | [], c => ([], c)
  | x :: xs, c => ((2 * x + (dbl xs c).2) % 10 :: (dbl xs c).1, (2 * x + (dbl xs c).2) / 10)
def showStep (d : List Int) (c : Int) : List Int := if 0 < (dbl d c).2 then (dbl d c).2 :: (dbl d c).1 else (dbl d c).1
def showN (V : Int) : Nat → List Int
  | 0 => [0]
  | j + 1 => showStep (showN V j) (V / 2 ^ (127 - j) % 2)
/-- What digits amount to. -/
def digVal : List Int → Int
  | [] => 0
  | x :: xs => x * 10 ^ xs.length + digVal xs
def Digs (d : List Int) : Prop := ∀ x ∈ d, 0 ≤ x ∧ x < 10

theorem dbl_len : ∀ (d : List Int) (c : Int), (dbl d c).1.length = d.length
  | [], _ => rfl
  | x :: xs, c => by simp [dbl, dbl_len xs c]
theorem dbl_val : ∀ (d : List Int) (c : Int), (dbl d c).2 * 10 ^ d.length + digVal (dbl d c).1 = 2 * digVal d + c
  | [], c => by simp [dbl, digVal]
  | x :: xs, c => by
    have ih := dbl_val xs c
    simp only [dbl, digVal, dbl_len, List.length_cons]
    obtain ⟨r, hr⟩ : ∃ r, (dbl xs c).2 = r := ⟨_, rfl⟩
    obtain ⟨p, hp⟩ : ∃ p : Int, 10 ^ xs.length = p := ⟨_, rfl⟩
    rw [hr, hp] at ih
    rw [hr, hp, Int.pow_succ, hp]
    have e : (2 * x + r) / 10 * (p * 10) + (2 * x + r) % 10 * p = (2 * x + r) * p := by
      have h := Int.mul_ediv_add_emod (2 * x + r) 10
      calc (2 * x + r) / 10 * (p * 10) + (2 * x + r) % 10 * p = (10 * ((2 * x + r) / 10) + (2 * x + r) % 10) * p := by rw [Int.add_mul]; congr 1; rw [Int.mul_comm p 10, ← Int.mul_assoc, Int.mul_comm ((2 * x + r) / 10) 10]
        _ = _ := by rw [h]
    rw [← Int.add_assoc, e, Int.add_mul, Int.add_assoc, ih, Int.mul_add, Int.mul_assoc, Int.add_assoc]
theorem dbl_bd : ∀ (d : List Int) (c : Int), Digs d → (0 ≤ c ∧ c ≤ 1) → Digs (dbl d c).1 ∧ 0 ≤ (dbl d c).2 ∧ (dbl d c).2 ≤ 1
  | [], c, _, hc => ⟨(fun x hx => nomatch hx), hc.1, hc.2⟩
  | x :: xs, c, h, hc => by
    obtain ⟨h1, h2, h3⟩ := dbl_bd xs c (fun y hy => h y (List.mem_cons_of_mem _ hy)) hc
    have hx := h x (List.mem_cons_self ..)
    refine ⟨fun y hy => ?_, ?_, ?_⟩
    · rcases List.mem_cons.1 hy with rfl | hy
      · omega
      · exact h1 y hy
    · show 0 ≤ (2 * x + (dbl xs c).2) / 10
      omega
    · show (2 * x + (dbl xs c).2) / 10 ≤ 1
      omega
theorem showStep_val (d : List Int) (c : Int) (h : Digs d) (hc : 0 ≤ c ∧ c ≤ 1) : digVal (showStep d c) = 2 * digVal d + c := by
  obtain ⟨h1, h2, h3⟩ := dbl_bd d c h hc
  have hv := dbl_val d c
  unfold showStep
  split
  · rw [digVal, dbl_len]; exact hv
  · have e : (dbl d c).2 = 0 := by omega
    rw [e] at hv
    omega
theorem showStep_digs (d : List Int) (c : Int) (h : Digs d) (hc : 0 ≤ c ∧ c ≤ 1) : Digs (showStep d c) := by
  obtain ⟨h1, h2, h3⟩ := dbl_bd d c h hc
  unfold showStep
  split
  · intro x hx
    rcases List.mem_cons.1 hx with rfl | hx
    · omega
    · exact h1 x hx
  · exact h1
theorem showN_digs (V : Int) : ∀ j, Digs (showN V j)
  | 0 => fun x hx => by simp [showN] at hx; omega
  | j + 1 => showStep_digs _ _ (showN_digs V j) (by omega)
theorem showN_len (V : Int) : ∀ j, 1 ≤ (showN V j).length ∧ (showN V j).length ≤ j + 1
  | 0 => by simp [showN]
  | j + 1 => by
    have := showN_len V j
    have e := dbl_len (showN V j) (V / 2 ^ (127 - j) % 2)
    simp only [showN, showStep]
    split
    · rw [List.length_cons, e]; omega
    · rw [e]; omega
theorem showN_val {V : Int} (h0 : 0 ≤ V) (h1 : V < 2 ^ 128) : ∀ j, j ≤ 128 → digVal (showN V j) = V / 2 ^ (128 - j)
  | 0, _ => by simp [showN, digVal]; omega
  | j + 1, hj => by
    rw [showN, showStep_val _ _ (showN_digs V j) (by omega), showN_val h0 h1 j (by omega)]
    have e : 128 - j = (127 - j) + 1 := by omega
    rw [e, show 128 - (j + 1) = 127 - j from by omega, Int.pow_succ, ← Int.ediv_ediv_of_nonneg (Int.le_of_lt (Int.pow_pos (by decide)))]
    omega
/-- The digits' bytes. -/
def showL (V : Int) : List Int := (showN V 128).map (48 + ·)
def mostL : List Int := [51, 52, 48, 50, 56, 50, 51, 54, 54, 57, 50, 48, 57, 51, 56, 52, 54, 51, 52, 54, 51, 51, 55, 52, 54, 48, 55, 52, 51, 49, 55, 54, 56, 50, 49, 49, 52, 53, 53]
theorem showL_most : showL 340282366920938463463374607431768211455 = mostL := by decide +kernel
theorem showL_only {V : Int} (h0 : 0 ≤ V) (h1 : V < 2 ^ 128) (h : showL V = mostL) : V = 340282366920938463463374607431768211455 := by
  rw [← showL_most, showL, showL] at h
  have e := congrArg (List.map (fun x : Int => x - 48)) h
  rw [List.map_map, List.map_map, show ((fun x : Int => x - 48) ∘ fun x => 48 + x) = id from funext fun x => by simp; omega, List.map_id, List.map_id] at e
  have e2 : digVal (showN V 128) = digVal (showN 340282366920938463463374607431768211455 128) := by rw [e]
  rw [showN_val h0 h1 128 (by omega), showN_val (by decide) (by decide) 128 (by omega)] at e2
  simpa using e2
/-- The text is the greatest number's just if the number is. -/
theorem show_most {V : Int} (h0 : 0 ≤ V) (h1 : V < 2 ^ 128) : ((strOfNums (showL V)).toList == (strOfNums mostL).toList) = (V == 340282366920938463463374607431768211455) := by
  by_cases h : V = 340282366920938463463374607431768211455
  · subst h
    rw [showL_most]; simp
  · rw [show (V == 340282366920938463463374607431768211455) = false by simpa using h]
    rw [beq_eq_false_iff_ne]
    intro e
    refine h (showL_only h0 h1 ?_)
    rw [ByteArray.toList_eq, ByteArray.toList_eq] at e
    have hb : ∀ l : List Int, (∀ x ∈ l, 0 ≤ x ∧ x < 256) → l = (strOfNums l).data.toList.map (fun c => ((c.toNat : Nat) : Int)) := by
      intro l hl
      rw [strOfNums_data, List.map_map]
      conv => lhs; rw [← List.map_id l]
      refine List.map_congr_left (fun x hx => ?_)
      have := hl x hx
      simp
      omega
    rw [hb (showL V) (fun x hx => by
      obtain ⟨y, hy, rfl⟩ := List.mem_map.1 hx
      have := showN_digs V 128 y hy
      omega), hb mostL (by decide), e]
end Go.Proofs.YtiabpnhkihbkjaaDoor
