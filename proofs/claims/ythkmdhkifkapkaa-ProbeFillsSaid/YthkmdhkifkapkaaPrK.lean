/- The document's table: what it is, At. -/
import Derived.Test.YthkmdhkifkapkaaPrI
set_option linter.unusedSimpArgs false
set_option linter.unusedVariables false
namespace Go.Proofs.Ythkmdhkifkapkaa
open Go.RowKit

theorem Try.infoInt : (Try.prog.info? 3).map (fun i => (i.zero, i.size, i.bytes)) = some (some (.int .i64 0), 1, 8) := by kernel_rfl
theorem Try.infoNum : (Try.prog.info? 25).map (fun i => (i.zero, i.size, i.bytes)) = some (some (.agg #[.int .u64 0, .int .u64 0]), 2, 16) := by kernel_rfl
abbrev ints (xs : List Int) : List Value := xs.map (.int .i64)
def Nm.cells (x : Nm) : List Value := [.int .u64 x.hi, .int .u64 x.lo]
def nms (xs : List Nm) : List Value := xs.flatMap Nm.cells
theorem nms_len (xs : List Nm) : (nms xs).length = xs.length * 2 := flat_len (f := Nm.cells) (n := 2) (fun _ => rfl) xs
theorem nms_get (xs : List Nm) {i : Nat} (hi : i < xs.length) (j : Nat) (hj : j < 2) : (nms xs)[i * 2 + j]? = (Nm.cells xs[i])[j]? := flat_get (f := Nm.cells) (n := 2) (fun _ => rfl) xs i hi j hj
/-- Two rows in one block: names and places. -/
def IsD (w : World) (S : Nat → Prop) (M : Nat) (ss : List Nm) (aa : List Int) : Prop :=
  ∃ v1 v2, w.heap[M]? = some (.cells #[v1, v2] 43 (0, 0)) ∧ w.ownsRow 0 25 2 v1 ss.length (nms ss) ∧ w.ownsRow 0 3 1 v2 aa.length (ints aa) ∧ S M ∧ (∀ k, v1.ownBlock = some k → S k ∧ k ≠ M) ∧ (∀ k, v2.ownBlock = some k → S k ∧ k ≠ M) ∧
    (∀ k, v1.ownBlock = some k → ¬ v2.ownBlock = some k) ∧ ∀ k, S k → k < w.heap.size
theorem IsD.fr {w w' : World} {S S2 : Nat → Prop} {M : Nat} {ss : List Nm} {aa : List Int} (h : IsD w S M ss aa) (hf : Fr S2 w w') (hd : ∀ k, S k → ¬ S2 k) : IsD w' S M ss aa := by
  obtain ⟨v1, v2, hb, o1, o2, hS, h1, h2, h12, hl⟩ := h
  exact ⟨v1, v2, hf.blk hb (hd _ hS), own_fr o1 hf (fun k hk => hd _ (h1 k hk).1), own_fr o2 hf (fun k hk => hd _ (h2 k hk).1), hS, h1, h2, h12, fun k hk => Nat.lt_of_lt_of_le (hl k hk) hf.size⟩
theorem IsD.lt {w : World} {S : Nat → Prop} {M : Nat} {ss : List Nm} {aa : List Int} (h : IsD w S M ss aa) {k : Nat} (hk : S k) : k < w.heap.size := by
  obtain ⟨v1, v2, hb, o1, o2, hS, h1, h2, h12, hl⟩ := h
  exact hl k hk
theorem IsD.at_ {w : World} {S : Nat → Prop} {M : Nat} {ss : List Nm} {aa : List Int} (h : IsD w S M ss aa) : S M := by
  obtain ⟨v1, v2, hb, o1, o2, hS, h1, h2, h12, hl⟩ := h
  exact hS
instance : DecidableEq Nm := fun a b => by
  cases a; cases b
  simp only [Nm.mk.injEq]
  infer_instance
/-- The first place of a name; the list's length: it isn't there. -/
def firstN : List Nm → Nm → Nat
  | [], _ => 0
  | x :: xs, s => if x = s then 0 else firstN xs s + 1
theorem firstN_of {xs : List Nm} {s : Nm} {k : Nat} (hk : k < xs.length) (he : xs[k] = s) (hno : ∀ j (hj : j < xs.length), j < k → xs[j] ≠ s) : firstN xs s = k := by
  induction xs generalizing k with
  | nil => simp at hk
  | cons x xs ih =>
    cases k with
    | zero => simp only [List.getElem_cons_zero] at he; simp [firstN, he]
    | succ k =>
      have h0 := hno 0 (by simp) (by omega)
      simp only [List.getElem_cons_zero] at h0
      simp only [firstN, if_neg h0, Nat.add_right_cancel_iff]
      exact ih (by simpa using hk) (by simpa using he) (fun j hj hjk => by have := hno (j + 1) (by simpa using hj) (by omega); simpa using this)
theorem firstN_no {xs : List Nm} {s : Nm} (hno : ∀ j (hj : j < xs.length), xs[j] ≠ s) : firstN xs s = xs.length := by
  induction xs with
  | nil => rfl
  | cons x xs ih =>
    have h0 := hno 0 (by simp)
    simp only [List.getElem_cons_zero] at h0
    simp only [firstN, if_neg h0, List.length_cons, Nat.add_right_cancel_iff]
    exact ih (fun j hj => by have := hno (j + 1) (by simpa using hj); simpa using this)
theorem firstN_le (xs : List Nm) (s : Nm) : firstN xs s ≤ xs.length := by
  induction xs with
  | nil => exact Nat.le_refl _
  | cons x xs ih => simp only [firstN]; split <;> simp; omega
theorem firstN_mem {xs : List Nm} {s : Nm} : firstN xs s < xs.length ↔ s ∈ xs := by
  induction xs with
  | nil => simp [firstN]
  | cons x xs ih =>
    simp only [firstN, List.length_cons, List.mem_cons]
    by_cases h : x = s
    · subst h; simp
    · rw [if_neg h]
      constructor
      · intro h2; exact .inr (ih.1 (by omega))
      · rintro (h2 | h2)
        · exact absurd h2.symm h
        · have := ih.2 h2; omega
theorem firstN_get {xs : List Nm} {s : Nm} (h : firstN xs s < xs.length) : xs[firstN xs s] = s := by
  induction xs with
  | nil => simp [firstN] at h
  | cons x xs ih =>
    by_cases h1 : x = s
    · subst h1; simp [firstN]
    · have e : firstN (x :: xs) s = firstN xs s + 1 := by simp [firstN, h1]
      have h2 : firstN xs s < xs.length := by rw [e] at h; simpa using h
      simp only [e, List.getElem_cons_succ]
      exact ih h2
def dAt (ss : List Nm) (s : Nm) : Int := if firstN ss s < ss.length then firstN ss s else -1
theorem own_nm {w : World} {g n cap : Nat} {xs : List Nm} (h : w.ownsRow 0 25 2 (.slice (some ⟨g, 0, none⟩) n cap) n (nms xs)) (hn : xs.length = n) {i : Nat} (hi : i < xs.length) (j : Nat) (hj : j < 2) {v : Value} (hv : (Nm.cells xs[i])[j]? = some v) :
    w.cell? ⟨g, i * 2 + j, none⟩ = some v := by
  have h2 := nms_get xs hi j hj
  rw [h.cellAt (i * 2 + j) (by omega), h2, hv]
set_option maxRecDepth 4000 in
set_option maxHeartbeats 3200000 in
/-- At: a name's number. -/
theorem dat_any (w : World) (S : Nat → Prop) (M : Nat) (ss : List Nm) (aa : List Int) (s : Nm) (h : IsD w S M ss aa) (hn : ss.length ≤ 1000000) :
    Calls Try.prog 18 #[.pointer (some ⟨M, 0, none⟩), .agg #[.int .u64 s.hi, .int .u64 s.lo]] w fun e w' => e = .returned (.int .i64 (dAt ss s)) ∧ Fr (fun _ => False) w w' := by
  obtain ⟨v1, v2, hb, o1, -, -, -, -, -, -⟩ := h
  obtain ⟨a, cap, rfl, -, -⟩ := own_form o1
  have HB := Lib.hid hb
  have O1 := Lib.hid o1
  obtain ⟨n, hnn⟩ : ∃ n, ss.length = n := ⟨_, rfl⟩
  have HN := Lib.hid hnn
  have Bx := Lib.hid (heap_alloc_new w (.cells #[.int .u64 s.hi, .int .u64 s.lo] 25))
  have FA := Lib.hid ((Fr.refl (fun _ => False) w).alloc (.cells #[.int .u64 s.hi, .int .u64 s.lo] 25))
  rw [hnn] at hn
  have c0 := blk_cell (blk_alloc hb (.cells #[.int .u64 s.hi, .int .u64 s.lo] 25)) 0 rfl
  rw [hnn] at c0
  clear hb o1 hnn
  go_enter Try.func18, Try.ntmps18
  go_wp2_with fail
  clear c0
  go_loopw [12] (fun i wr => ∃ k : Nat, k ≤ n ∧ i = .int .i64 k ∧ (∀ j (hj : j < ss.length), j < k → ss[j] ≠ s) ∧ Fr (fun _ => False) w wr ∧ wr.heap[w.heap.size]? = some (.cells #[.int .u64 s.hi, .int .u64 s.lo] 25 (0, 0))) (fun i _ => ((n : Int) - intOf i).toNat)
  case atStart => exact ⟨0, by omega, rfl, fun j _ h => by omega, FA.out, Bx.out⟩
  case round =>
    obtain ⟨k, hk, rfl, hno, hf, hbx⟩ := hrel
    have HNO := Lib.hid hno
    have HF := Lib.hid hf
    have HBx := Lib.hid hbx
    by_cases hlt : k < n
    · have hltI : (k : Int) < n := by omega
      have hks : k < ss.length := by rw [HN.out]; exact hlt
      obtain ⟨g, cp, e1⟩ := own_some O1.out (by rw [HN.out]; omega)
      rw [HN.out] at e1
      simp only [Value.slice.injEq] at e1
      obtain ⟨rfl, -, rfl⟩ := e1
      have ho1 := own_fr O1.out hf (fun _ _ h => h)
      rw [HN.out] at ho1
      obtain ⟨⟨xhi, xlo⟩, hx⟩ : ∃ x, ss[k] = x := ⟨_, rfl⟩
      have p0 := own_nm ho1 HN.out hks 0 (by omega) (v := .int .u64 xhi) (by rw [hx]; rfl)
      rw [Nat.add_zero] at p0
      have p1 := own_nm ho1 HN.out hks 1 (by omega) (v := .int .u64 xlo) (by rw [hx]; rfl)
      have w1 : IntKind.i64.wrap ((k : Int) + 1) = k + 1 := IntWalk.i64_in _ (by omega)
      have HX := Lib.hid hx
      have Hc := Lib.hid (heap_alloc_new wr (.cells #[.int .u64 xhi, .int .u64 xlo] 25))
      have FC := Lib.hid (hf.alloc (.cells #[.int .u64 xhi, .int .u64 xlo] 25))
      have HBx2 := Lib.hid (blk_alloc hbx (.cells #[.int .u64 xhi, .int .u64 xlo] 25))
      have x0 := blk_cell HBx2.out 0 rfl
      have x1 := blk_cell HBx2.out 1 rfl
      have he := eqm_Num
      clear hno hf hx hbx ho1
      by_cases hq : (⟨xhi, xlo⟩ : Nm) = s
      · have HI := Lib.hid (show dAt ss s = k from by
          have e := firstN_of hks (HX.out.trans hq) HNO.out
          rw [dAt, e, if_pos hks])
        have b1 : (xhi == s.hi) = true := by rw [← hq]; exact beq_self_eq_true _
        have b2 : (xlo == s.lo) = true := by rw [← hq]; exact beq_self_eq_true _
        clear hq
        go_wp2_with fail
        go_ret
        refine ⟨?_, by (repeat (first | (with_reducible exact Fr.refl _ _) | (with_reducible refine Fr.drew ?_) | (with_reducible refine Fr.drewN ?_ _) | (with_reducible refine Fr.alloc ?_ _) | (with_reducible refine Fr.set1 ?_ _) | (with_reducible refine Fr.setNew ?_ (by omega) _))) <;> exact HF.out⟩
        rw [HI.out]
        rfl
      · have HQ := Lib.hid hq
        cases q1 : (xhi == s.hi)
        all_goals
          cases q2 : (xlo == s.lo)
        all_goals first
          | (exfalso; apply HQ.out; have e1 : xhi = s.hi := by simpa using q1
             have e2 : xlo = s.lo := by simpa using q2
             rw [e1, e2])
          | (go_wp2_with fail
             go_roundw
             case rel => exact ⟨k + 1, by omega, by go_num, fun j hj hjk => by
               by_cases hjk2 : j = k
               · subst hjk2; rw [HX.out]; exact HQ.out
               · exact HNO.out j hj (by omega), by (repeat (first | (with_reducible exact Fr.refl _ _) | (with_reducible refine Fr.drew ?_) | (with_reducible refine Fr.drewN ?_ _) | (with_reducible refine Fr.alloc ?_ _) | (with_reducible refine Fr.set1 ?_ _) | (with_reducible refine Fr.setNew ?_ (by omega) _))) <;> exact HF.out, by (repeat (first | (with_reducible refine blk_drew ?_) | (with_reducible refine blk_drewN ?_ _) | (with_reducible refine blk_alloc ?_ _) | (with_reducible refine blk_far2 ?_ (by omega) _))) <;> exact HBx.out⟩
             case measure => simp [intOf]; omega)
    · have hkn : k = n := by omega
      have hltI : ¬ (k : Int) < n := by omega
      have HI := Lib.hid (show dAt ss s = -1 from by
        have hn2 := HN.out
        rw [dAt, firstN_no (fun j hj => HNO.out j hj (by omega)), if_neg (by omega)])
      clear hno hf hkn hbx
      go_wp2_with fail
      go_ret
      refine ⟨?_, HF.out⟩
      rw [HI.out]
      rfl
end Go.Proofs.Ythkmdhkifkapkaa
