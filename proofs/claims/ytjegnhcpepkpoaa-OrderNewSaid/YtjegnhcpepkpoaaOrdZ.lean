/- The document's list of stamps: at, Put, Drop. -/
import Derived.Test.YtjegnhcpepkpoaaOrdQ
namespace Go.Proofs.Ytjegnhcpepkpoaa
open Go.RowKit

theorem Try.infoInt : (Try.prog.info? 3).map (fun i => (i.zero, i.size, i.bytes)) = some (some (.int .i64 0), 1, 8) := by kernel_rfl
abbrev ints (xs : List Int) : List Value := xs.map (.int .i64)
/-- Two rows in one block: stamps and places. -/
def IsM (w : World) (S : Nat → Prop) (M : Nat) (ss aa : List Int) : Prop :=
  ∃ v1 v2, w.heap[M]? = some (.cells #[v1, v2] 31 (0, 0)) ∧ w.ownsRow 0 3 1 v1 ss.length (ints ss) ∧ w.ownsRow 0 3 1 v2 aa.length (ints aa) ∧ S M ∧ (∀ k, v1.ownBlock = some k → S k ∧ k ≠ M) ∧ (∀ k, v2.ownBlock = some k → S k ∧ k ≠ M) ∧
    (∀ k, v1.ownBlock = some k → ¬ v2.ownBlock = some k) ∧ ∀ k, S k → k < w.heap.size
theorem IsM.fr {w w' : World} {S S2 : Nat → Prop} {M : Nat} {ss aa : List Int} (h : IsM w S M ss aa) (hf : Fr S2 w w') (hd : ∀ k, S k → ¬ S2 k) : IsM w' S M ss aa := by
  obtain ⟨v1, v2, hb, o1, o2, hS, h1, h2, h12, hl⟩ := h
  exact ⟨v1, v2, hf.blk hb (hd _ hS), own_fr o1 hf (fun k hk => hd _ (h1 k hk).1), own_fr o2 hf (fun k hk => hd _ (h2 k hk).1), hS, h1, h2, h12, fun k hk => Nat.lt_of_lt_of_le (hl k hk) hf.size⟩
theorem IsM.lt {w : World} {S : Nat → Prop} {M : Nat} {ss aa : List Int} (h : IsM w S M ss aa) {k : Nat} (hk : S k) : k < w.heap.size := by
  obtain ⟨v1, v2, hb, o1, o2, hS, h1, h2, h12, hl⟩ := h
  exact hl k hk

/-- The first place of a stamp; the list's length: it isn't there. -/
def firstI : List Int → Int → Nat
  | [], _ => 0
  | x :: xs, s => if x = s then 0 else firstI xs s + 1
theorem firstI_of {xs : List Int} {s : Int} {k : Nat} (hk : k < xs.length) (he : xs[k] = s) (hno : ∀ j (hj : j < xs.length), j < k → xs[j] ≠ s) : firstI xs s = k := by
  induction xs generalizing k with
  | nil => simp at hk
  | cons x xs ih =>
    cases k with
    | zero => simp only [List.getElem_cons_zero] at he; simp [firstI, he]
    | succ k =>
      have h0 := hno 0 (by simp) (by omega)
      simp only [List.getElem_cons_zero] at h0
      simp only [firstI, if_neg h0, Nat.add_right_cancel_iff]
      exact ih (by simpa using hk) (by simpa using he) (fun j hj hjk => by have := hno (j + 1) (by simpa using hj) (by omega); simpa using this)
theorem firstI_no {xs : List Int} {s : Int} (hno : ∀ j (hj : j < xs.length), xs[j] ≠ s) : firstI xs s = xs.length := by
  induction xs with
  | nil => rfl
  | cons x xs ih =>
    have h0 := hno 0 (by simp)
    simp only [List.getElem_cons_zero] at h0
    simp only [firstI, if_neg h0, List.length_cons, Nat.add_right_cancel_iff]
    exact ih (fun j hj => by have := hno (j + 1) (by simpa using hj); simpa using this)
def mAt (ss : List Int) (s : Int) : Int := if firstI ss s < ss.length then firstI ss s else -1
set_option maxHeartbeats 1600000 in
/-- at: a stamp's number. -/
theorem mat_any (w : World) (S : Nat → Prop) (M : Nat) (ss aa : List Int) (s : Int) (h : IsM w S M ss aa) (hn : ss.length ≤ 1000000) :
    Calls Try.prog 19 #[.pointer (some ⟨M, 0, none⟩), .int .i64 s] w fun e w' => e = .returned (.int .i64 (mAt ss s)) ∧ Fr (fun _ => False) w w' := by
  obtain ⟨v1, v2, hb, o1, -, -, -, -, -, -⟩ := h
  obtain ⟨a, cap, rfl, -, -⟩ := own_form o1
  have c0 := blk_cell hb 0 rfl
  have O1 := Lib.hid o1
  obtain ⟨n, hnn⟩ : ∃ n, ss.length = n := ⟨_, rfl⟩
  have HN := Lib.hid hnn
  rw [hnn] at c0 hn
  clear hb o1 hnn
  go_enter Try.func19, Try.ntmps19
  go_wp2_with fail
  go_loopw [12] (fun i wr => ∃ k : Nat, k ≤ n ∧ i = .int .i64 k ∧ (∀ j (hj : j < ss.length), j < k → ss[j] ≠ s) ∧ Fr (fun _ => False) w wr) (fun i _ => ((n : Int) - intOf i).toNat)
  case atStart => exact ⟨0, by omega, rfl, fun j _ h => by omega, Fr.refl _ _⟩
  case round =>
    obtain ⟨k, hk, rfl, hno, hf⟩ := hrel
    have HNO := Lib.hid hno
    have HF := Lib.hid hf
    by_cases hlt : k < n
    · have hltI : (k : Int) < n := by omega
      have hks : k < ss.length := by rw [HN.out]; exact hlt
      obtain ⟨g, cp, e1⟩ := own_some O1.out (by rw [HN.out]; omega)
      rw [HN.out] at e1
      simp only [Value.slice.injEq] at e1
      obtain ⟨rfl, -, rfl⟩ := e1
      obtain ⟨x, hx⟩ : ∃ x, ss[k] = x := ⟨_, rfl⟩
      have ca : wr.cell? ⟨g, k, none⟩ = some (.int .i64 x) := by
        rw [(own_fr O1.out hf (fun _ _ h => h)).cellAt k (by omega)]; simp [ints, hks, hx]
      have w1 : IntKind.i64.wrap ((k : Int) + 1) = k + 1 := IntWalk.i64_in _ (by omega)
      have HX := Lib.hid hx
      clear hno hf hx
      cases hq : (x == s)
      · go_wp2_with fail
        go_roundw
        case rel => exact ⟨k + 1, by omega, by go_num, fun j hj hjk => by
          by_cases hjk2 : j = k
          · subst hjk2; rw [HX.out]; simpa using hq
          · exact HNO.out j hj (by omega), HF.out⟩
        case measure => simp [intOf]; omega
      · have he : x = s := by simpa using hq
        have HI := Lib.hid (show mAt ss s = k from by
          have e := firstI_of hks (HX.out.trans he) HNO.out
          rw [mAt, e, if_pos hks])
        clear he
        go_wp2_with fail
        go_ret
        refine ⟨?_, HF.out⟩
        rw [HI.out]
        rfl
    · have hkn : k = n := by omega
      have hltI : ¬ (k : Int) < n := by omega
      have HI := Lib.hid (show mAt ss s = -1 from by
        have hn2 := HN.out
        rw [mAt, firstI_no (fun j hj => HNO.out j hj (by omega)), if_neg (by omega)])
      clear hno hf hkn
      go_wp2_with fail
      go_ret
      refine ⟨?_, HF.out⟩
      rw [HI.out]
      rfl
end Go.Proofs.Ytjegnhcpepkpoaa
