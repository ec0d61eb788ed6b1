/- Rows of pairs. -/
import Derived.Test.YtjegnhcpepkpoaaOrdF
import Derived.Test.YtjegnhcpepkpoaaCopy
namespace Go.Proofs.Ytjegnhcpepkpoaa
open Go.RowKit

theorem Try.infoPair : (Try.prog.info? 44).map (fun i => (i.zero, i.size, i.bytes)) = some (some (.agg #[.int .i64 0, .int .i64 0]), 2, 16) := by kernel_rfl
theorem szPair : (Try.prog.info? 44).map (·.size) = some 2 := by kernel_rfl
theorem prs_app (a b : List Pr) : prs (a ++ b) = prs a ++ prs b := List.flatMap_append
theorem prs_take (ps : List Pr) (k : Nat) : (prs ps).take (k * 2) = prs (ps.take k) := by
  induction ps generalizing k with
  | nil => simp [prs]
  | cons p ps ih =>
    cases k with
    | zero => simp [prs]
    | succ k =>
      have e : prs (p :: ps) = .int .i64 p.1 :: .int .i64 p.2 :: prs ps := rfl
      rw [e, show (k + 1) * 2 = k * 2 + 1 + 1 by omega, List.take_succ_cons, List.take_succ_cons, ih, List.take_succ_cons]
      rfl
theorem prs_drop (ps : List Pr) (k : Nat) : (prs ps).drop (k * 2) = prs (ps.drop k) := by
  induction ps generalizing k with
  | nil => simp [prs]
  | cons p ps ih =>
    cases k with
    | zero => simp [prs]
    | succ k =>
      have e : prs (p :: ps) = .int .i64 p.1 :: .int .i64 p.2 :: prs ps := rfl
      rw [e, show (k + 1) * 2 = k * 2 + 1 + 1 by omega, List.drop_succ_cons, List.drop_succ_cons, ih, List.drop_succ_cons]
theorem prs_one (ps : List Pr) : ∀ u ∈ prs ps, u.oneCell' = true := by
  intro u hu
  obtain ⟨p, _, hp⟩ := List.mem_flatMap.1 hu
  simp only [Pr.cells, List.mem_cons, List.not_mem_nil, or_false] at hp
  rcases hp with rfl | rfl <;> rfl
theorem prs_set1 (ps : List Pr) {i : Nat} (hi : i < ps.length) (v : Int) : (prs ps).set (i * 2 + 1) (.int .i64 v) = prs (ps.set i (ps[i].1, v)) := by
  induction ps generalizing i with
  | nil => simp at hi
  | cons p ps ih =>
    have e : ∀ (p : Pr) ps, prs (p :: ps) = .int .i64 p.1 :: .int .i64 p.2 :: prs ps := fun _ _ => rfl
    cases i with
    | zero => rfl
    | succ i =>
      rw [e, show (i + 1) * 2 + 1 = i * 2 + 1 + 1 + 1 by omega, List.set_cons_succ, List.set_cons_succ, ih (by simpa using hi)]
      rfl
theorem prs_set0 (ps : List Pr) {i : Nat} (hi : i < ps.length) (v : Int) : (prs ps).set (i * 2) (.int .i64 v) = prs (ps.set i (v, ps[i].2)) := by
  induction ps generalizing i with
  | nil => simp at hi
  | cons p ps ih =>
    have e : ∀ (p : Pr) ps, prs (p :: ps) = .int .i64 p.1 :: .int .i64 p.2 :: prs ps := fun _ _ => rfl
    cases i with
    | zero => rfl
    | succ i =>
      rw [e, show (i + 1) * 2 = i * 2 + 1 + 1 by omega, List.set_cons_succ, List.set_cons_succ, ih (by simpa using hi)]
      rfl
/-- A row whose tail was pushed on by one. -/
theorem splice_prs {cur : List Value} {ps : List Pr} {z : Pr} {i : Nat} (hi : i ≤ ps.length) (hc : cur.take ((ps.length + 1) * 2) = prs (ps ++ [z])) :
    ∃ X, (splice cur ((i + 1) * 2) ((prs ps).drop (i * 2))).take ((ps.length + 1) * 2) = prs (ps.take i ++ X :: ps.drop i) := by
  have hl : (prs (ps ++ [z])).length = (ps.length + 1) * 2 := by rw [prs_len]; simp
  have hcl : (ps.length + 1) * 2 ≤ cur.length := by
    have h := congrArg List.length hc
    rw [List.length_take, hl] at h
    omega
  have hdl : ((prs ps).drop (i * 2)).length = (ps.length - i) * 2 := by rw [List.length_drop, prs_len]; omega
  have h1 : cur.take ((i + 1) * 2) = prs ((ps ++ [z]).take (i + 1)) := by
    rw [← prs_take, ← hc, List.take_take, Nat.min_eq_left (by omega)]
  have hi2 : i < (ps ++ [z]).length := by simp; omega
  refine ⟨(ps ++ [z])[i], ?_⟩
  have hA : (cur.take ((i + 1) * 2)).length = (i + 1) * 2 := by rw [List.length_take]; omega
  unfold splice
  rw [← List.append_assoc, List.take_left' (by rw [List.length_append, hA, hdl]; omega), h1, prs_drop, List.take_succ_eq_append_getElem hi2, List.take_append_of_le_length hi, ← prs_app, List.append_assoc]
  rfl

/-- Behind the copy: the row is pushed on by one. -/
theorem iso_spliced {W w4 : World} {S1 : Nat → Prop} {L g cap1 i : Nat} {cur : Array Value} {ps : List Pr} {z : Pr} (hi : i ≤ ps.length) (hb1 : W.heap[L]? = some (.cells #[.slice (some ⟨g, 0, none⟩) (ps.length + 1) cap1] 27 (0, 0))) (hS1 : S1 L)
    (hSv1 : ∀ k, (Value.slice (some ⟨g, 0, none⟩) (ps.length + 1) cap1).ownBlock = some k → S1 k ∧ k ≠ L) (hl1 : ∀ k, S1 k → k < W.heap.size) (hnc : ps.length + 1 ≤ cap1) (hcm : cap1 ≤ maxLen) (hcs : cur.size = cap1 * 2) (htk : cur.toList.take ((ps.length + 1) * 2) = prs (ps ++ [z]))
    (hg4 : w4.heap[g]? = some (.cells (splice cur.toList ((i + 1) * 2) ((prs ps).drop (i * 2))).toArray 44 (0, 0))) (hf4 : Fr (fun k => k = g) W w4) : ∃ X, IsO w4 S1 L (ps.take i ++ X :: ps.drop i) ∧ Fr S1 W w4 := by
  obtain ⟨X, hX⟩ := splice_prs hi htk
  have hg := hSv1 g rfl
  have hlen : (ps.take i ++ X :: ps.drop i).length = ps.length + 1 := by simp; omega
  have hsl : (splice cur.toList ((i + 1) * 2) ((prs ps).drop (i * 2))).length = cur.toList.length := length_splice _ _ _ (by rw [List.length_drop, prs_len, show cur.toList.length = cap1 * 2 from (Array.length_toList).trans hcs]; omega)
  refine ⟨X, ⟨.slice (some ⟨g, 0, none⟩) (ps.length + 1) cap1, hf4.blk hb1 (fun e => hg.2 e.symm), ?_, hS1, hSv1, fun k hk => Nat.lt_of_lt_of_le (hl1 k hk) hf4.size⟩, hf4.mono (fun k hk => by have hk : k = g := hk; rw [hk]; exact hg.1)⟩
  rw [hlen]
  refine ⟨by rw [prs_len, hlen], .inr ⟨g, cap1, _, rfl, Nat.zero_le _, hg4, hnc, hcm, by simp only [List.size_toArray]; rw [hsl, Array.length_toList, hcs], ?_⟩⟩
  simpa using hX

/-- A pair of the row is written. -/
theorem rw_put2 {w : World} {S : Nat → Prop} {L g cap n j : Nat} {x y : Int} {qs : List Pr} (hb : w.heap[L]? = some (.cells #[.slice (some ⟨g, 0, none⟩) n cap] 27 (0, 0))) (ho : w.ownsRow 0 44 2 (.slice (some ⟨g, 0, none⟩) n cap) n (prs qs)) (hS : S L)
    (hSv : ∀ k, (Value.slice (some ⟨g, 0, none⟩) n cap).ownBlock = some k → S k ∧ k ≠ L) (hl : ∀ k, S k → k < w.heap.size) (hn : qs.length = n) (hj : j < qs.length) :
    IsO ((w.setCell ⟨g, j * 2, none⟩ (.int .i64 x)).setCell ⟨g, j * 2 + 1, none⟩ (.int .i64 y)) S L (qs.set j (x, y)) ∧ Fr S w ((w.setCell ⟨g, j * 2, none⟩ (.int .i64 x)).setCell ⟨g, j * 2 + 1, none⟩ (.int .i64 y)) := by
  subst hn
  obtain ⟨h1, f1⟩ := rw_put (j := j * 2) (u := .int .i64 x) hb ho hS hSv hl
  have hg := hSv g rfl
  have hb1 : (w.setCell ⟨g, j * 2, none⟩ (.int .i64 x)).heap[L]? = some (.cells #[.slice (some ⟨g, 0, none⟩) qs.length cap] 27 (0, 0)) := blk_far2 hb (fun e => hg.2 e.symm) _
  obtain ⟨ho1, _⟩ := ho.stored (j * 2) (.int .i64 x)
  rw [prs_set0 qs hj x] at ho1
  have hl1 : ∀ k, S k → k < (w.setCell ⟨g, j * 2, none⟩ (.int .i64 x)).heap.size := fun k hk => Nat.lt_of_lt_of_le (hl k hk) f1.size
  obtain ⟨h2, f2⟩ := rw_put (j := j * 2 + 1) (u := .int .i64 y) hb1 ho1 hS hSv hl1
  have hj2 : j < (qs.set j (x, qs[j].2)).length := by simpa using hj
  rw [prs_set1 _ hj2 y] at h2
  refine ⟨?_, f1.then_ f2 (fun k hk => .inl hk)⟩
  unfold IsO
  rw [List.length_set]
  have e : ((qs.set j (x, qs[j].2)).set j ((qs.set j (x, qs[j].2))[j].1, y)) = qs.set j (x, y) := by simp
  rw [e] at h2
  exact h2
/-- The list behind Put; was it new? -/
def isAt (ps : List Pr) (s : Int) : Prop := ∃ h : low ps s < ps.length, ps[low ps s].1 = s
def putL (ps : List Pr) (s at_ : Int) : List Pr := if low ps s < ps.length ∧ (ps.map (·.1))[low ps s]? = some s then ps.set (low ps s) (s, at_) else ps.take (low ps s) ++ (s, at_) :: ps.drop (low ps s)

end Go.Proofs.Ytjegnhcpepkpoaa
