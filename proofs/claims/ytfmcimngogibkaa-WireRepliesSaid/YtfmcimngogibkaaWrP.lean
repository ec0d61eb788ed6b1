/- A request's bytes are read again (plain). -/
import Derived.Test.YtfmcimngogibkaaWrO
set_option linter.unusedSimpArgs false
set_option linter.unusedVariables false
namespace Go.Proofs.Ytfmcimngogibkaa
open Go.RowKit

/-- What is put is read, and what stands behind is left. -/
def Back {α : Type} (lf : RS → RS) (gt : RS → α) (by_ : α → List Int) (ok : α → Prop) : Prop := ∀ x m, ok x → gt (by_ x ++ m, false) = x ∧ lf (by_ x ++ m, false) = (m, false)
theorem bAcc : Back Acc.left Acc.took Acc.bytes (fun x => x.ok ∧ x.good = true) := fun x m h => by
  have hl : 96 ≤ (x.bytes ++ m).length := by rw [List.length_append, Acc.bytes_len]; omega
  have e : Acc.left (x.bytes ++ m, false) = (m, false) := by rw [Acc.left_long hl, drop_app (Acc.bytes_len x)]
  exact ⟨by rw [Acc.took, e]; exact Acc.again_got m h.1 h.2, e⟩
theorem bTx : Back Tx.left Tx.took Tx.bytes (fun x => x.ok ∧ x.good = true) := fun x m h => by
  have hl : 108 ≤ (x.bytes ++ m).length := by rw [List.length_append, Tx.bytes_len]; omega
  have e : Tx.left (x.bytes ++ m, false) = (m, false) := by rw [Tx.left_long hl, drop_app (Tx.bytes_len x)]
  exact ⟨by rw [Tx.took, e]; exact Tx.again_got m h.1 h.2, e⟩
theorem bNm : Back Nm.left Nm.took Nm.bytes Nm.ok := fun x m h => by
  have hl := Nm.bytes_len x
  refine ⟨?_, rdS_app hl⟩
  rw [Nm.took, rdV_app hl, Nm.bytes, numHi_wide h.hi0 h.hi1, numLo_wide h.lo0 h.lo1]
theorem bInt8 : Back (fun s => rdS s 8) (fun s => wrap64 (le (rdV s 8))) (fun x => bytesOf x 8) i64ok := fun x m h =>
  ⟨by simp only [rdV_app (blen x 8)]; exact int_again8 h.1 h.2, rdS_app (blen x 8)⟩
theorem one_byte {x : Int} (h : 0 ≤ x ∧ x ≤ 255) : bytesOf x 1 = [x] := by
  simp [bytesOf, byteAt, List.range_succ]; omega
theorem bInt1 : Back (fun s => rdS s 1) (fun s => wrap64 (le (rdV s 1))) (fun x => bytesOf x 1) (fun x => 0 ≤ x ∧ x ≤ 255) := fun x m h =>
  ⟨by simp only [rdV_app (blen x 1)]; rw [one_byte h]; simp only [le, Int.mul_zero, Int.add_zero]; exact wrap_small h.1 h.2, rdS_app (blen x 1)⟩
theorem bFlag : Back flS flV flb (fun _ => True) := fun x m _ => by
  have hl : (flb x).length = 1 := rfl
  have e1 : rdS (flb x ++ m, false) 1 = (m, false) := rdS_app hl
  have e2 : rdV (flb x ++ m, false) 1 = flb x := rdV_app hl
  simp only [flS, flV, e1, e2]
  cases x <;> exact ⟨rfl, rfl⟩
section
variable {α : Type} {lf : RS → RS} {gt : RS → α} {by_ : α → List Int} {ok : α → Prop}
theorem itM_front {p : List α × RS} (k : Nat) : itM lf gt (k + 1) p = itM lf gt k (stM lf gt p) := by
  induction k with
  | zero => rfl
  | succ k ih => simp only [itM] at ih ⊢; rw [ih]
theorem Back.it (b : Back lf gt by_ ok) (xs ys : List α) (m : List Int) (h : ∀ x ∈ xs, ok x) : itM lf gt xs.length (ys, (xs.flatMap by_ ++ m, false)) = (ys ++ xs, (m, false)) := by
  induction xs generalizing ys with
  | nil => simp [itM]
  | cons x xs ih =>
    obtain ⟨b1, b2⟩ := b x (xs.flatMap by_ ++ m) (h x (List.mem_cons_self ..))
    rw [List.length_cons, itM_front]
    have e : stM lf gt (ys, ((x :: xs).flatMap by_ ++ m, false)) = (ys ++ [x], (xs.flatMap by_ ++ m, false)) := by
      rw [stM, if_neg (by simp), List.flatMap_cons, List.append_assoc]
      simp only [b1, b2]
    rw [e, ih _ (fun y hy => h y (List.mem_cons_of_mem _ hy))]
    simp
theorem Back.many (b : Back lf gt by_ ok) (xs : List α) (m : List Int) (h : ∀ x ∈ xs, ok x) (hn : xs.length ≤ 255) : manyR lf gt (bytesOf xs.length 1 ++ xs.flatMap by_ ++ m, false) = (xs, (m, false)) := by
  have hb : (0 : Int) ≤ xs.length ∧ (xs.length : Int) ≤ 255 := by omega
  have e1 : rdS (bytesOf (xs.length : Int) 1 ++ xs.flatMap by_ ++ m, false) 1 = (xs.flatMap by_ ++ m, false) := by rw [List.append_assoc]; exact rdS_app (blen _ 1)
  have e2 : cntR (bytesOf (xs.length : Int) 1 ++ xs.flatMap by_ ++ m, false) = xs.length := by
    rw [cntR, List.append_assoc, rdV_app (blen _ 1), one_byte hb]
    simp [le]
  rw [manyR, e1, e2, b.it xs [] m h]
  rfl
end
structure Req.fits (q : Req) : Prop where
  ok : q.ok
  now : i64ok q.now
  from_ : i64ok q.flt.from_
  upto : i64ok q.flt.upto
def Req.norm (q : Req) : Req :=
  if q.op = 1 then ⟨q.op, q.accs, [], 0, [], Flt.zero⟩ else if q.op = 2 then ⟨q.op, [], q.txs, 0, [], Flt.zero⟩ else if q.op = 3 then ⟨q.op, [], [], q.now, [], Flt.zero⟩ else if q.op = 6 then ⟨q.op, [], [], 0, [], q.flt⟩ else ⟨q.op, [], [], 0, q.ids, Flt.zero⟩
theorem flt_back (f : Flt) (m : List Int) (h0 : f.acct.ok) (h1 : i64ok f.from_) (h2 : i64ok f.upto) (h3 : 0 ≤ f.lim ∧ f.lim ≤ 255) : rdFlt (f.bytes ++ m, false) = (f, (m, false)) := by
  have e : f.bytes ++ m = Nm.bytes f.acct ++ (bytesOf f.from_ 8 ++ (bytesOf f.upto 8 ++ (flb f.deb ++ (flb f.cre ++ (flb f.lat ++ (bytesOf f.lim 1 ++ m)))))) := by simp only [Flt.bytes, Nm.bytes, List.append_assoc]
  obtain ⟨a0, b0⟩ := bNm f.acct (bytesOf f.from_ 8 ++ (bytesOf f.upto 8 ++ (flb f.deb ++ (flb f.cre ++ (flb f.lat ++ (bytesOf f.lim 1 ++ m)))))) h0
  obtain ⟨a1, b1⟩ := bInt8 f.from_ (bytesOf f.upto 8 ++ (flb f.deb ++ (flb f.cre ++ (flb f.lat ++ (bytesOf f.lim 1 ++ m))))) h1
  obtain ⟨a2, b2⟩ := bInt8 f.upto (flb f.deb ++ (flb f.cre ++ (flb f.lat ++ (bytesOf f.lim 1 ++ m)))) h2
  obtain ⟨a3, b3⟩ := bFlag f.deb (flb f.cre ++ (flb f.lat ++ (bytesOf f.lim 1 ++ m))) trivial
  obtain ⟨a4, b4⟩ := bFlag f.cre (flb f.lat ++ (bytesOf f.lim 1 ++ m)) trivial
  obtain ⟨a5, b5⟩ := bFlag f.lat (bytesOf f.lim 1 ++ m) trivial
  obtain ⟨a6, b6⟩ := bInt1 f.lim m h3
  rw [Nm.left] at b0
  simp only at a1 b1 a2 b2 a6 b6
  rw [rdFlt, e, a0, b0, a1, b1, a2, b2, a3, b3, a4, b4, a5, b5, a6, b6]
theorem good_parts {q : Req} (h : q.good = true) : (1 ≤ q.op ∧ q.op ≤ 6) ∧ (q.op = 1 → q.accs.length ≤ 8 ∧ ∀ x ∈ q.accs, x.good = true) ∧ (q.op = 2 → q.txs.length ≤ 8 ∧ ∀ x ∈ q.txs, x.good = true) ∧ (q.op = 6 → fltGood q.flt = true) ∧ (q.op = 4 ∨ q.op = 5 → q.ids.length ≤ 16) := by
  have ho : 1 ≤ q.op ∧ q.op ≤ 6 := by
    apply Decidable.byContradiction
    intro hc
    rw [good_ops (by omega)] at h
    cases h
  rw [Req.good, wgood, Bool.and_eq_true] at h
  obtain ⟨h1, h2⟩ := h
  refine ⟨ho, fun e => ?_, fun e => ?_, fun e => ?_, fun e => ?_⟩
  · rw [askGood_12 (.inl e), Bool.or_false, engGood, if_pos e] at h1
    rw [if_pos e] at h2
    simp at h1
    exact ⟨by omega, fun x hx => (List.all_eq_true.1 h2) x hx⟩
  · rw [askGood_12 (.inr e), Bool.or_false, engGood, if_neg (by omega), if_pos e] at h1
    rw [if_neg (by omega), if_pos e] at h2
    simp at h1
    exact ⟨by omega, fun x hx => (List.all_eq_true.1 h2) x hx⟩
  · rw [ask6 _ _ e, engGood, if_neg (by omega), if_neg (by omega), if_neg (by omega), Bool.false_or] at h1
    exact h1
  · rw [ask45 _ _ e, engGood, if_neg (by omega), if_neg (by omega), if_neg (by omega), Bool.false_or] at h1
    simp at h1
    omega
theorem req_again {q : Req} (h : q.good = true) (hf : q.fits) (m : List Int) : rdReq (q.bytes ++ m) = (q.norm, (m, false)) := by
  obtain ⟨ho, p1, p2, p6, p45⟩ := good_parts h
  have e0 : q.bytes ++ m = bytesOf q.op 1 ++ (bodyBytes q.op q.accs q.txs q.now q.ids q.flt ++ m) := by rw [Req.bytes, reqBytes, List.append_assoc]
  obtain ⟨a0, b0⟩ := bInt1 q.op (bodyBytes q.op q.accs q.txs q.now q.ids q.flt ++ m) (by omega)
  simp only at a0 b0
  rw [rdReq, e0, a0, b0]
  by_cases h1 : q.op = 1
  · obtain ⟨hl, hg⟩ := p1 h1
    have hb := bAcc.many q.accs m (fun x hx => ⟨hf.ok.accs x hx, hg x hx⟩) (by omega)
    simp only [rdBody, bodyBytes, Req.norm, if_pos h1]
    rw [hb]
  by_cases h2 : q.op = 2
  · obtain ⟨hl, hg⟩ := p2 h2
    have hb := bTx.many q.txs m (fun x hx => ⟨hf.ok.txs x hx, hg x hx⟩) (by omega)
    simp only [rdBody, bodyBytes, Req.norm, if_neg h1, if_pos h2]
    rw [hb]
  by_cases h3 : q.op = 3
  · obtain ⟨a1, b1⟩ := bInt8 q.now m hf.now
    simp only at a1 b1
    simp only [rdBody, bodyBytes, Req.norm, if_neg h1, if_neg h2, if_pos h3]
    rw [a1, b1]
  by_cases h6 : q.op = 6
  · have hg := p6 h6
    have hb := flt_back q.flt m hf.ok.flt hf.from_ hf.upto (by simp [fltGood] at hg; omega)
    simp only [rdBody, bodyBytes, Req.norm, if_neg h1, if_neg h2, if_neg h3, if_pos h6]
    rw [hb]
  · have hb := bNm.many q.ids m hf.ok.ids (by have := p45 (by omega); omega)
    simp only [rdBody, bodyBytes, Req.norm, if_neg h1, if_neg h2, if_neg h3, if_neg h6]
    rw [hb]
theorem norm_op (q : Req) : q.norm.op = q.op := by
  unfold Req.norm
  split
  · rfl
  split
  · rfl
  split
  · rfl
  split <;> rfl
theorem norm_good {q : Req} : q.norm.good = q.good := by
  by_cases h1 : q.op = 1
  · simp only [Req.norm, if_pos h1, Req.good, wgood, engGood, askGood_12 (.inl h1)]
  by_cases h2 : q.op = 2
  · simp only [Req.norm, if_neg h1, if_pos h2, Req.good, wgood, engGood, askGood_12 (.inr h2)]
  by_cases h3 : q.op = 3
  · simp only [Req.norm, if_neg h1, if_neg h2, if_pos h3, Req.good, wgood, engGood, askGood, if_neg (show ¬ (q.op = 4 ∨ q.op = 5) by omega), if_neg (show ¬ q.op = 6 by omega)]
  by_cases h6 : q.op = 6
  · simp only [Req.norm, if_neg h1, if_neg h2, if_neg h3, if_pos h6, Req.good, wgood, engGood, askGood, if_neg (show ¬ (q.op = 4 ∨ q.op = 5) by omega)]
  · simp only [Req.norm, if_neg h1, if_neg h2, if_neg h3, if_neg h6, Req.good, wgood, engGood, askGood]
theorem norm_bytes {q : Req} : q.norm.bytes = q.bytes := by
  by_cases h1 : q.op = 1
  · simp only [Req.norm, if_pos h1, Req.bytes, reqBytes, bodyBytes]
  by_cases h2 : q.op = 2
  · simp only [Req.norm, if_neg h1, if_pos h2, Req.bytes, reqBytes, bodyBytes]
  by_cases h3 : q.op = 3
  · simp only [Req.norm, if_neg h1, if_neg h2, if_pos h3, Req.bytes, reqBytes, bodyBytes]
  by_cases h6 : q.op = 6
  · simp only [Req.norm, if_neg h1, if_neg h2, if_neg h3, if_pos h6, Req.bytes, reqBytes, bodyBytes]
  · simp only [Req.norm, if_neg h1, if_neg h2, if_neg h3, if_neg h6, Req.bytes, reqBytes, bodyBytes]
/-- A request's bytes are read: it, with nothing but what its op names. -/
theorem again_ok {q : Req} (h : q.good = true) (hf : q.fits) : rdOk q.bytes = true ∧ (rdReq q.bytes).1 = q.norm := by
  have e := req_again h hf []
  rw [List.append_nil] at e
  rw [rdOk, e]
  refine ⟨?_, rfl⟩
  simp only [norm_good, h]
  rfl
theorem more_none {q : Req} (h : q.good = true) (hf : q.fits) {m : List Int} (hm : m ≠ []) : rdOk (q.bytes ++ m) = false := by
  rw [rdOk, req_again h hf m]
  cases m with
  | nil => exact absurd rfl hm
  | cons c m => rfl
theorem read_i64 (l : List Int) : i64ok (rdReq l).1.now ∧ i64ok (rdReq l).1.flt.from_ ∧ i64ok (rdReq l).1.flt.upto := by
  have z : i64ok 0 := ⟨by decide, by decide⟩
  rw [rdReq, rdBody]
  split
  · exact ⟨z, z, z⟩
  split
  · exact ⟨z, z, z⟩
  split
  · exact ⟨wrap_i64 _, z, z⟩
  split
  · exact ⟨z, wrap_i64 _, wrap_i64 _⟩
  · exact ⟨z, z, z⟩
theorem cut_none {q : Req} (h : q.good = true) (hf : q.fits) (hB : Bytes q.bytes) {c : Nat} (hc : c < q.bytes.length) : rdOk (q.bytes.take c) = false := by
  cases hk : rdOk (q.bytes.take c) with
  | false => rfl
  | true =>
    obtain ⟨w1, w2, w3, _⟩ := req_whole (hB.take c) hk
    obtain ⟨i1, i2, i3⟩ := read_i64 (q.bytes.take c)
    have e1 := req_again w2 ⟨w3, i1, i2, i3⟩ (q.bytes.drop c)
    rw [w1, List.take_append_drop] at e1
    have e2 := req_again h hf []
    rw [List.append_nil, e1] at e2
    have e3 : q.bytes.drop c = [] := congrArg (fun p => p.2.1) e2
    have : (q.bytes.drop c).length = 0 := by rw [e3]; rfl
    rw [List.length_drop] at this
    omega
theorem flat_bytes {α : Type} {f : α → List Int} (h : ∀ x, Bytes (f x)) (l : List α) : Bytes (l.flatMap f) := fun x hx => by
  obtain ⟨y, _, hy⟩ := List.mem_flatMap.1 hx
  exact h y x hy
theorem flb_bytes (b : Bool) : Bytes (flb b) := by
  intro x hx
  rw [flb, List.mem_singleton] at hx
  subst hx
  split <;> omega
theorem req_bytes_ok (q : Req) : Bytes q.bytes := by
  refine (bytesOf_bytes _ _).append ?_
  unfold bodyBytes
  split
  · exact (bytesOf_bytes _ _).append (flat_bytes Acc.bytes_ok _)
  split
  · exact (bytesOf_bytes _ _).append (flat_bytes Tx.bytes_ok _)
  split
  · exact bytesOf_bytes _ _
  split
  · exact ((((((show Bytes (wideBytes _ _) from wideBytes_bd _ _).append (bytesOf_bytes _ _)).append (bytesOf_bytes _ _)).append (flb_bytes _)).append (flb_bytes _)).append (flb_bytes _)).append (bytesOf_bytes _ _)
  · exact (bytesOf_bytes _ _).append (flat_bytes (fun x => wideBytes_bd _ _) _)
end Go.Proofs.Ytfmcimngogibkaa
