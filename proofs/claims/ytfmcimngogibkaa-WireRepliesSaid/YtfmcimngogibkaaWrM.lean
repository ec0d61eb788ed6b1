/- What is read has just those bytes (plain). -/
import Derived.Test.YtfmcimngogibkaaWrJ
import Derived.Test.YtfmcimngogibkaaWrL
set_option linter.unusedSimpArgs false
set_option linter.unusedVariables false
namespace Go.Proofs.Ytfmcimngogibkaa
open Go.RowKit

theorem rd_ok {l : List Int} {n : Nat} (h : (rdS (l, false) n).2 = false) : n ≤ l.length ∧ rdS (l, false) n = (l.drop n, false) ∧ rdV (l, false) n = l.take n := by
  by_cases hn : n ≤ l.length
  · exact ⟨hn, rdS_good hn, rdV_good hn⟩
  · rw [rdS, if_pos (.inr (by simpa using hn))] at h; cases h
theorem rd_stay {s : RS} {n : Nat} (h : (rdS s n).2 = false) : s.2 = false := by
  cases hs : s.2 with
  | false => rfl
  | true => rw [rdS_torn n hs] at h; cases h
theorem rd_pair {s : RS} {n : Nat} (h : (rdS s n).2 = false) : s = (s.1, false) := by
  have := rd_stay h
  obtain ⟨a, b⟩ := s
  simp only at this
  rw [this]
/-- A codec: what is read whole has those bytes. -/
structure Codec {α : Type} (lf : RS → RS) (gt : RS → α) (by_ : α → List Int) (ok : α → Prop) : Prop where
  stay : ∀ s, s.2 = true → (lf s).2 = true
  whole : ∀ l, Bytes l → (lf (l, false)).2 = false → l = by_ (gt (l, false)) ++ (lf (l, false)).1 ∧ ok (gt (l, false))
  bytes : ∀ s, Bytes s.1 → Bytes (lf s).1
section
variable {α : Type} {lf : RS → RS} {gt : RS → α} {by_ : α → List Int} {ok : α → Prop}
theorem Codec.rest (c : Codec lf gt by_ ok) {s : RS} (h : (lf s).2 = false) : s = (s.1, false) := by
  cases hs : s.2 with
  | false => obtain ⟨a, b⟩ := s; simp only at hs; rw [hs]
  | true => rw [c.stay s hs] at h; cases h
theorem Codec.it (c : Codec lf gt by_ ok) {s : RS} (hB : Bytes s.1) (k : Nat) (h : (itM lf gt k ([], s)).2.2 = false) :
    s.2 = false ∧ (itM lf gt k ([], s)).1.length = k ∧ s.1 = (itM lf gt k ([], s)).1.flatMap by_ ++ (itM lf gt k ([], s)).2.1 ∧ ∀ y ∈ (itM lf gt k ([], s)).1, ok y := by
  induction k with
  | zero => exact ⟨h, rfl, by simp [itM], fun y hy => by simp [itM] at hy⟩
  | succ k ih =>
    have hBk := itM_bytes (lf := lf) (gt := gt) (p := ([], s)) c.bytes hB k
    obtain ⟨p, hp⟩ : ∃ p, itM lf gt k ([], s) = p := ⟨_, rfl⟩
    have hs : itM lf gt (k + 1) ([], s) = stM lf gt p := by rw [← hp]; rfl
    rw [hs] at h ⊢
    rw [hp] at ih hBk
    obtain ⟨xs, l, t⟩ := p
    cases t with
    | true => rw [stM, if_pos rfl] at h; cases h
    | false =>
      have e : stM lf gt (xs, (l, false)) = (xs ++ [gt (l, false)], lf (l, false)) := by rw [stM, if_neg (by simp)]
      rw [e] at h ⊢
      obtain ⟨i1, i2, i3, i4⟩ := ih rfl
      obtain ⟨w1, w2⟩ := c.whole l hBk h
      refine ⟨i1, by simp only [List.length_append, List.length_singleton]; simp only at i2; omega, ?_, fun y hy => ?_⟩
      · simp only [List.flatMap_append, List.flatMap_cons, List.flatMap_nil, List.append_nil, List.append_assoc]
        rw [← w1]
        exact i3
      · rcases List.mem_append.1 hy with hy | hy
        · exact i4 y hy
        · rw [List.mem_singleton.1 hy]; exact w2
theorem Codec.many (c : Codec lf gt by_ ok) {s : RS} (hB : Bytes s.1) (h : (manyR lf gt s).2.2 = false) :
    s.2 = false ∧ s.1 = bytesOf (manyR lf gt s).1.length 1 ++ (manyR lf gt s).1.flatMap by_ ++ (manyR lf gt s).2.1 ∧ (∀ y ∈ (manyR lf gt s).1, ok y) ∧ (manyR lf gt s).1.length ≤ 255 := by
  have hm : manyR lf gt s = itM lf gt (cntR s) ([], rdS s 1) := rfl
  rw [hm] at h ⊢
  obtain ⟨i1, i2, i3, i4⟩ := c.it (rdS_bytes 1 hB) (cntR s) h
  have hp := rd_pair i1
  have hs := rd_stay i1
  obtain ⟨l, t⟩ := s
  simp only at hs
  subst hs
  obtain ⟨r1, r2, r3⟩ := rd_ok i1
  have hc := cnt_le (s := (l, false)) hB
  have hcn := cnt_wrap (s := (l, false)) hB
  refine ⟨rfl, ?_, i4, by rw [i2]; exact hcn.2⟩
  rw [i2, List.append_assoc, ← i3, r2]
  cases l with
  | nil => simp at r1
  | cons x l =>
    have hx := hB x (List.mem_cons_self ..)
    have e : bytesOf (cntR (x :: l, false) : Int) 1 = [x] := by
      rw [← hcn.1, r3]
      simp [bytesOf, byteAt, le, wrap64, List.range_succ]
      omega
    rw [e]
    rfl
end
theorem cAcc : Codec Acc.left Acc.took Acc.bytes (fun x => x.ok ∧ x.good = true) where
  stay := fun s h => rdAll_torn _ h
  whole := fun l hB h => by
    have hl : 96 ≤ l.length := by
      apply Decidable.byContradiction
      intro hc
      rw [Acc.left_short (by omega)] at h
      cases h
    have e : Acc.took (l, false) = Acc.got (l, false) := by rw [Acc.took, h]; rfl
    rw [e, Acc.got_bytes hl hB, Acc.left_long hl]
    exact ⟨(List.take_append_drop 96 l).symm, Acc.got_ok hl hB, Acc.got_good hl hB⟩
  bytes := left_bytes_Acc
theorem cTx : Codec Tx.left Tx.took Tx.bytes (fun x => x.ok ∧ x.good = true) where
  stay := fun s h => rdAll_torn _ h
  whole := fun l hB h => by
    have hl : 108 ≤ l.length := by
      apply Decidable.byContradiction
      intro hc
      rw [Tx.left_short (by omega)] at h
      cases h
    have e : Tx.took (l, false) = Tx.got (l, false) := by rw [Tx.took, h]; rfl
    rw [e, Tx.got_bytes hl hB, Tx.left_long hl]
    exact ⟨(List.take_append_drop 108 l).symm, Tx.got_ok hl hB, Tx.got_good hl hB⟩
  bytes := left_bytes_Tx
theorem cNm : Codec Nm.left Nm.took Nm.bytes Nm.ok where
  stay := fun s h => rdS_torn _ h
  whole := fun l hB h => by
    obtain ⟨r1, r2, r3⟩ := rd_ok h
    have hv : Bytes (l.take 16) := fun x hx => hB x (List.mem_of_mem_take hx)
    have hl : (l.take 16).length = 16 := by rw [List.length_take]; omega
    have e : (Nm.took (l, false)).bytes = l.take 16 := by rw [Nm.bytes, Nm.took, r3]; exact num_bytes hv hl
    have hk := num_ok hv
    refine ⟨?_, ?_⟩
    · rw [e, Nm.left, r2]; exact (List.take_append_drop 16 l).symm
    · rw [Nm.took, r3]; exact ⟨hk.1.1, hk.1.2, hk.2.1, hk.2.2⟩
  bytes := left_bytes_Nm
theorem cInt (n : Nat) (h0 : 0 < n) (hn : n ≤ 8) : Codec (fun s => rdS s n) (fun s => wrap64 (le (rdV s n))) (fun x => bytesOf x n) (fun _ => True) where
  stay := fun s h => rdS_torn _ h
  whole := fun l hB h => by
    obtain ⟨r1, r2, r3⟩ := rd_ok h
    have hv : Bytes (l.take n) := fun x hx => hB x (List.mem_of_mem_take hx)
    have hl : (l.take n).length = n := by rw [List.length_take]; omega
    refine ⟨?_, trivial⟩
    have e := int_bytes hv (by omega)
    rw [hl] at e
    simp only [r2, r3, e]
    exact (List.take_append_drop n l).symm
  bytes := fun s h => rdS_bytes n h
theorem cFlag : Codec flS flV flb (fun _ => True) where
  stay := fun s h => by simp [flS, rdS_torn 1 h]
  whole := fun l hB h => by
    have h1 : (rdS (l, false) 1).2 = false := by
      simp only [flS, Bool.or_eq_false_iff] at h
      exact h.1
    have h2 : ¬ 1 < le (rdV (l, false) 1) := by
      simp only [flS, Bool.or_eq_false_iff] at h
      exact of_decide_eq_false h.2
    obtain ⟨r1, r2, r3⟩ := rd_ok h1
    cases l with
    | nil => simp at r1
    | cons c l =>
      have hc := hB c (List.mem_cons_self ..)
      have e : le (rdV (c :: l, false) 1) = c := by rw [r3]; simp [le]
      rw [e] at h2
      refine ⟨?_, trivial⟩
      simp only [flS, flV, e, r2]
      have hv : c = 0 ∨ c = 1 := by omega
      rcases hv with rfl | rfl <;> rfl
  bytes := fun s h => flS_bytes h
theorem flt_whole {s : RS} (hB : Bytes s.1) (h : (rdFlt s).2.2 = false) : s.2 = false ∧ s.1 = (rdFlt s).1.bytes ++ (rdFlt s).2.1 ∧ (rdFlt s).1.acct.ok := by
  have ci8 := cInt 8 (by omega) (by omega)
  have ci1 := cInt 1 (by omega) (by omega)
  obtain ⟨t1, e1⟩ : ∃ x, rdS s 16 = x := ⟨_, rfl⟩
  obtain ⟨t2, e2⟩ : ∃ x, rdS t1 8 = x := ⟨_, rfl⟩
  obtain ⟨t3, e3⟩ : ∃ x, rdS t2 8 = x := ⟨_, rfl⟩
  obtain ⟨t4, e4⟩ : ∃ x, flS t3 = x := ⟨_, rfl⟩
  obtain ⟨t5, e5⟩ : ∃ x, flS t4 = x := ⟨_, rfl⟩
  obtain ⟨t6, e6⟩ : ∃ x, flS t5 = x := ⟨_, rfl⟩
  obtain ⟨t7, e7⟩ : ∃ x, rdS t6 1 = x := ⟨_, rfl⟩
  have b1 : Bytes t1.1 := e1 ▸ rdS_bytes 16 hB
  have b2 : Bytes t2.1 := e2 ▸ rdS_bytes 8 b1
  have b3 : Bytes t3.1 := e3 ▸ rdS_bytes 8 b2
  have b4 : Bytes t4.1 := e4 ▸ flS_bytes b3
  have b5 : Bytes t5.1 := e5 ▸ flS_bytes b4
  have b6 : Bytes t6.1 := e6 ▸ flS_bytes b5
  have hf : rdFlt s = (⟨Nm.took s, wrap64 (le (rdV t1 8)), wrap64 (le (rdV t2 8)), flV t3, flV t4, flV t5, wrap64 (le (rdV t6 1))⟩, t7) := by
    rw [rdFlt, e1, e2, e3, e4, e5, e6, e7]
  rw [hf] at h ⊢
  have h7 : t7.2 = false := h
  have p6 := ci1.rest (s := t6) (by rw [e7]; exact h7)
  have p5 := cFlag.rest (s := t5) (by rw [e6, p6])
  have p4 := cFlag.rest (s := t4) (by rw [e5, p5])
  have p3 := cFlag.rest (s := t3) (by rw [e4, p4])
  have p2 := ci8.rest (s := t2) (by rw [e3, p3])
  have p1 := ci8.rest (s := t1) (by rw [e2, p2])
  have p0 := cNm.rest (s := s) (by rw [Nm.left, e1, p1])
  have w0 := cNm.whole s.1 hB (by rw [← p0, Nm.left, e1, p1])
  have w1 := ci8.whole t1.1 b1 (by rw [← p1, e2, p2])
  have w2 := ci8.whole t2.1 b2 (by rw [← p2, e3, p3])
  have w3 := cFlag.whole t3.1 b3 (by rw [← p3, e4, p4])
  have w4 := cFlag.whole t4.1 b4 (by rw [← p4, e5, p5])
  have w5 := cFlag.whole t5.1 b5 (by rw [← p5, e6, p6])
  have w6 := ci1.whole t6.1 b6 (by rw [← p6, e7, h7])
  rw [← p0, Nm.left, e1] at w0
  rw [← p1, e2] at w1
  rw [← p2, e3] at w2
  rw [← p3, e4] at w3
  rw [← p4, e5] at w4
  rw [← p5, e6] at w5
  rw [← p6, e7] at w6
  refine ⟨by rw [p0], ?_, w0.2⟩
  have h0 := w0.1
  rw [w1.1, w2.1, w3.1, w4.1, w5.1, w6.1] at h0
  simp only [Flt.bytes, List.append_assoc]
  rw [Nm.bytes] at h0
  simpa only [List.append_assoc] using h0
structure Req.ok (q : Req) : Prop where
  accs : ∀ x ∈ q.accs, x.ok
  txs : ∀ x ∈ q.txs, x.ok
  ids : ∀ x ∈ q.ids, x.ok
  flt : q.flt.acct.ok
theorem zero_ok : Flt.zero.acct.ok := ⟨by decide, by decide, by decide, by decide⟩
theorem body_whole {op : Int} {s : RS} (hB : Bytes s.1) (h : (rdBody op s).2.2 = false) :
    s.2 = false ∧ s.1 = bodyBytes op (rdBody op s).1.accs (rdBody op s).1.txs (rdBody op s).1.now (rdBody op s).1.ids (rdBody op s).1.flt ++ (rdBody op s).2.1 ∧ (rdBody op s).1.ok ∧
      (rdBody op s).1.accs.length ≤ 255 ∧ (rdBody op s).1.txs.length ≤ 255 ∧ (rdBody op s).1.ids.length ≤ 255 := by
  by_cases h1 : op = 1
  · have e : rdBody op s = (⟨op, (manyR Acc.left Acc.took s).1, [], 0, [], Flt.zero⟩, (manyR Acc.left Acc.took s).2) := by rw [rdBody, if_pos h1]
    rw [e] at h ⊢
    obtain ⟨i1, i2, i3, i4⟩ := cAcc.many hB h
    refine ⟨i1, ?_, ⟨fun x hx => (i3 x hx).1, fun _ h => (nomatch h), fun _ h => (nomatch h), zero_ok⟩, i4, by simp, by simp⟩
    simp only [bodyBytes, if_pos h1]
    exact i2
  by_cases h2 : op = 2
  · have e : rdBody op s = (⟨op, [], (manyR Tx.left Tx.took s).1, 0, [], Flt.zero⟩, (manyR Tx.left Tx.took s).2) := by rw [rdBody, if_neg h1, if_pos h2]
    rw [e] at h ⊢
    obtain ⟨i1, i2, i3, i4⟩ := cTx.many hB h
    refine ⟨i1, ?_, ⟨fun _ h => (nomatch h), fun x hx => (i3 x hx).1, fun _ h => (nomatch h), zero_ok⟩, by simp, i4, by simp⟩
    simp only [bodyBytes, if_neg h1, if_pos h2]
    exact i2
  by_cases h3 : op = 3
  · have e : rdBody op s = (⟨op, [], [], wrap64 (le (rdV s 8)), [], Flt.zero⟩, rdS s 8) := by rw [rdBody, if_neg h1, if_neg h2, if_pos h3]
    rw [e] at h ⊢
    have c := cInt 8 (by omega) (by omega)
    have p := c.rest (s := s) h
    have w := c.whole s.1 hB (by rw [← p]; exact h)
    rw [← p] at w
    refine ⟨by rw [p], ?_, ⟨fun _ h => (nomatch h), fun _ h => (nomatch h), fun _ h => (nomatch h), zero_ok⟩, by simp, by simp, by simp⟩
    simp only [bodyBytes, if_neg h1, if_neg h2, if_pos h3]
    exact w.1
  by_cases h6 : op = 6
  · have e : rdBody op s = (⟨op, [], [], 0, [], (rdFlt s).1⟩, (rdFlt s).2) := by rw [rdBody, if_neg h1, if_neg h2, if_neg h3, if_pos h6]
    rw [e] at h ⊢
    obtain ⟨i1, i2, i3⟩ := flt_whole hB h
    refine ⟨i1, ?_, ⟨fun _ h => (nomatch h), fun _ h => (nomatch h), fun _ h => (nomatch h), i3⟩, by simp, by simp, by simp⟩
    simp only [bodyBytes, if_neg h1, if_neg h2, if_neg h3, if_pos h6]
    exact i2
  · have e : rdBody op s = (⟨op, [], [], 0, (manyR Nm.left Nm.took s).1, Flt.zero⟩, (manyR Nm.left Nm.took s).2) := by rw [rdBody, if_neg h1, if_neg h2, if_neg h3, if_neg h6]
    rw [e] at h ⊢
    obtain ⟨i1, i2, i3, i4⟩ := cNm.many hB h
    refine ⟨i1, ?_, ⟨fun _ h => (nomatch h), fun _ h => (nomatch h), i3, zero_ok⟩, by simp, by simp, i4⟩
    simp only [bodyBytes, if_neg h1, if_neg h2, if_neg h3, if_neg h6]
    exact i2
/-- What is read, and can be, has just those bytes. -/
theorem req_whole {l : List Int} (hB : Bytes l) (h : rdOk l = true) : (rdReq l).1.bytes = l ∧ (rdReq l).1.good = true ∧ (rdReq l).1.ok ∧ (rdReq l).1.accs.length ≤ 255 ∧ (rdReq l).1.txs.length ≤ 255 ∧ (rdReq l).1.ids.length ≤ 255 := by
  rw [rdOk, Bool.and_eq_true, Bool.and_eq_true] at h
  obtain ⟨⟨h1, h2⟩, h3⟩ := h
  have h1 : (rdReq l).2.2 = false := by simpa using h1
  have h2 : (rdReq l).2.1 = [] := by simpa using h2
  obtain ⟨i1, i2, i3, i4, i5, i6⟩ := body_whole (op := wrap64 (le (rdV (l, false) 1))) (s := rdS (l, false) 1) (rdS_bytes 1 hB) h1
  have c := cInt 1 (by omega) (by omega)
  have w := c.whole l hB i1
  refine ⟨?_, h3, i3, i4, i5, i6⟩
  have hop : (rdReq l).1.op = wrap64 (le (rdV (l, false) 1)) := body_op _ _
  have i2' : (rdS (l, false) 1).1 = bodyBytes (rdReq l).1.op (rdReq l).1.accs (rdReq l).1.txs (rdReq l).1.now (rdReq l).1.ids (rdReq l).1.flt ++ (rdReq l).2.1 := by rw [hop]; exact i2
  rw [h2, List.append_nil] at i2'
  rw [Req.bytes, reqBytes, ← i2', hop]
  exact w.1.symm
end Go.Proofs.Ytfmcimngogibkaa
