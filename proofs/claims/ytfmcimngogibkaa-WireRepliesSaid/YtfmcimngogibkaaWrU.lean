/- Replies that are read. -/
import Derived.Test.YtfmcimngogibkaaWrT
import Derived.Test.YtfmcimngogibkaaWrP
set_option linter.unusedSimpArgs false
set_option linter.unusedVariables false
namespace Go.Proofs.Ytfmcimngogibkaa
open Go.RowKit

structure Rep where
  er : Int
  rs : List Int
  accs : List Acc
  txs : List Tx
def Rep.none : Rep := ⟨0, [], [], []⟩
def Rep.fits (p : Rep) : Bool := rfits p.er p.rs p.accs p.txs
def Rep.bytes (p : Rep) : List Int := repBytes p.er p.rs p.accs p.txs
def Rep.out (p : Rep) : List Int := repOut p.er p.rs p.accs p.txs
def rdRep (l : List Int) : Rep × RS :=
  (⟨wrap64 (le (rdV (l, false) 1)), (manyR iLeft iTook (rdS (l, false) 1)).1, (manyR Acc.left Acc.took (manyR iLeft iTook (rdS (l, false) 1)).2).1, (manyR Tx.left Tx.took (manyR Acc.left Acc.took (manyR iLeft iTook (rdS (l, false) 1)).2).2).1⟩,
    (manyR Tx.left Tx.took (manyR Acc.left Acc.took (manyR iLeft iTook (rdS (l, false) 1)).2).2).2)
def repOk (l : List Int) : Bool := (!(rdRep l).2.2 && (rdRep l).2.1.isEmpty) && (rdRep l).1.fits
theorem cRes : Codec iLeft iTook iBytes (fun x => 0 ≤ x ∧ x ≤ 255) where
  stay := fun s h => rdS_torn _ h
  whole := fun l hB h => by
    have c := (cInt 1 (by omega) (by omega)).whole l hB h
    have hc := cnt_le (s := (l, false)) hB
    have e : iTook (l, false) = wrap64 (le (rdV (l, false) 1)) := (wrap_small hc.1 hc.2).symm
    refine ⟨?_, hc⟩
    rw [e]
    exact c.1
  bytes := left_bytes_Res
theorem bRes : Back iLeft iTook iBytes (fun x => 0 ≤ x ∧ x ≤ 255) := fun x m h => by
  refine ⟨?_, rdS_app (blen x 1)⟩
  rw [iTook, iBytes, rdV_app (blen x 1), one_byte h]
  simp [le]
theorem rep_whole {l : List Int} (hB : Bytes l) (h : repOk l = true) : (rdRep l).1.bytes = l ∧ (rdRep l).1.fits = true ∧ (∀ x ∈ (rdRep l).1.accs, x.ok) ∧ ∀ x ∈ (rdRep l).1.txs, x.ok := by
  rw [repOk, Bool.and_eq_true, Bool.and_eq_true] at h
  obtain ⟨⟨h1, h2⟩, h3⟩ := h
  have h1 : (rdRep l).2.2 = false := by simpa using h1
  have h2 : (rdRep l).2.1 = [] := by simpa using h2
  obtain ⟨s1, e1⟩ : ∃ x, rdS (l, false) 1 = x := ⟨_, rfl⟩
  obtain ⟨m1, e2⟩ : ∃ x, manyR iLeft iTook s1 = x := ⟨_, rfl⟩
  obtain ⟨m2, e3⟩ : ∃ x, manyR Acc.left Acc.took m1.2 = x := ⟨_, rfl⟩
  obtain ⟨m3, e4⟩ : ∃ x, manyR Tx.left Tx.took m2.2 = x := ⟨_, rfl⟩
  have hr : rdRep l = (⟨wrap64 (le (rdV (l, false) 1)), m1.1, m2.1, m3.1⟩, m3.2) := by rw [rdRep, e1, e2, e3, e4]
  rw [hr] at h1 h2 h3 ⊢
  have b1 : Bytes s1.1 := e1 ▸ rdS_bytes 1 hB
  have b2 : Bytes m1.2.1 := by rw [← e2]; exact itM_bytes cRes.bytes (rdS_bytes 1 b1) _
  have b3 : Bytes m2.2.1 := by rw [← e3]; exact itM_bytes cAcc.bytes (rdS_bytes 1 b2) _
  obtain ⟨i1, i2, i3, i4⟩ := cTx.many b3 (by rw [e4]; exact h1)
  rw [e4] at i2 i3 i4
  obtain ⟨j1, j2, j3, j4⟩ := cAcc.many b2 (by rw [e3]; exact i1)
  rw [e3] at j2 j3 j4
  obtain ⟨k1, k2, k3, k4⟩ := cRes.many b1 (by rw [e2]; exact j1)
  rw [e2] at k2 k3 k4
  have c := (cInt 1 (by omega) (by omega)).whole l hB (by rw [e1]; exact k1)
  simp only [e1] at c
  refine ⟨?_, h3, fun x hx => (j3 x hx).1, fun x hx => (i3 x hx).1⟩
  have h2 : m3.2.1 = [] := h2
  rw [h2, List.append_nil] at i2
  rw [i2] at j2
  rw [j2] at k2
  have c1 := c.1
  rw [k2] at c1
  simp only [Rep.bytes, repBytes]
  refine Eq.trans ?_ c1.symm
  simp only [List.append_assoc]
theorem rep_again {er : Int} {rs : List Int} {la : List Acc} {lt : List Tx} (h : RFit er rs la lt) (ha : ∀ x ∈ la, x.ok) (ht : ∀ x ∈ lt, x.ok) (m : List Int) : rdRep (repBytes er rs la lt ++ m) = (⟨er, rs, la, lt⟩, (m, false)) := by
  have e0 : repBytes er rs la lt ++ m = bytesOf er 1 ++ (bytesOf rs.length 1 ++ rs.flatMap iBytes ++ (bytesOf la.length 1 ++ la.flatMap Acc.bytes ++ (bytesOf lt.length 1 ++ lt.flatMap Tx.bytes ++ m))) := by simp only [repBytes, List.append_assoc]
  obtain ⟨a0, b0⟩ := bInt1 er (bytesOf rs.length 1 ++ rs.flatMap iBytes ++ (bytesOf la.length 1 ++ la.flatMap Acc.bytes ++ (bytesOf lt.length 1 ++ lt.flatMap Tx.bytes ++ m))) h.er
  simp only at a0 b0
  have h1 := h.n0
  have h2 := h.n1
  have h3 := h.n2
  have c0 := bRes.many rs (bytesOf la.length 1 ++ la.flatMap Acc.bytes ++ (bytesOf lt.length 1 ++ lt.flatMap Tx.bytes ++ m)) h.rs (by omega)
  have c1 := bAcc.many la (bytesOf lt.length 1 ++ lt.flatMap Tx.bytes ++ m) (fun x hx => ⟨ha x hx, (List.all_eq_true.1 h.la) x hx⟩) (by omega)
  have c2 := bTx.many lt m (fun x hx => ⟨ht x hx, (List.all_eq_true.1 h.lt) x hx⟩) (by omega)
  rw [rdRep, e0, a0, b0, c0, c1, c2]
theorem rep_bytes_ok (er : Int) (rs : List Int) (la : List Acc) (lt : List Tx) : Bytes (repBytes er rs la lt) :=
  (((bytesOf_bytes _ _).append ((bytesOf_bytes _ _).append (flat_bytes (fun x => bytesOf_bytes x 1) _))).append ((bytesOf_bytes _ _).append (flat_bytes Acc.bytes_ok _))).append ((bytesOf_bytes _ _).append (flat_bytes Tx.bytes_ok _))

def RepIs (w : World) (v : Value) (p : Rep) : Prop := ∃ a0 c0 a1 c1 a2 c2, v = .agg #[.int .i64 p.er, .slice a0 p.rs.length c0, .slice a1 p.accs.length c1, .slice a2 p.txs.length c2] ∧
  Row w a0 (p.rs.flatMap iCells) ∧ Row w a1 (p.accs.flatMap Acc.cells) ∧ Row w a2 (p.txs.flatMap Tx.cells)
theorem many_le {α : Type} {lf : RS → RS} {gt : RS → α} {s : RS} (hB : Bytes s.1) : (manyR lf gt s).1.length ≤ 255 := by
  have h := itM_len (lf := lf) (gt := gt) (p := ([], rdS s 1)) (cntR s)
  have h2 := (cnt_wrap hB).2
  have h3 : (manyR lf gt s).1.length ≤ ([] : List α).length + cntR s := h
  rw [List.length_nil] at h3
  omega
set_option maxRecDepth 4000 in
set_option maxHeartbeats 6400000 in
theorem readRep_any (w : World) (l : List Int) (hB : Bytes l) :
    Calls Try.prog 16 #[.string (strOfNums l)] w fun e w' => ∃ v, e = .returned (.tuple #[v, .int .i64 (if repOk l = true then 0 else 4)]) ∧ RepIs w' v (if repOk l = true then (rdRep l).1 else Rep.none) ∧ Fr (fun _ => False) w w' := by
  have HB := Lib.hid hB
  have HZ := Lib.hid (heap_alloc_new w (.cells #[.int .i64 0, .slice none 0 0, .slice none 0 0, .slice none 0 0] 47))
  have FZ := Lib.hid ((Fr.refl (fun _ => False) w).alloc (.cells #[.int .i64 0, .slice none 0 0, .slice none 0 0, .slice none 0 0] 47))
  obtain ⟨op, hop⟩ : ∃ op, wrap64 (le (rdV (l, false) 1)) = op := ⟨_, rfl⟩
  obtain ⟨s1, hs1⟩ : ∃ s1, rdS (l, false) 1 = s1 := ⟨_, rfl⟩
  obtain ⟨M1, hm1⟩ : ∃ x, manyR iLeft iTook s1 = x := ⟨_, rfl⟩
  obtain ⟨M2, hm2⟩ : ∃ x, manyR Acc.left Acc.took M1.2 = x := ⟨_, rfl⟩
  obtain ⟨M3, hm3⟩ : ∃ x, manyR Tx.left Tx.took M2.2 = x := ⟨_, rfl⟩
  have hrd : rdRep l = (⟨op, M1.1, M2.1, M3.1⟩, M3.2) := by rw [rdRep, hop, hs1, hm1, hm2, hm3]
  obtain ⟨ok, hok⟩ : ∃ ok, repOk l = ok := ⟨_, rfl⟩
  have HOk := Lib.hid (show ok = ((!M3.2.2 && M3.2.1.isEmpty) && rfits op M1.1 M2.1 M3.1) from by rw [← hok, repOk, hrd]; rfl)
  rw [hok, hrd]
  have HB1 := Lib.hid (show Bytes s1.1 from hs1 ▸ rdS_bytes 1 hB)
  have HBm1 := Lib.hid (show Bytes M1.2.1 from by rw [← hm1]; exact itM_bytes left_bytes_Res (rdS_bytes 1 HB1.out) _)
  have HBm2 := Lib.hid (show Bytes M2.2.1 from by rw [← hm2]; exact itM_bytes left_bytes_Acc (rdS_bytes 1 HBm1.out) _)
  obtain ⟨er, her⟩ : ∃ er : Int, (if ok = true then 0 else 4) = er := ⟨_, rfl⟩
  obtain ⟨rq, hrq⟩ : ∃ rq, (if ok = true then (⟨op, M1.1, M2.1, M3.1⟩ : Rep) else Rep.none) = rq := ⟨_, rfl⟩
  rw [her, hrq]
  have HEr := Lib.hid her
  have HRr := Lib.hid hrq
  have Hop := Lib.hid hop
  have Hs1 := Lib.hid hs1
  have Hm1 := Lib.hid hm1
  have Hm2 := Lib.hid hm2
  have Hm3 := Lib.hid hm3
  clear hop hs1 hm1 hm2 hm3 hrd hok her hrq hB
  go_enter Try.func16, Try.ntmps16
  go_wp2_with fail
  refine (tRead_any _ l).mono ?_
  rintro e w1 ⟨g, rfl, hge, r1, f1⟩
  have hgs : g = w.heap.size + 1 := hge.trans (Array.size_push ..)
  have HZ1 := Lib.hid (f1.blk HZ.out (fun h => h))
  have F1 := Lib.hid (FZ.out.then_ f1 (fun _ h => h.elim))
  have HI := Lib.hid (rInt_tot w1 g (l, false) 1 r1 HB.out (by omega))
  rw [Hop.out, Hs1.out] at HI
  have Hg := Lib.hid hgs
  clear hge r1 f1 hgs
  go_wp2_with fail
  refine HI.out.mono ?_
  rintro e w2 ⟨rfl, r2, f2⟩
  have HZ2 := Lib.hid (f2.blk HZ1.out (fun h => by have h : w.heap.size = g := h; have := Hg.out; omega))
  have F2 := Lib.hid (F1.out.then_ f2 (fun k hk => .inr (by have hk : k = g := hk; have := Hg.out; omega)))
  have HM := Lib.hid (many_Res w2 g s1 r2 HB1.out)
  have G2 := Lib.hid (show g < w2.heap.size from blk_lt r2)
  rw [Hm1.out] at HM
  clear r2 f2
  go_wp2_with fail
  refine HM.out.mono ?_
  rintro e w3 ⟨v, rfl, ov, hvn, r3, f3⟩
  obtain ⟨a0, c0, rfl, hr0⟩ := own_row2 ov
  have R0 := Lib.hid hr0
  have V0 := Lib.hid (show ∀ b, a0 = some b → g < b.block from fun b e => by subst e; have := hvn b.block rfl; have := G2.out; omega)
  have G3 := Lib.hid (show g < w3.heap.size from blk_lt r3)
  have HZ3 := Lib.hid (f3.blk HZ2.out (fun h => by have h : w.heap.size = g := h; have := Hg.out; omega))
  have F23 := Lib.hid f3
  have F3 := Lib.hid (F2.out.then_ f3 (fun k hk => .inr (by have hk : k = g := hk; have := Hg.out; omega)))
  have HM' := Lib.hid (many_Acc w3 g M1.2 r3 HBm1.out)
  rw [Hm2.out] at HM'
  clear ov hvn r3 f3 hr0
  go_wp2_with fail
  refine HM'.out.mono ?_
  rintro e w4 ⟨v, rfl, ov, hvn, r4, f4⟩
  obtain ⟨a1, c1, rfl, hr1⟩ := own_row2 ov
  have R1 := Lib.hid hr1
  have V1 := Lib.hid (show ∀ b, a1 = some b → g < b.block from fun b e => by subst e; have := hvn b.block rfl; have := G3.out; omega)
  have G4 := Lib.hid (show g < w4.heap.size from blk_lt r4)
  have HZ4 := Lib.hid (f4.blk HZ3.out (fun h => by have h : w.heap.size = g := h; have := Hg.out; omega))
  have F34 := Lib.hid f4
  have F4 := Lib.hid (F3.out.then_ f4 (fun k hk => .inr (by have hk : k = g := hk; have := Hg.out; omega)))
  have HM'' := Lib.hid (many_Tx w4 g M2.2 r4 HBm2.out)
  rw [Hm3.out] at HM''
  clear ov hvn r4 f4 hr1
  go_wp2_with fail
  refine HM''.out.mono ?_
  rintro e w5 ⟨v, rfl, ov, hvn, r5, f5⟩
  obtain ⟨a2, c2, rfl, hr2⟩ := own_row2 ov
  have HZ5 := Lib.hid (f5.blk HZ4.out (fun h => by have h : w.heap.size = g := h; have := Hg.out; omega))
  have F5 := Lib.hid (F4.out.then_ f5 (fun k hk => .inr (by have hk : k = g := hk; have := Hg.out; omega)))
  have R05 := Lib.hid ((R0.out.fr F34.out (fun b e h => by have := V0.out b e; have h : b.block = g := h; omega)).fr f5 (fun b e h => by have := V0.out b e; have h : b.block = g := h; omega))
  have R15 := Lib.hid (R1.out.fr f5 (fun b e h => by have := V1.out b e; have h : b.block = g := h; omega))
  have R25 := Lib.hid hr2
  have V2 := Lib.hid (show ∀ b, a2 = some b → g < b.block from fun b e => by subst e; have := hvn b.block rfl; have := G4.out; omega)
  obtain ⟨rs, S1⟩ := M1
  obtain ⟨la, S2⟩ := M2
  obtain ⟨lt, S3⟩ := M3
  obtain ⟨l2, t2⟩ := S3
  obtain ⟨n0, hn0⟩ : ∃ n, rs.length = n := ⟨_, rfl⟩
  obtain ⟨n1, hn1⟩ : ∃ n, la.length = n := ⟨_, rfl⟩
  obtain ⟨n2, hn2⟩ : ∃ n, lt.length = n := ⟨_, rfl⟩
  simp only [hn0, hn1, hn2]
  have HBq := Lib.hid (heap_alloc_new w5 (.cells #[.int .i64 op, .slice a0 n0 c0, .slice a1 n1 c1, .slice a2 n2 c2] 47))
  have FQ := Lib.hid ((Fr.refl (fun _ => False) w5).alloc (.cells #[.int .i64 op, .slice a0 n0 c0, .slice a1 n1 c1, .slice a2 n2 c2] 47))
  have HZq := Lib.hid (blk_alloc HZ5.out (.cells #[.int .i64 op, .slice a0 n0 c0, .slice a1 n1 c1, .slice a2 n2 c2] 47))
  have FC := Lib.hid (F5.out.alloc (.cells #[.int .i64 op, .slice a0 n0 c0, .slice a1 n1 c1, .slice a2 n2 c2] 47))
  have HE := Lib.hid (rEnd_any (w5.alloc (.cells #[.int .i64 op, .slice a0 n0 c0, .slice a1 n1 c1, .slice a2 n2 c2] 47)) g l2 t2 (blk_alloc r5 _))
  have hbd : n0 ≤ 255 ∧ n1 ≤ 255 ∧ n2 ≤ 255 := by
    refine ⟨?_, ?_, ?_⟩
    · rw [← hn0, show rs = (manyR iLeft iTook s1).1 from by rw [Hm1.out]]
      exact many_le HB1.out
    · rw [← hn1, show la = (manyR Acc.left Acc.took S1).1 from by rw [Hm2.out]]
      exact many_le HBm1.out
    · rw [← hn2, show lt = (manyR Tx.left Tx.took S2).1 from by rw [Hm3.out]]
      exact many_le HBm2.out
  have HG := Lib.hid (fits_any (w5.alloc (.cells #[.int .i64 op, .slice a0 n0 c0, .slice a1 n1 c1, .slice a2 n2 c2] 47)) op a0 n0 c0 a1 n1 c1 a2 n2 c2 rs la lt hn0 hn1 hn2 (by omega) (by omega) (by omega) (R05.out.fr FQ.out (fun _ _ h => h)) (R15.out.fr FQ.out (fun _ _ h => h)) (R25.out.fr FQ.out (fun _ _ h => h)))
  have hok2 : ok = ((!t2 && l2.isEmpty) && rfits op rs la lt) := HOk.out
  obtain ⟨eb, heb⟩ : ∃ eb, (!t2 && l2.isEmpty) = eb := ⟨_, rfl⟩
  obtain ⟨gd, hgd⟩ : ∃ gd, rfits op rs la lt = gd := ⟨_, rfl⟩
  rw [heb] at HE hok2
  rw [hgd] at HG hok2
  have HK := Lib.hid hok2
  have HN0 := Lib.hid hn0
  have HN1 := Lib.hid hn1
  have HN2 := Lib.hid hn2
  have hQlt := blk_lt HBq.out
  have k0 := blk_cell HBq.out 0 rfl; have k1 := blk_cell HBq.out 1 rfl; have k2 := blk_cell HBq.out 2 rfl; have k3 := blk_cell HBq.out 3 rfl
  clear ov hvn r5 f5 hr2 hbd hn0 hn1 hn2 hok2 heb hgd
  cases eb
  · have HV := Lib.hid (show ok = false from HK.out)
    go_wp2_with (first | (go_at_call 45; go_must (with_reducible refine HE.out.mono ?_); rintro e _ ⟨rfl, rfl⟩) | ((refine wpList_store_row rfl 47 (.tmp 2) (.tmp 25) rfl w.heap.size #[.int .i64 0, .slice none 0 0, .slice none 0 0, .slice none 0 0] rfl rfl HZq.out rfl rfl (by simp [Value.oneCell']) ?_); intro w9 hb9 f9; have HB9 := Lib.hid hb9; have F9 := Lib.hid f9; clear hb9 f9))
    (try simp only [Exit.inBlock, Exit.then])
    refine bodyPost_ret (results_cell2 (q := 3) rfl _ _ w.heap.size 47 _ (0, 0) _ rfl HB9.out Try.underlying47 rfl rfl) rfl ?_
    rw [← HEr.out, ← HRr.out, HV.out]
    exact ⟨_, rfl, ⟨none, 0, none, 0, none, 0, rfl, row_nil, row_nil, row_nil⟩, FC.out.then_ F9.out (fun k hk => .inr (Nat.le_of_eq hk.symm))⟩
  · cases gd
    · have HV := Lib.hid (show ok = false from HK.out)
      go_wp2_with (first | (go_at_call 45; go_must (with_reducible refine HE.out.mono ?_); rintro e _ ⟨rfl, rfl⟩) | (go_at_call 53; go_must (with_reducible refine HG.out.mono ?_); rintro e wg ⟨rfl, fg⟩; have HZg := Lib.hid (fg.blk HZq.out (fun h => h)); have HQg := Lib.hid (fg.blk HBq.out (fun h => h)); have FG := Lib.hid (FC.out.then_ fg (fun _ h => h.elim)); have Fg := Lib.hid fg; have k0 := blk_cell HQg.out 0 rfl; have k1 := blk_cell HQg.out 1 rfl; have k2 := blk_cell HQg.out 2 rfl; have k3 := blk_cell HQg.out 3 rfl; clear fg) | ((refine wpList_store_row rfl 47 (.tmp 2) (.tmp 25) rfl w.heap.size #[.int .i64 0, .slice none 0 0, .slice none 0 0, .slice none 0 0] rfl rfl HZg.out rfl rfl (by simp [Value.oneCell']) ?_); intro w9 hb9 f9; have HB9 := Lib.hid hb9; have F9 := Lib.hid f9; clear hb9 f9))
      (try simp only [Exit.inBlock, Exit.then])
      refine bodyPost_ret (results_cell2 (q := 3) rfl _ _ w.heap.size 47 _ (0, 0) _ rfl HB9.out Try.underlying47 rfl rfl) rfl ?_
      rw [← HEr.out, ← HRr.out, HV.out]
      exact ⟨_, rfl, ⟨none, 0, none, 0, none, 0, rfl, row_nil, row_nil, row_nil⟩, FG.out.then_ F9.out (fun k hk => .inr (Nat.le_of_eq hk.symm))⟩
    · have HV := Lib.hid (show ok = true from HK.out)
      go_wp2_with (first | (go_at_call 45; go_must (with_reducible refine HE.out.mono ?_); rintro e _ ⟨rfl, rfl⟩) | (go_at_call 53; go_must (with_reducible refine HG.out.mono ?_); rintro e wg ⟨rfl, fg⟩; have HZg := Lib.hid (fg.blk HZq.out (fun h => h)); have HQg := Lib.hid (fg.blk HBq.out (fun h => h)); have FG := Lib.hid (FC.out.then_ fg (fun _ h => h.elim)); have Fg := Lib.hid fg; have k0 := blk_cell HQg.out 0 rfl; have k1 := blk_cell HQg.out 1 rfl; have k2 := blk_cell HQg.out 2 rfl; have k3 := blk_cell HQg.out 3 rfl; clear fg) | ((refine wpList_store_row rfl 47 (.tmp 2) (.tmp 26) rfl w.heap.size #[.int .i64 op, .slice a0 n0 c0, .slice a1 n1 c1, .slice a2 n2 c2] rfl rfl HZg.out rfl rfl (by simp [Value.oneCell']) ?_); intro w9 hb9 f9; have HB9 := Lib.hid hb9; have F9 := Lib.hid f9; clear hb9 f9))
      (try simp only [Exit.inBlock, Exit.then])
      refine bodyPost_ret (results_cell2 (q := 3) rfl _ _ w.heap.size 47 _ (0, 0) _ rfl HB9.out Try.underlying47 rfl rfl) rfl ?_
      rw [← HEr.out, ← HRr.out, HV.out]
      exact ⟨_, rfl, ⟨a0, c0, a1, c1, a2, c2, by rw [← HN0.out, ← HN1.out, ← HN2.out]; rfl, ((R05.out.fr FQ.out (fun _ _ h => h)).fr Fg.out (fun _ _ h => h)).fr F9.out (fun b e h => by have := V0.out b e; have := Hg.out; have h : b.block = w.heap.size := h; omega), ((R15.out.fr FQ.out (fun _ _ h => h)).fr Fg.out (fun _ _ h => h)).fr F9.out (fun b e h => by have := V1.out b e; have := Hg.out; have h : b.block = w.heap.size := h; omega), ((R25.out.fr FQ.out (fun _ _ h => h)).fr Fg.out (fun _ _ h => h)).fr F9.out (fun b e h => by have := V2.out b e; have := Hg.out; have h : b.block = w.heap.size := h; omega)⟩, FG.out.then_ F9.out (fun k hk => .inr (Nat.le_of_eq hk.symm))⟩
end Go.Proofs.Ytfmcimngogibkaa
