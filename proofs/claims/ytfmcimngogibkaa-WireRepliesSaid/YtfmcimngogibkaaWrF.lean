/- wire.Read: what bytes say; the walk. -/
import Derived.Test.YtfmcimngogibkaaWrE
set_option linter.unusedSimpArgs false
set_option linter.unusedVariables false
namespace Go.Proofs.Ytfmcimngogibkaa
open Go.RowKit

structure Req where
  op : Int
  accs : List Acc
  txs : List Tx
  now : Int
  ids : List Nm
  flt : Flt
def Flt.zero : Flt := ⟨⟨0, 0⟩, 0, 0, false, false, false, 0⟩
def Req.none : Req := ⟨0, [], [], 0, [], Flt.zero⟩
def Req.good (q : Req) : Bool := wgood q.op q.accs q.txs q.now q.ids.length q.flt
def rdFlt (s : RS) : Flt × RS :=
  (⟨Nm.took s, wrap64 (le (rdV (rdS s 16) 8)), wrap64 (le (rdV (rdS (rdS s 16) 8) 8)), flV (rdS (rdS (rdS s 16) 8) 8), flV (flS (rdS (rdS (rdS s 16) 8) 8)), flV (flS (flS (rdS (rdS (rdS s 16) 8) 8))), wrap64 (le (rdV (flS (flS (flS (rdS (rdS (rdS s 16) 8) 8)))) 1))⟩,
    rdS (flS (flS (flS (rdS (rdS (rdS s 16) 8) 8)))) 1)
/-- What a request's bytes say behind the first one. -/
def rdBody (op : Int) (s : RS) : Req × RS :=
  if op = 1 then (⟨op, (manyR Acc.left Acc.took s).1, [], 0, [], Flt.zero⟩, (manyR Acc.left Acc.took s).2)
  else if op = 2 then (⟨op, [], (manyR Tx.left Tx.took s).1, 0, [], Flt.zero⟩, (manyR Tx.left Tx.took s).2)
  else if op = 3 then (⟨op, [], [], wrap64 (le (rdV s 8)), [], Flt.zero⟩, rdS s 8)
  else if op = 6 then (⟨op, [], [], 0, [], (rdFlt s).1⟩, (rdFlt s).2)
  else (⟨op, [], [], 0, (manyR Nm.left Nm.took s).1, Flt.zero⟩, (manyR Nm.left Nm.took s).2)
def rdReq (l : List Int) : Req × RS := rdBody (wrap64 (le (rdV (l, false) 1))) (rdS (l, false) 1)
def rdOk (l : List Int) : Bool := (!(rdReq l).2.2 && (rdReq l).2.1.isEmpty) && (rdReq l).1.good
abbrev reqCells (op : Int) (a1 : Option Addr) (n1 c1 : Nat) (a2 : Option Addr) (n2 c2 : Nat) (now : Int) (a3 : Option Addr) (n3 c3 : Nat) (f : Flt) : Array Value :=
  #[.int .i64 op, .slice a1 n1 c1, .slice a2 n2 c2, .int .i64 now, .slice a3 n3 c3, .int .u64 f.acct.hi, .int .u64 f.acct.lo, .int .i64 f.from_, .int .i64 f.upto, .bool f.deb, .bool f.cre, .bool f.lat, .int .i64 f.lim]
/-- A request in a block; by value. -/
def ReqAt (w : World) (Q z : Nat) (q : Req) : Prop := ∃ a1 c1 a2 c2 a3 c3, w.heap[Q]? = some (.cells (reqCells q.op a1 q.accs.length c1 a2 q.txs.length c2 q.now a3 q.ids.length c3 q.flt) 31 (0, 0)) ∧
  Row w a1 (q.accs.flatMap Acc.cells) ∧ Row w a2 (q.txs.flatMap Tx.cells) ∧ Row w a3 (q.ids.flatMap Nm.cells) ∧ (∀ b, a1 = some b → z < b.block) ∧ (∀ b, a2 = some b → z < b.block) ∧ ∀ b, a3 = some b → z < b.block
def ReqIs (w : World) (v : Value) (q : Req) : Prop := ∃ a1 c1 a2 c2 a3 c3, v = .agg (reqCells q.op a1 q.accs.length c1 a2 q.txs.length c2 q.now a3 q.ids.length c3 q.flt) ∧
  Row w a1 (q.accs.flatMap Acc.cells) ∧ Row w a2 (q.txs.flatMap Tx.cells) ∧ Row w a3 (q.ids.flatMap Nm.cells)
theorem ReqIs.fr {w w' : World} {v : Value} {q : Req} (h : ReqIs w v q) (hf : Fr (fun _ => False) w w') : ReqIs w' v q := by
  obtain ⟨a1, c1, a2, c2, a3, c3, e, h1, h2, h3⟩ := h
  exact ⟨a1, c1, a2, c2, a3, c3, e, h1.fr hf (fun _ _ h => h), h2.fr hf (fun _ _ h => h), h3.fr hf (fun _ _ h => h)⟩
theorem row_nil {w : World} {a : Option Addr} : Row w a [] := fun j u hu => by simp at hu
theorem own_row2 {w : World} {et : TypeId} {sz n : Nat} {v : Value} {xs : List Value} (h : w.ownsRow 0 et sz v n xs) : ∃ a c, v = .slice a n c ∧ Row w a xs := by
  rcases h.2 with ⟨rfl, h0⟩ | ⟨g, cap, cur, rfl, _⟩
  · obtain rfl : xs = [] := List.eq_nil_of_length_eq_zero (by simpa [h0] using h.1)
    exact ⟨none, 0, by rw [h0], row_nil⟩
  · refine ⟨some ⟨g, 0, none⟩, cap, rfl, fun j u hu => ⟨g, 0, rfl, ?_⟩⟩
    have hj := (List.getElem?_eq_some_iff.1 hu).1
    rw [Nat.zero_add, h.cellAt j (h.1 ▸ hj)]
    exact hu
theorem op_of1 {l : List Int} (hB : Bytes l) : 0 ≤ wrap64 (le (rdV (l, false) 1)) ∧ wrap64 (le (rdV (l, false) 1)) ≤ 255 := by
  have := cnt_le (s := (l, false)) hB
  rw [wrap_small this.1 this.2]
  exact this

set_option maxRecDepth 4000 in
set_option maxHeartbeats 6400000 in
theorem read_any (w : World) (l : List Int) (hB : Bytes l) :
    Calls Try.prog 14 #[.string (strOfNums l)] w fun e w' => ∃ v, e = .returned (.tuple #[v, .int .i64 (if rdOk l = true then 0 else 4)]) ∧ ReqIs w' v (if rdOk l = true then (rdReq l).1 else Req.none) ∧ Fr (fun _ => False) w w' := by
  have HB := Lib.hid hB
  have HZ := Lib.hid (heap_alloc_new w (.cells (reqCells 0 none 0 0 none 0 0 0 none 0 0 Flt.zero) 31))
  have FZ := Lib.hid ((Fr.refl (fun _ => False) w).alloc (.cells (reqCells 0 none 0 0 none 0 0 0 none 0 0 Flt.zero) 31))
  have HRq := Lib.hid (show rdReq l = rdBody (wrap64 (le (rdV (l, false) 1))) (rdS (l, false) 1) from rfl)
  have HOk := Lib.hid (show rdOk l = ((!(rdReq l).2.2 && (rdReq l).2.1.isEmpty) && (rdReq l).1.good) from rfl)
  obtain ⟨qs, hqs⟩ : ∃ qs, rdReq l = qs := ⟨_, rfl⟩
  obtain ⟨ok, hok⟩ : ∃ ok, rdOk l = ok := ⟨_, rfl⟩
  obtain ⟨op, hop⟩ : ∃ op, wrap64 (le (rdV (l, false) 1)) = op := ⟨_, rfl⟩
  obtain ⟨s1, hs1⟩ : ∃ s1, rdS (l, false) 1 = s1 := ⟨_, rfl⟩
  have HB1 := Lib.hid (show Bytes s1.1 from hs1 ▸ rdS_bytes 1 hB)
  rw [hqs, hop, hs1] at HRq
  rw [hqs, hok] at HOk
  rw [hqs, hok]
  obtain ⟨er, her⟩ : ∃ er : Int, (if ok = true then 0 else 4) = er := ⟨_, rfl⟩
  obtain ⟨rq, hrq⟩ : ∃ rq, (if ok = true then qs.1 else Req.none) = rq := ⟨_, rfl⟩
  rw [her, hrq]
  have HEr := Lib.hid her
  have HRr := Lib.hid hrq
  have Hop := Lib.hid hop
  have Hs1 := Lib.hid hs1
  clear hqs hok hop hs1 hB her hrq
  go_enter Try.func14, Try.ntmps14
  go_wp2_with fail
  refine (tRead_any _ l).mono ?_
  rintro e w1 ⟨g, rfl, hge, r1, f1⟩
  have hgs : g = w.heap.size + 1 := hge.trans (Array.size_push ..)
  have HZ1 := Lib.hid (f1.blk HZ.out (fun h => h))
  have F1 := Lib.hid (FZ.out.then_ f1 (fun _ h => h.elim))
  have HI := Lib.hid (rInt_tot w1 g (l, false) 1 r1 HB.out (by omega))
  rw [Hop.out, Hs1.out] at HI
  have Hg := Lib.hid hgs
  clear hge r1 f1 hgs
  go_wp2_with fail
  refine HI.out.mono ?_
  rintro e w2 ⟨rfl, r2, f2⟩
  have HZ2 := Lib.hid (f2.blk HZ1.out (fun h => by have h : w.heap.size = g := h; have := Hg.out; omega))
  have F2 := Lib.hid (F1.out.then_ f2 (fun k hk => .inr (by have hk : k = g := hk; have := Hg.out; omega)))
  have HBq := Lib.hid (heap_alloc_new w2 (.cells (reqCells op none 0 0 none 0 0 0 none 0 0 Flt.zero) 31))
  have HZq := Lib.hid (blk_alloc HZ2.out (.cells (reqCells op none 0 0 none 0 0 0 none 0 0 Flt.zero) 31))
  have Fq := Lib.hid (F2.out.alloc (.cells (reqCells op none 0 0 none 0 0 0 none 0 0 Flt.zero) 31))
  have Hrq := Lib.hid (show IsR (w2.alloc (.cells (reqCells op none 0 0 none 0 0 0 none 0 0 Flt.zero) 31)) g s1.1 s1.2 from blk_alloc r2 _)
  have hgl := blk_lt r2
  clear r2 f2
  obtain ⟨z, hz⟩ : ∃ z, w.heap.size = z := ⟨_, rfl⟩
  have HZs := Lib.hid hz
  rw [hz] at HZq Hg ⊢
  obtain ⟨Q, hQ⟩ : ∃ Q, w2.heap.size = Q := ⟨_, rfl⟩
  rw [hQ] at HBq hgl
  have HQs := Lib.hid hQ
  have HzQ := Lib.hid (show z < Q from by have := Hg.out; omega)
  have hq0 := blk_cell HBq.out 0 rfl
  clear hz
  go_upto_block 0 with fail
  clear hq0 hQ
  obtain ⟨W, hW⟩ : ∃ W, w2.alloc (.cells (reqCells op none 0 0 none 0 0 0 none 0 0 Flt.zero) 31) = W := ⟨_, rfl⟩
  have hW' : w2.alloc (.cells #[.int .i64 op, .slice none 0 0, .slice none 0 0, .int .i64 0, .slice none 0 0, .int .u64 0, .int .u64 0, .int .i64 0, .int .i64 0, .bool false, .bool false, .bool false, .int .i64 0] 31) = W := hW
  rw [hW']
  rw [hW] at HBq HZq Fq Hrq
  clear hW hW'
  have qf := blk_free HBq.out 1
  have q0 := blk_cell HBq.out 0 rfl
  have q1 := blk_cell HBq.out 1 rfl
  have q2 := blk_cell HBq.out 2 rfl
  have q3 := blk_cell HBq.out 3 rfl
  have q4 := blk_cell HBq.out 4 rfl
  go_cut [] from 13 (fun w' => ReqAt w' Q z qs.1 ∧ IsR w' g qs.2.1 qs.2.2 ∧ w'.heap[z]? = some (.cells (reqCells 0 none 0 0 none 0 0 0 none 0 0 Flt.zero) 31 (0, 0)) ∧ Fr (fun _ => False) w w')
  case first =>
    have HzW := Lib.hid (show z = w.heap.size from HZs.out.symm)
    have HgQ := Lib.hid (show z < g ∧ g < Q from ⟨by have := Hg.out; omega, hgl⟩)
    by_cases h1 : op = 1
    · have HV := Lib.hid (show qs = (⟨op, (manyR Acc.left Acc.took s1).1, [], 0, [], Flt.zero⟩, (manyR Acc.left Acc.took s1).2) from by rw [HRq.out, rdBody, if_pos h1])
      have HM := Lib.hid (many_Acc W g s1 Hrq.out HB1.out)
      obtain ⟨R, hR⟩ : ∃ R, manyR Acc.left Acc.took s1 = R := ⟨_, rfl⟩
      rw [hR] at HV HM
      clear hR
      subst h1
      go_wp2_with (go_at_call 38; go_must (with_reducible refine HM.out.mono ?_); rintro e w3 ⟨v, rfl, ov, hvn, r3, f3⟩; obtain ⟨a, c, rfl, hrow⟩ := own_row2 ov; have HB3 := Lib.hid (f3.blk HBq.out (fun h => by have h : Q = g := h; have := HgQ.out; omega)); have HZ3 := Lib.hid (f3.blk HZq.out (fun h => by have h : z = g := h; have := HgQ.out; omega)); have R3 := Lib.hid r3; have F3 := Lib.hid f3; have Hrow := Lib.hid hrow; have Hvn := Lib.hid hvn; have qf3 := blk_free HB3.out 1; have q13 := blk_cell HB3.out 1 rfl; clear ov hvn r3 f3 hrow)
      go_meet
      have hWQ := blk_lt HBq.out
      have hfar : ∀ b, a = some b → z < b.block := fun b e => by subst e; have h2 := Hvn.out b.block rfl; have := HgQ.out; omega
      have hrw : Row (w3.setCell ⟨Q, 1, none⟩ (.slice a R.1.length c)) a (R.1.flatMap Acc.cells) := Hrow.out.fr ((Fr.refl (fun k => k = Q) w3).setCell (p := ⟨Q, 1, none⟩) (.inl rfl) _) (fun b e h => by subst e; have h2 := Hvn.out b.block rfl; have h : b.block = Q := h; omega)
      refine ⟨?_, ?_, blk_far2 HZ3.out (by have := HgQ.out; omega) _, ((Fq.out.then_ F3.out (fun k hk => .inr (by have hk : k = g := hk; have := HgQ.out; have := HzW.out; omega))).setNew (by have := HgQ.out; have := HzW.out; omega) _)⟩
      · rw [HV.out]
        refine ⟨a, c, none, 0, none, 0, ?_, hrw, row_nil, row_nil, hfar, (fun _ h => nomatch h), (fun _ h => nomatch h)⟩
        have h := blk_set HB3.out 1 (.slice a R.1.length c)
        simpa [reqCells] using h
      · rw [HV.out]
        exact blk_far2 R3.out (by have := HgQ.out; omega) _
    by_cases h2 : op = 2
    · have HV := Lib.hid (show qs = (⟨op, [], (manyR Tx.left Tx.took s1).1, 0, [], Flt.zero⟩, (manyR Tx.left Tx.took s1).2) from by rw [HRq.out, rdBody, if_neg h1, if_pos h2])
      have HM := Lib.hid (many_Tx W g s1 Hrq.out HB1.out)
      obtain ⟨R, hR⟩ : ∃ R, manyR Tx.left Tx.took s1 = R := ⟨_, rfl⟩
      rw [hR] at HV HM
      clear hR
      subst h2
      go_wp2_with (go_at_call 40; go_must (with_reducible refine HM.out.mono ?_); rintro e w3 ⟨v, rfl, ov, hvn, r3, f3⟩; obtain ⟨a, c, rfl, hrow⟩ := own_row2 ov; have HB3 := Lib.hid (f3.blk HBq.out (fun h => by have h : Q = g := h; have := HgQ.out; omega)); have HZ3 := Lib.hid (f3.blk HZq.out (fun h => by have h : z = g := h; have := HgQ.out; omega)); have R3 := Lib.hid r3; have F3 := Lib.hid f3; have Hrow := Lib.hid hrow; have Hvn := Lib.hid hvn; have qf3 := blk_free HB3.out 2; have q13 := blk_cell HB3.out 2 rfl; clear ov hvn r3 f3 hrow)
      go_meet
      have hWQ := blk_lt HBq.out
      have hfar : ∀ b, a = some b → z < b.block := fun b e => by subst e; have h2 := Hvn.out b.block rfl; have := HgQ.out; omega
      have hrw : Row (w3.setCell ⟨Q, 2, none⟩ (.slice a R.1.length c)) a (R.1.flatMap Tx.cells) := Hrow.out.fr ((Fr.refl (fun k => k = Q) w3).setCell (p := ⟨Q, 2, none⟩) (.inl rfl) _) (fun b e h => by subst e; have h2 := Hvn.out b.block rfl; have h : b.block = Q := h; omega)
      refine ⟨?_, ?_, blk_far2 HZ3.out (by have := HgQ.out; omega) _, ((Fq.out.then_ F3.out (fun k hk => .inr (by have hk : k = g := hk; have := HgQ.out; have := HzW.out; omega))).setNew (by have := HgQ.out; have := HzW.out; omega) _)⟩
      · rw [HV.out]
        refine ⟨none, 0, a, c, none, 0, ?_, row_nil, hrw, row_nil, (fun _ h => nomatch h), hfar, (fun _ h => nomatch h)⟩
        have h := blk_set HB3.out 2 (.slice a R.1.length c)
        simpa [reqCells] using h
      · rw [HV.out]
        exact blk_far2 R3.out (by have := HgQ.out; omega) _
    by_cases h3 : op = 3
    · have HV := Lib.hid (show qs = (⟨op, [], [], wrap64 (le (rdV s1 8)), [], Flt.zero⟩, rdS s1 8) from by rw [HRq.out, rdBody, if_neg h1, if_neg h2, if_pos h3])
      have HM := Lib.hid (rInt_tot W g s1 8 Hrq.out HB1.out (by omega))
      obtain ⟨now, hnow⟩ : ∃ now, wrap64 (le (rdV s1 8)) = now := ⟨_, rfl⟩
      rw [hnow] at HV HM
      clear hnow
      subst h3
      go_wp2_with (go_at_call 37; go_must (refine HM.out.mono ?_); rintro e w3 ⟨rfl, r3, f3⟩; have HB3 := Lib.hid (f3.blk HBq.out (fun h => by have h : Q = g := h; have := HgQ.out; omega)); have HZ3 := Lib.hid (f3.blk HZq.out (fun h => by have h : z = g := h; have := HgQ.out; omega)); have R3 := Lib.hid r3; have F3 := Lib.hid f3; have qf3 := blk_free HB3.out 3; have q13 := blk_cell HB3.out 3 rfl; clear r3 f3)
      go_meet
      refine ⟨?_, ?_, blk_far2 HZ3.out (by have := HgQ.out; omega) _, ((Fq.out.then_ F3.out (fun k hk => .inr (by have hk : k = g := hk; have := HgQ.out; have := HzW.out; omega))).setNew (by have := HgQ.out; have := HzW.out; omega) _)⟩
      · rw [HV.out]
        refine ⟨none, 0, none, 0, none, 0, ?_, row_nil, row_nil, row_nil, (fun _ h => nomatch h), (fun _ h => nomatch h), (fun _ h => nomatch h)⟩
        have h := blk_set HB3.out 3 (.int .i64 now)
        simpa [reqCells] using h
      · rw [HV.out]
        exact blk_far2 R3.out (by have := HgQ.out; omega) _
    by_cases h6 : op = 6
    · have HV := Lib.hid (show qs = (⟨op, [], [], 0, [], (rdFlt s1).1⟩, (rdFlt s1).2) from by rw [HRq.out, rdBody, if_neg h1, if_neg h2, if_neg h3, if_pos h6])
      have HX := Lib.hid (show rdFlt s1 = (⟨Nm.took s1, wrap64 (le (rdV (rdS s1 16) 8)), wrap64 (le (rdV (rdS (rdS s1 16) 8) 8)), flV (rdS (rdS (rdS s1 16) 8) 8), flV (flS (rdS (rdS (rdS s1 16) 8) 8)), flV (flS (flS (rdS (rdS (rdS s1 16) 8) 8))), wrap64 (le (rdV (flS (flS (flS (rdS (rdS (rdS s1 16) 8) 8)))) 1))⟩, rdS (flS (flS (flS (rdS (rdS (rdS s1 16) 8) 8)))) 1) from rfl)
      obtain ⟨t1, e1⟩ : ∃ x, rdS s1 16 = x := ⟨_, rfl⟩
      obtain ⟨t2, e2⟩ : ∃ x, rdS t1 8 = x := ⟨_, rfl⟩
      obtain ⟨t3, e3⟩ : ∃ x, rdS t2 8 = x := ⟨_, rfl⟩
      obtain ⟨t4, e4⟩ : ∃ x, flS t3 = x := ⟨_, rfl⟩
      obtain ⟨t5, e5⟩ : ∃ x, flS t4 = x := ⟨_, rfl⟩
      obtain ⟨t6, e6⟩ : ∃ x, flS t5 = x := ⟨_, rfl⟩
      obtain ⟨t7, e7⟩ : ∃ x, rdS t6 1 = x := ⟨_, rfl⟩
      have b1 := Lib.hid (show Bytes t1.1 from e1 ▸ rdS_bytes 16 HB1.out)
      have b2 := Lib.hid (show Bytes t2.1 from e2 ▸ rdS_bytes 8 b1.out)
      have b3 := Lib.hid (show Bytes t3.1 from e3 ▸ rdS_bytes 8 b2.out)
      have b4 := Lib.hid (show Bytes t4.1 from e4 ▸ flS_bytes b3.out)
      have b5 := Lib.hid (show Bytes t5.1 from e5 ▸ flS_bytes b4.out)
      have b6 := Lib.hid (show Bytes t6.1 from e6 ▸ flS_bytes b5.out)
      rw [e1, e2, e3, e4, e5, e6, e7] at HX
      have N1 := Lib.hid (fun V h => getNum V g s1 h HB1.out)
      have N2 := Lib.hid (fun V h => rInt_tot V g t1 8 h b1.out (by omega))
      have N3 := Lib.hid (fun V h => rInt_tot V g t2 8 h b2.out (by omega))
      have N4 := Lib.hid (fun V h => rFlag_tot V g t3 h b3.out)
      have N5 := Lib.hid (fun V h => rFlag_tot V g t4 h b4.out)
      have N6 := Lib.hid (fun V h => rFlag_tot V g t5 h b5.out)
      have N7 := Lib.hid (fun V h => rInt_tot V g t6 1 h b6.out (by omega))
      rw [show Nm.left s1 = t1 from e1] at N1
      rw [e2] at N2
      rw [e3] at N3
      rw [e4] at N4
      rw [e5] at N5
      rw [e6] at N6
      rw [e7] at N7
      obtain ⟨x0, y0⟩ : ∃ x, Nm.took s1 = x := ⟨_, rfl⟩
      obtain ⟨x1, y1⟩ : ∃ x, wrap64 (le (rdV t1 8)) = x := ⟨_, rfl⟩
      obtain ⟨x2, y2⟩ : ∃ x, wrap64 (le (rdV t2 8)) = x := ⟨_, rfl⟩
      obtain ⟨x3, y3⟩ : ∃ x, flV t3 = x := ⟨_, rfl⟩
      obtain ⟨x4, y4⟩ : ∃ x, flV t4 = x := ⟨_, rfl⟩
      obtain ⟨x5, y5⟩ : ∃ x, flV t5 = x := ⟨_, rfl⟩
      obtain ⟨x6, y6⟩ : ∃ x, wrap64 (le (rdV t6 1)) = x := ⟨_, rfl⟩
      rw [y0] at N1
      rw [y1] at N2
      rw [y2] at N3
      rw [y3] at N4
      rw [y4] at N5
      rw [y5] at N6
      rw [y6] at N7
      rw [y0, y1, y2, y3, y4, y5, y6] at HX
      rw [HX.out] at HV
      rw [show x0.val = .agg #[.int .u64 x0.hi, .int .u64 x0.lo] from rfl] at N1
      clear e1 e2 e3 e4 e5 e6 e7 y0 y1 y2 y3 y4 y5 y6
      subst h6
      go_wp2_with fail
      refine (N1.out _ Hrq.out).mono ?_
      rintro e v1 ⟨rfl, r1, g1⟩
      have R1 := Lib.hid r1
      have G1 := Lib.hid g1
      clear r1 g1
      go_wp2_with fail
      refine (N2.out _ R1.out).mono ?_
      rintro e v2 ⟨rfl, r2, g2⟩
      have R2 := Lib.hid r2
      have G2 := Lib.hid (G1.out.then_ g2 (fun _ h => .inl h))
      clear r2 g2
      go_wp2_with fail
      refine (N3.out _ R2.out).mono ?_
      rintro e v3 ⟨rfl, r3, g3⟩
      have R3 := Lib.hid r3
      have G3 := Lib.hid (G2.out.then_ g3 (fun _ h => .inl h))
      clear r3 g3
      go_wp2_with fail
      refine (N4.out _ R3.out).mono ?_
      rintro e v4 ⟨rfl, r4, g4⟩
      have R4 := Lib.hid r4
      have G4 := Lib.hid (G3.out.then_ g4 (fun _ h => .inl h))
      clear r4 g4
      go_wp2_with fail
      refine (N5.out _ R4.out).mono ?_
      rintro e v5 ⟨rfl, r5, g5⟩
      have R5 := Lib.hid r5
      have G5 := Lib.hid (G4.out.then_ g5 (fun _ h => .inl h))
      clear r5 g5
      go_wp2_with fail
      refine (N6.out _ R5.out).mono ?_
      rintro e v6 ⟨rfl, r6, g6⟩
      have R6 := Lib.hid r6
      have G6 := Lib.hid (G5.out.then_ g6 (fun _ h => .inl h))
      clear r6 g6
      go_wp2_with fail
      refine (N7.out _ R6.out).mono ?_
      rintro e v7 ⟨rfl, r7, g7⟩
      have R7 := Lib.hid r7
      have G7 := Lib.hid (G6.out.then_ g7 (fun _ h => .inl h))
      clear r7 g7
      have HB3 := Lib.hid (G7.out.blk HBq.out (fun h => by have h : Q = g := h; have := HgQ.out; omega))
      have HZ3 := Lib.hid (G7.out.blk HZq.out (fun h => by have h : z = g := h; have := HgQ.out; omega))
      go_wp2_with ((refine wpList_store_part rfl 29 (.tmp 48) (.tmp 47) rfl Q 5 #[.int .u64 x0.hi, .int .u64 x0.lo, .int .i64 x1, .int .i64 x2, .bool x3, .bool x4, .bool x5, .int .i64 x6] rfl rfl HB3.out (by simp [reqCells]) rfl (by simp [Value.oneCell']) ?_); intro v8 hb8 f8; have HB8 := Lib.hid hb8; have F8 := Lib.hid f8; clear hb8 f8)
      go_meet
      refine ⟨?_, ?_, F8.out.blk HZ3.out (fun h => by have h : z = Q := h; have := HgQ.out; omega), (Fq.out.then_ G7.out (fun k hk => .inr (by have hk : k = g := hk; have := HgQ.out; have := HzW.out; omega))).then_ F8.out (fun k hk => .inr (by have hk : k = Q := hk; have := HgQ.out; have := HzW.out; omega))⟩
      · rw [HV.out]
        exact ⟨none, 0, none, 0, none, 0, HB8.out, row_nil, row_nil, row_nil, (fun _ h => nomatch h), (fun _ h => nomatch h), (fun _ h => nomatch h)⟩
      · rw [HV.out]
        exact F8.out.blk R7.out (fun h => by have h : g = Q := h; have := HgQ.out; omega)
    · have HV := Lib.hid (show qs = (⟨op, [], [], 0, (manyR Nm.left Nm.took s1).1, Flt.zero⟩, (manyR Nm.left Nm.took s1).2) from by rw [HRq.out, rdBody, if_neg h1, if_neg h2, if_neg h3, if_neg h6])
      have HM := Lib.hid (many_Nm W g s1 Hrq.out HB1.out)
      obtain ⟨R, hR⟩ : ∃ R, manyR Nm.left Nm.took s1 = R := ⟨_, rfl⟩
      rw [hR] at HV HM
      clear hR
      have k1 : (op == 1) = false := by simpa using h1
      have k2 : (op == 2) = false := by simpa using h2
      have k3 : (op == 3) = false := by simpa using h3
      have k6 : (op == 6) = false := by simpa using h6
      go_wp2_with (go_at_call 44; go_must (with_reducible refine HM.out.mono ?_); rintro e w3 ⟨v, rfl, ov, hvn, r3, f3⟩; obtain ⟨a, c, rfl, hrow⟩ := own_row2 ov; have HB3 := Lib.hid (f3.blk HBq.out (fun h => by have h : Q = g := h; have := HgQ.out; omega)); have HZ3 := Lib.hid (f3.blk HZq.out (fun h => by have h : z = g := h; have := HgQ.out; omega)); have R3 := Lib.hid r3; have F3 := Lib.hid f3; have Hrow := Lib.hid hrow; have Hvn := Lib.hid hvn; have qf3 := blk_free HB3.out 4; have q13 := blk_cell HB3.out 4 rfl; clear ov hvn r3 f3 hrow)
      go_meet
      have hWQ := blk_lt HBq.out
      have hfar : ∀ b, a = some b → z < b.block := fun b e => by subst e; have h2 := Hvn.out b.block rfl; have := HgQ.out; omega
      have hrw : Row (w3.setCell ⟨Q, 4, none⟩ (.slice a R.1.length c)) a (R.1.flatMap Nm.cells) := Hrow.out.fr ((Fr.refl (fun k => k = Q) w3).setCell (p := ⟨Q, 4, none⟩) (.inl rfl) _) (fun b e h => by subst e; have h2 := Hvn.out b.block rfl; have h : b.block = Q := h; omega)
      refine ⟨?_, ?_, blk_far2 HZ3.out (by have := HgQ.out; omega) _, ((Fq.out.then_ F3.out (fun k hk => .inr (by have hk : k = g := hk; have := HgQ.out; have := HzW.out; omega))).setNew (by have := HgQ.out; have := HzW.out; omega) _)⟩
      · rw [HV.out]
        refine ⟨none, 0, none, 0, a, c, ?_, row_nil, row_nil, hrw, (fun _ h => nomatch h), (fun _ h => nomatch h), hfar⟩
        have h := blk_set HB3.out 4 (.slice a R.1.length c)
        simpa [reqCells] using h
      · rw [HV.out]
        exact blk_far2 R3.out (by have := HgQ.out; omega) _
  case rest =>
  obtain ⟨hq, hr, hz, hf⟩ := hcut
  obtain ⟨⟨qop, la, lt, now, ids, f⟩, l2, t2⟩ := qs
  obtain ⟨a1, c1, a2, c2, a3, c3, hb, r1, r2, r3, z1, z2, z3⟩ := hq
  have Z1 := Lib.hid z1
  have Z2 := Lib.hid z2
  have Z3 := Lib.hid z3
  clear z1 z2 z3
  obtain ⟨n1, hn1⟩ : ∃ n, la.length = n := ⟨_, rfl⟩
  obtain ⟨n2, hn2⟩ : ∃ n, lt.length = n := ⟨_, rfl⟩
  obtain ⟨n3, hn3⟩ : ∃ n, ids.length = n := ⟨_, rfl⟩
  have hb2 : wc.heap[Q]? = some (.cells #[.int .i64 qop, .slice a1 n1 c1, .slice a2 n2 c2, .int .i64 now, .slice a3 n3 c3, .int .u64 f.acct.hi, .int .u64 f.acct.lo, .int .i64 f.from_, .int .i64 f.upto, .bool f.deb, .bool f.cre, .bool f.lat, .int .i64 f.lim] 31 (0, 0)) := by rw [← hn1, ← hn2, ← hn3]; exact hb
  have HQ := Lib.hid hb2
  have HZ := Lib.hid hz
  have FC := Lib.hid hf
  have HE := Lib.hid (rEnd_any wc g l2 t2 hr)
  have HG := Lib.hid (wgood_any wc qop a1 n1 c1 a2 n2 c2 now a3 n3 c3 f la lt hn1 hn2 r1 r2)
  have R1 := Lib.hid r1
  have R2 := Lib.hid r2
  have R3 := Lib.hid r3
  have hok := HOk.out
  have hok2 : ok = ((!t2 && l2.isEmpty) && wgood qop la lt now n3 f) := by rw [hok, ← hn3]; rfl
  obtain ⟨eb, heb⟩ : ∃ eb, (!t2 && l2.isEmpty) = eb := ⟨_, rfl⟩
  obtain ⟨gd, hgd⟩ : ∃ gd, wgood qop la lt now n3 f = gd := ⟨_, rfl⟩
  rw [heb] at HE hok2
  rw [hgd] at HG hok2
  have HN1 := Lib.hid hn1
  have HN2 := Lib.hid hn2
  have HN3 := Lib.hid hn3
  have HK := Lib.hid hok2
  have HzW := Lib.hid (show z = w.heap.size from HZs.out.symm)
  clear hb hb2 hz hf hr r1 r2 r3 hok heb hgd hn1 hn2 hn3 hok2
  cases eb
  · have HV := Lib.hid (show ok = false from HK.out)
    go_wp2_with (first | (go_at_call 45; go_must (with_reducible refine HE.out.mono ?_); rintro e w2 ⟨rfl, rfl⟩) | ((refine wpList_store_row rfl 31 (.tmp 2) (.tmp 57) rfl z #[.int .i64 0, .slice none 0 0, .slice none 0 0, .int .i64 0, .slice none 0 0, .int .u64 0, .int .u64 0, .int .i64 0, .int .i64 0, .bool false, .bool false, .bool false, .int .i64 0] rfl rfl HZ.out rfl rfl (by simp [Value.oneCell']) ?_); intro w9 hb9 f9; have HB9 := Lib.hid hb9; have F9 := Lib.hid f9; clear hb9 f9))
    (try simp only [Exit.inBlock, Exit.then])
    refine bodyPost_ret (results_cell2 (q := 3) rfl _ _ z 31 _ (0, 0) _ rfl HB9.out Try.underlying31 rfl rfl) rfl ?_
    rw [← HEr.out, ← HRr.out, HV.out]
    exact ⟨_, rfl, ⟨none, 0, none, 0, none, 0, rfl, row_nil, row_nil, row_nil⟩, FC.out.then_ F9.out (fun k hk => .inr (by have hk : k = z := hk; have := HzW.out; omega))⟩
  · cases gd
    · have HV := Lib.hid (show ok = false from HK.out)
      go_wp2_with (first | (go_at_call 45; go_must (with_reducible refine HE.out.mono ?_); rintro e w2 ⟨rfl, rfl⟩) | ((with_reducible refine wpList_load_row_w ?lw 31 _ rfl Q rfl 31 _ _ _ (by first | (with_reducible exact HQ.out) | exact HQg.out) Try.underlying31 rfl rfl ?_); (case lw => rfl)) | (go_at_call 13; go_must (with_reducible refine HG.out.mono ?_); rintro e wg ⟨rfl, fg⟩; have HQg := Lib.hid (fg.blk HQ.out (fun h => h)); have HZg := Lib.hid (fg.blk HZ.out (fun h => h)); have FG := Lib.hid (FC.out.then_ fg (fun _ h => h.elim)); have Fg := Lib.hid fg; clear fg) | ((refine wpList_store_row rfl 31 (.tmp 2) (.tmp 57) rfl z #[.int .i64 0, .slice none 0 0, .slice none 0 0, .int .i64 0, .slice none 0 0, .int .u64 0, .int .u64 0, .int .i64 0, .int .i64 0, .bool false, .bool false, .bool false, .int .i64 0] rfl rfl HZg.out rfl rfl (by simp [Value.oneCell']) ?_); intro w9 hb9 f9; have HB9 := Lib.hid hb9; have F9 := Lib.hid f9; clear hb9 f9))
      (try simp only [Exit.inBlock, Exit.then])
      refine bodyPost_ret (results_cell2 (q := 3) rfl _ _ z 31 _ (0, 0) _ rfl HB9.out Try.underlying31 rfl rfl) rfl ?_
      rw [← HEr.out, ← HRr.out, HV.out]
      exact ⟨_, rfl, ⟨none, 0, none, 0, none, 0, rfl, row_nil, row_nil, row_nil⟩, FG.out.then_ F9.out (fun k hk => .inr (by have hk : k = z := hk; have := HzW.out; omega))⟩
    · have HV := Lib.hid (show ok = true from HK.out)
      go_wp2_with (first | (go_at_call 45; go_must (with_reducible refine HE.out.mono ?_); rintro e w2 ⟨rfl, rfl⟩) | ((with_reducible refine wpList_load_row_w ?lw 31 _ rfl Q rfl 31 _ _ _ (by first | (with_reducible exact HQ.out) | exact HQg.out) Try.underlying31 rfl rfl ?_); (case lw => rfl)) | (go_at_call 13; go_must (with_reducible refine HG.out.mono ?_); rintro e wg ⟨rfl, fg⟩; have HQg := Lib.hid (fg.blk HQ.out (fun h => h)); have HZg := Lib.hid (fg.blk HZ.out (fun h => h)); have FG := Lib.hid (FC.out.then_ fg (fun _ h => h.elim)); have Fg := Lib.hid fg; clear fg) | ((refine wpList_store_row rfl 31 (.tmp 2) (.tmp 58) rfl z #[.int .i64 qop, .slice a1 n1 c1, .slice a2 n2 c2, .int .i64 now, .slice a3 n3 c3, .int .u64 f.acct.hi, .int .u64 f.acct.lo, .int .i64 f.from_, .int .i64 f.upto, .bool f.deb, .bool f.cre, .bool f.lat, .int .i64 f.lim] rfl rfl HZg.out rfl rfl (by simp [Value.oneCell']) ?_); intro w9 hb9 f9; have HB9 := Lib.hid hb9; have F9 := Lib.hid f9; clear hb9 f9))
      (try simp only [Exit.inBlock, Exit.then])
      refine bodyPost_ret (results_cell2 (q := 3) rfl _ _ z 31 _ (0, 0) _ rfl HB9.out Try.underlying31 rfl rfl) rfl ?_
      rw [← HEr.out, ← HRr.out, HV.out]
      exact ⟨_, rfl, ⟨a1, c1, a2, c2, a3, c3, by rw [← HN1.out, ← HN2.out, ← HN3.out]; rfl, (R1.out.fr Fg.out (fun _ _ h => h)).fr F9.out (fun b e h => by have := Z1.out b e; have h : b.block = z := h; omega), (R2.out.fr Fg.out (fun _ _ h => h)).fr F9.out (fun b e h => by have := Z2.out b e; have h : b.block = z := h; omega), (R3.out.fr Fg.out (fun _ _ h => h)).fr F9.out (fun b e h => by have := Z3.out b e; have h : b.block = z := h; omega)⟩, FG.out.then_ F9.out (fun k hk => .inr (by have hk : k = z := hk; have := HzW.out; omega))⟩
end Go.Proofs.Ytfmcimngogibkaa
