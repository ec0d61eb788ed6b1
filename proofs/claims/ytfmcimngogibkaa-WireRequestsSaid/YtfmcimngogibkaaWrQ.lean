/- Law 22: the walk of WireRequests. -/
import Derived.Test.YtfmcimngogibkaaWrP
import Derived.Test.YtfmcimngogibkaaWrN
namespace Go.Proofs.Ytfmcimngogibkaa
open Go.RowKit

theorem norm_ok {q : Req} (h : q.ok) : q.norm.ok ∧ q.norm.accs.length ≤ q.accs.length ∧ q.norm.txs.length ≤ q.txs.length ∧ q.norm.ids.length ≤ q.ids.length := by
  unfold Req.norm
  split
  · exact ⟨⟨h.accs, fun _ h => (nomatch h), fun _ h => (nomatch h), zero_ok⟩, Nat.le_refl _, by simp, by simp⟩
  split
  · exact ⟨⟨fun _ h => (nomatch h), h.txs, fun _ h => (nomatch h), zero_ok⟩, by simp, Nat.le_refl _, by simp⟩
  split
  · exact ⟨⟨fun _ h => (nomatch h), fun _ h => (nomatch h), fun _ h => (nomatch h), zero_ok⟩, by simp, by simp, by simp⟩
  split
  · exact ⟨⟨fun _ h => (nomatch h), fun _ h => (nomatch h), fun _ h => (nomatch h), h.flt⟩, by simp, by simp, by simp⟩
  · exact ⟨⟨fun _ h => (nomatch h), fun _ h => (nomatch h), h.ids, zero_ok⟩, by simp, by simp, Nat.le_refl _⟩
set_option maxRecDepth 4000 in
theorem great_any (w : World) (op : Int) (a1 : Option Addr) (n1 c1 : Nat) (a2 : Option Addr) (n2 c2 : Nat) (now : Int) (a3 : Option Addr) (n3 c3 : Nat) (f : Flt) (h1 : n1 ≤ 140737488355328) (h2 : n2 ≤ 140737488355328) (h3 : n3 ≤ 140737488355328) :
    Calls Try.prog 10 #[.agg (reqCells op a1 n1 c1 a2 n2 c2 now a3 n3 c3 f)] w fun e w' => e = .returned (.bool (decide (100 < n1 + n2 + n3))) ∧ Fr (fun _ => False) w w' := by
  have e1 : IntKind.i64.wrap ((n1 : Int) + n2) = n1 + n2 := IntWalk.i64_in _ (by omega)
  have e2 : IntKind.i64.wrap ((n1 : Int) + n2 + n3) = n1 + n2 + n3 := IntWalk.i64_in _ (by omega)
  go_enter Try.func10, Try.ntmps10
  go_wp2_with fail
  go_ret
  refine ⟨?_, by repeat (first | (with_reducible exact Fr.refl _ _) | (with_reducible refine Fr.drew ?_) | (with_reducible refine Fr.drewN ?_ _) | (with_reducible refine Fr.alloc ?_ _) | (with_reducible refine Fr.set1 ?_ _) | (with_reducible refine Fr.setNew ?_ (by omega) _))⟩
  exact congrArg (fun b => Ending.returned (Value.bool b)) (decide_eq_decide.2 (by omega))
set_option maxRecDepth 4000 in
set_option maxHeartbeats 3200000 in
theorem wreq_any (w : World) (v : Value) (q : Req) (h : ReqIs w v q) (hf : q.fits) (hl1 : q.accs.length ≤ 140737488355328) (hl2 : q.txs.length ≤ 140737488355328) (hl3 : q.ids.length ≤ 140737488355328) :
    Calls Try.prog 3 #[v] w fun e w' => e = .returned (.bool true) ∧ Fr (fun _ => False) w w' := by
  have HFt := Lib.hid hf
  obtain ⟨hno, hna, hnt, hni⟩ := norm_ok hf.ok
  have HNo := Lib.hid hno
  have HNb := Lib.hid (norm_bytes (q := q))
  have HNop := Lib.hid (norm_op q)
  have HBo := Lib.hid (req_bytes_ok q)
  have HAg := Lib.hid (fun h => again_ok (q := q) h hf)
  obtain ⟨p, hp⟩ : ∃ p, q.norm = p := ⟨_, rfl⟩
  rw [hp] at HNo HNb HNop hna hnt hni HAg
  obtain ⟨a1, c1, a2, c2, a3, c3, rfl, r1, r2, r3⟩ := h
  have HQb := Lib.hid (show q.bytes = reqBytes q.op q.accs q.txs q.now q.ids q.flt from rfl)
  have HQg := Lib.hid (show q.good = wgood q.op q.accs q.txs q.now q.ids.length q.flt from rfl)
  obtain ⟨bs, hbs⟩ : ∃ bs, q.bytes = bs := ⟨_, rfl⟩
  obtain ⟨gd, hgd⟩ : ∃ gd, q.good = gd := ⟨_, rfl⟩
  rw [hbs] at HQb HNb HBo HAg
  rw [hgd] at HQg HAg
  clear hbs hgd hp hf hno
  obtain ⟨op, la, lt, now, li, f⟩ := q
  obtain ⟨n1, hn1⟩ : ∃ n, la.length = n := ⟨_, rfl⟩
  obtain ⟨n2, hn2⟩ : ∃ n, lt.length = n := ⟨_, rfl⟩
  obtain ⟨n3, hn3⟩ : ∃ n, li.length = n := ⟨_, rfl⟩
  have R1 := Lib.hid r1
  have R2 := Lib.hid r2
  have R3 := Lib.hid r3
  have HN1 := Lib.hid hn1
  have HN2 := Lib.hid hn2
  have HN3 := Lib.hid hn3
  simp only [hn1, hn2, hn3] at hl1 hl2 hl3 hna hnt hni ⊢
  have HQb := Lib.hid (show reqBytes op la lt now li f = bs from HQb.out.symm)
  have HQg := Lib.hid (show wgood op la lt now n3 f = gd from (hn3 ▸ HQg.out).symm)
  have HNop := Lib.hid (show p.op = op from HNop.out)
  have Hq := Lib.hid (heap_alloc_new w (.cells (reqCells op a1 n1 c1 a2 n2 c2 now a3 n3 c3 f) 31))
  have FF := Lib.hid ((Fr.refl (fun _ => False) w).alloc (.cells (reqCells op a1 n1 c1 a2 n2 c2 now a3 n3 c3 f) 31))
  have HGr := Lib.hid (fun W => great_any W op a1 n1 c1 a2 n2 c2 now a3 n3 c3 f hl1 hl2 hl3)
  have HRg := Lib.hid (fun W (hf : Fr (fun _ => False) w W) => rgood_any W op a1 n1 c1 a2 n2 c2 now a3 n3 c3 f la lt hn1 hn2 hl1 hl2 (r1.fr hf (fun _ _ h => h)) (r2.fr hf (fun _ _ h => h)))
  have HWg := Lib.hid (fun W (hf : Fr (fun _ => False) w W) => wgood_any W op a1 n1 c1 a2 n2 c2 now a3 n3 c3 f la lt hn1 hn2 (r1.fr hf (fun _ _ h => h)) (r2.fr hf (fun _ _ h => h)))
  have HWb := Lib.hid (fun W (hf : Fr (fun _ => False) w W) => wbytes_any W op a1 n1 c1 a2 n2 c2 now a3 n3 c3 f la lt li hn1 hn2 hn3 (r1.fr hf (fun _ _ h => h)) (r2.fr hf (fun _ _ h => h)) (r3.fr hf (fun _ _ h => h)))
  rw [HQg.out] at HRg HWg
  rw [HQg.out, HQb.out] at HWb
  have HA := Lib.hid (fun W => alive22_any W)
  clear r1 r2 r3 hn1 hn2 hn3
  go_enter Try.func3, Try.ntmps3
  by_cases hbig : 100 < n1 + n2 + n3
  · rw [decide_eq_true hbig] at HGr
    go_wp2_with (first | ((with_reducible refine wpList_load_row_w ?lw 31 _ rfl w.heap.size rfl 31 _ _ _ Hq.out Try.underlying31 rfl rfl ?_); (case lw => rfl)) | (go_at_call 9; go_must (with_reducible refine (HA.out _).mono ?_); rintro e w2 ⟨rfl, f2⟩; have FF := Lib.hid (FF.out.then_ f2 (fun _ h => h.elim)); have Hq := Lib.hid (f2.blk Hq.out (fun h => h)); clear f2) | (go_at_call 10; go_must (with_reducible refine (HGr.out _).mono ?_); rintro e w2 ⟨rfl, f2⟩; have FF := Lib.hid (FF.out.then_ f2 (fun _ h => h.elim)); have Hq := Lib.hid (f2.blk Hq.out (fun h => h)); clear f2))
    go_ret
    exact ⟨rfl, FF.out⟩
  rw [decide_eq_false hbig] at HGr
  cases gd with
  | false =>
    rw [if_neg (by decide), if_neg (by decide)] at HWb
    have hem : (strOfNums []).toList.isEmpty = true := strOf_toList []
    go_wp2_with (first | ((with_reducible refine wpList_load_row_w ?lw 31 _ rfl w.heap.size rfl 31 _ _ _ Hq.out Try.underlying31 rfl rfl ?_); (case lw => rfl)) | (go_at_call 9; go_must (with_reducible refine (HA.out _).mono ?_); rintro e w2 ⟨rfl, f2⟩; have FF := Lib.hid (FF.out.then_ f2 (fun _ h => h.elim)); have Hq := Lib.hid (f2.blk Hq.out (fun h => h)); clear f2) | (go_at_call 10; go_must (with_reducible refine (HGr.out _).mono ?_); rintro e w2 ⟨rfl, f2⟩; have FF := Lib.hid (FF.out.then_ f2 (fun _ h => h.elim)); have Hq := Lib.hid (f2.blk Hq.out (fun h => h)); clear f2) | (go_at_call 11; go_must (with_reducible refine (HRg.out _ FF.out).mono ?_); rintro e w2 ⟨rfl, f2⟩; have FF := Lib.hid (FF.out.then_ f2 (fun _ h => h.elim)); have Hq := Lib.hid (f2.blk Hq.out (fun h => h)); clear f2) | (go_at_call 12; go_must (with_reducible refine (HWb.out _ FF.out).mono ?_); rintro e w2 ⟨rfl, f2⟩; have FF := Lib.hid (FF.out.then_ f2 (fun _ h => h.elim)); have Hq := Lib.hid (f2.blk Hq.out (fun h => h)); clear f2) | (go_at_call 13; go_must (with_reducible refine (HWg.out _ FF.out).mono ?_); rintro e w2 ⟨rfl, f2⟩; have FF := Lib.hid (FF.out.then_ f2 (fun _ h => h.elim)); have Hq := Lib.hid (f2.blk Hq.out (fun h => h)); clear f2))
    go_ret
    exact ⟨rfl, FF.out⟩
  | true =>
    rw [if_pos rfl, if_pos rfl] at HWb
    obtain ⟨g1, g2⟩ := HAg.out rfl
    have HRd := Lib.hid (fun W => read_any W bs HBo.out)
    rw [g1, if_pos rfl, if_pos rfl, g2] at HRd
    have HRb := Lib.hid (fun W (hf : Fr (fun _ => False) w W) => rbytes_any W op a1 n1 c1 a2 n2 c2 now a3 n3 c3 f la lt li HN1.out HN2.out HN3.out (by omega) (by omega) (by omega) (R1.out.fr hf (fun _ _ h => h)) (R2.out.fr hf (fun _ _ h => h)) (R3.out.fr hf (fun _ _ h => h)) HFt.out.ok.accs HFt.out.ok.txs HFt.out.ok.ids HFt.out.ok.flt)
    rw [HQb.out] at HRb
    clear g1 g2
    go_wp2_with (first | ((with_reducible refine wpList_load_row_w ?lw 31 _ rfl w.heap.size rfl 31 _ _ _ Hq.out Try.underlying31 rfl rfl ?_); (case lw => rfl)) | (go_at_call 9; go_must (with_reducible refine (HA.out _).mono ?_); rintro e w2 ⟨rfl, f2⟩; have FF := Lib.hid (FF.out.then_ f2 (fun _ h => h.elim)); have Hq := Lib.hid (f2.blk Hq.out (fun h => h)); clear f2) | (go_at_call 10; go_must (with_reducible refine (HGr.out _).mono ?_); rintro e w2 ⟨rfl, f2⟩; have FF := Lib.hid (FF.out.then_ f2 (fun _ h => h.elim)); have Hq := Lib.hid (f2.blk Hq.out (fun h => h)); clear f2) | (go_at_call 11; go_must (with_reducible refine (HRg.out _ FF.out).mono ?_); rintro e w2 ⟨rfl, f2⟩; have FF := Lib.hid (FF.out.then_ f2 (fun _ h => h.elim)); have Hq := Lib.hid (f2.blk Hq.out (fun h => h)); clear f2) | (go_at_call 12; go_must (with_reducible refine (HWb.out _ FF.out).mono ?_); rintro e w2 ⟨rfl, f2⟩; have FF := Lib.hid (FF.out.then_ f2 (fun _ h => h.elim)); have Hq := Lib.hid (f2.blk Hq.out (fun h => h)); clear f2) | (go_at_call 13; go_must (with_reducible refine (HWg.out _ FF.out).mono ?_); rintro e w2 ⟨rfl, f2⟩; have FF := Lib.hid (FF.out.then_ f2 (fun _ h => h.elim)); have Hq := Lib.hid (f2.blk Hq.out (fun h => h)); clear f2))
    refine (HRd.out _).mono ?_
    rintro e w4 ⟨v, rfl, ⟨b1, d1, b2, d2, b3, d3, rfl, s1, s2, s3⟩, f4⟩
    have GG := Lib.hid (FF.out.then_ f4 (fun _ h => h.elim))
    have Hr := Lib.hid (f4.blk Hq.out (fun h => h))
    obtain ⟨pop, pa, pt, pnow, pi, pf⟩ := p
    have e : pop = op := HNop.out
    subst e
    obtain ⟨m1, hm1⟩ : ∃ n, pa.length = n := ⟨_, rfl⟩
    obtain ⟨m2, hm2⟩ : ∃ n, pt.length = n := ⟨_, rfl⟩
    obtain ⟨m3, hm3⟩ : ∃ n, pi.length = n := ⟨_, rfl⟩
    simp only [hm1, hm2, hm3] at hna hnt hni ⊢
    have Hx := Lib.hid (heap_alloc_new w4 (.cells (reqCells pop b1 m1 d1 b2 m2 d2 pnow b3 m3 d3 pf) 31))
    have FX := Lib.hid ((Fr.refl (fun _ => False) w4).alloc (.cells (reqCells pop b1 m1 d1 b2 m2 d2 pnow b3 m3 d3 pf) 31))
    have Hr := Lib.hid (blk_alloc Hr.out (.cells (reqCells pop b1 m1 d1 b2 m2 d2 pnow b3 m3 d3 pf) 31))
    have GG := Lib.hid (GG.out.alloc (.cells (reqCells pop b1 m1 d1 b2 m2 d2 pnow b3 m3 d3 pf) 31))
    have HXb := Lib.hid (fun W (hf : Fr (fun _ => False) w4 W) => rbytes_any W pop b1 m1 d1 b2 m2 d2 pnow b3 m3 d3 pf pa pt pi hm1 hm2 hm3 (by omega) (by omega) (by omega) (s1.fr hf (fun _ _ h => h)) (s2.fr hf (fun _ _ h => h)) (s3.fr hf (fun _ _ h => h)) HNo.out.accs HNo.out.txs HNo.out.ids HNo.out.flt)
    rw [show reqBytes pop pa pt pnow pi pf = bs from HNb.out] at HXb
    clear s1 s2 s3 f4 hm1 hm2 hm3
    go_wp2_with (first
      | ((with_reducible refine wpList_load_row_w ?lw 31 _ rfl w.heap.size rfl 31 _ _ _ Hr.out Try.underlying31 rfl rfl ?_); (case lw => rfl))
      | ((with_reducible refine wpList_load_row_w ?lw 31 _ rfl w4.heap.size rfl 31 _ _ _ Hx.out Try.underlying31 rfl rfl ?_); (case lw => rfl))
      | (go_at_call 15; (with_reducible refine (HRb.out _ GG.out).mono ?_); rintro e w5 ⟨rfl, f5⟩; have GG := Lib.hid (GG.out.then_ f5 (fun _ h => h.elim)); have Hx := Lib.hid (f5.blk Hx.out (fun h => h)); have FX := Lib.hid (FX.out.then_ f5 (fun _ h => h.elim)); have x0 := blk_cell Hx.out 0 rfl; have y0 := blk_cell (f5.blk Hr.out (fun h => h)) 0 rfl; clear f5)
      | (go_at_call 15; (with_reducible refine (HXb.out _ FX.out).mono ?_); rintro e w6 ⟨rfl, f6⟩; have F6 := Lib.hid (GG.out.then_ f6 (fun _ h => h.elim)); clear f6))
    go_ret
    exact ⟨rfl, F6.out⟩
end Go.Proofs.Ytfmcimngogibkaa
