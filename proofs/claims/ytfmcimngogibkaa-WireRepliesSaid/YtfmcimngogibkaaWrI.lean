/- wire.Bytes: the walk. -/
import Derived.Test.YtfmcimngogibkaaWrH
set_option linter.unusedSimpArgs false
set_option linter.unusedVariables false
namespace Go.Proofs.Ytfmcimngogibkaa
open Go.RowKit

def Nm.bytes (x : Nm) : List Int := wideBytes x.hi x.lo
theorem Nm.bytes_len (x : Nm) : x.bytes.length = 16 := wideBytes_len _ _
def bodyBytes (op : Int) (la : List Acc) (lt : List Tx) (now : Int) (li : List Nm) (f : Flt) : List Int :=
  if op = 1 then bytesOf la.length 1 ++ la.flatMap Acc.bytes else if op = 2 then bytesOf lt.length 1 ++ lt.flatMap Tx.bytes else if op = 3 then bytesOf now 8 else if op = 6 then f.bytes else bytesOf li.length 1 ++ li.flatMap Nm.bytes
def reqBytes (op : Int) (la : List Acc) (lt : List Tx) (now : Int) (li : List Nm) (f : Flt) : List Int := bytesOf op 1 ++ bodyBytes op la lt now li f
def Req.bytes (q : Req) : List Int := reqBytes q.op q.accs q.txs q.now q.ids q.flt
theorem rowNm {w : World} {a : Option Addr} {l : List Nm} (h : Row w a (l.flatMap Nm.cells)) {k : Nat} (hk : k < l.length) : ∃ b off, a = some ⟨b, off, none⟩ ∧ w.rangeAt b (off + k * 2) l[k].cells := row_at (sz := 2) (fun _ => rfl) (by omega) h hk
theorem wr_new (w0 w : World) (h0 : Fr (fun _ => False) w0 w) (Q : Nat) (hQ : Q < w.heap.size) : Wr w0 (fun _ => False) (fun k => k = Q) (w.alloc (.cells #[.slice none 0 0] 67)) w.heap.size [] := by
  have s0 := h0.size
  refine ⟨fun k => k = w.heap.size, ⟨.slice none 0 0, heap_alloc_new w _, World.ownsRow_nil _ _ _ _, rfl, fun k hk => by simp [Value.ownBlock] at hk⟩, fun k hk => ?_, h0.alloc _, fun k hk => ?_⟩
  · have hk : k = w.heap.size := hk
    exact ⟨.inr (by omega), fun h => by have h : k = Q := h; omega⟩
  · have hk : k = Q := hk
    have : (w.alloc (.cells #[.slice none 0 0] 67)).heap.size = w.heap.size + 1 := Array.size_push ..
    omega

set_option maxRecDepth 4000 in
set_option maxHeartbeats 6400000 in
theorem wbytes_any (w : World) (op : Int) (a1 : Option Addr) (n1 c1 : Nat) (a2 : Option Addr) (n2 c2 : Nat) (now : Int) (a3 : Option Addr) (n3 c3 : Nat) (f : Flt) (la : List Acc) (lt : List Tx) (li : List Nm)
    (hn1 : la.length = n1) (hn2 : lt.length = n2) (hn3 : li.length = n3) (h1 : Row w a1 (la.flatMap Acc.cells)) (h2 : Row w a2 (lt.flatMap Tx.cells)) (h3 : Row w a3 (li.flatMap Nm.cells)) :
    Calls Try.prog 12 #[.agg #[.int .i64 op, .slice a1 n1 c1, .slice a2 n2 c2, .int .i64 now, .slice a3 n3 c3, .int .u64 f.acct.hi, .int .u64 f.acct.lo, .int .i64 f.from_, .int .i64 f.upto, .bool f.deb, .bool f.cre, .bool f.lat, .int .i64 f.lim]] w fun e w' => e = .returned (.tuple #[.string (strOfNums (if wgood op la lt now n3 f = true then reqBytes op la lt now li f else [])), .int .i64 (if wgood op la lt now n3 f = true then 0 else 1)]) ∧ Fr (fun _ => False) w w' := by
  have HBq := Lib.hid (heap_alloc_new w (.cells #[.int .i64 op, .slice a1 n1 c1, .slice a2 n2 c2, .int .i64 now, .slice a3 n3 c3, .int .u64 f.acct.hi, .int .u64 f.acct.lo, .int .i64 f.from_, .int .i64 f.upto, .bool f.deb, .bool f.cre, .bool f.lat, .int .i64 f.lim] 31))
  have FAq := Lib.hid ((Fr.refl (fun _ => False) w).alloc (.cells #[.int .i64 op, .slice a1 n1 c1, .slice a2 n2 c2, .int .i64 now, .slice a3 n3 c3, .int .u64 f.acct.hi, .int .u64 f.acct.lo, .int .i64 f.from_, .int .i64 f.upto, .bool f.deb, .bool f.cre, .bool f.lat, .int .i64 f.lim] 31))
  have HG := Lib.hid (wgood_any (w.alloc (.cells #[.int .i64 op, .slice a1 n1 c1, .slice a2 n2 c2, .int .i64 now, .slice a3 n3 c3, .int .u64 f.acct.hi, .int .u64 f.acct.lo, .int .i64 f.from_, .int .i64 f.upto, .bool f.deb, .bool f.cre, .bool f.lat, .int .i64 f.lim] 31)) op a1 n1 c1 a2 n2 c2 now a3 n3 c3 f la lt hn1 hn2 (h1.fr FAq.out (fun _ _ h => h)) (h2.fr FAq.out (fun _ _ h => h)))
  obtain ⟨gd, hgd⟩ : ∃ gd, wgood op la lt now n3 f = gd := ⟨_, rfl⟩
  rw [hgd] at HG ⊢
  obtain ⟨rs, hrs⟩ : ∃ rs, (if gd = true then reqBytes op la lt now li f else []) = rs := ⟨_, rfl⟩
  obtain ⟨re, hre⟩ : ∃ re : Int, (if gd = true then 0 else 1) = re := ⟨_, rfl⟩
  rw [hrs, hre]
  have HRs := Lib.hid hrs
  have HRe := Lib.hid hre
  have HGd := Lib.hid hgd
  have H1 := Lib.hid h1
  have H2 := Lib.hid h2
  have H3r := Lib.hid h3
  have HN1 := Lib.hid hn1
  have HN2 := Lib.hid hn2
  have HN3 := Lib.hid hn3
  have LDQ := trivial
  clear h1 h2 h3 hn1 hn2 hn3 hgd hrs hre LDQ
  cases gd
  · go_enter Try.func12, Try.ntmps12
    go_wp2_with (first
      | ((with_reducible refine wpList_load_row_w ?lw 31 _ rfl w.heap.size rfl 31 _ _ _ HBq.out Try.underlying31 rfl rfl ?_); (case lw => rfl))
      | (go_at_call 13; go_must (with_reducible refine HG.out.mono ?_); rintro e w2 ⟨rfl, f2⟩; have F1 := Lib.hid (FAq.out.then_ f2 (fun _ h => h.elim)); clear f2))
    go_ret2
    refine ⟨?_, F1.out⟩
    rw [← HRs.out, ← HRe.out]
    rfl
  · have hgp := HGd.out
    have HLn := Lib.hid (show (op = 1 → n1 ≤ 8 ∧ la.all Acc.good = true) ∧ (op = 2 → n2 ≤ 8 ∧ lt.all Tx.good = true) ∧ (op ≠ 1 → op ≠ 2 → op ≠ 3 → op ≠ 6 → n3 ≤ 16) from by
      rw [wgood, HN1.out, HN2.out, Bool.and_eq_true] at hgp
      obtain ⟨hq1, hq2⟩ := hgp
      refine ⟨fun e => ?_, fun e => ?_, fun e1 e2 e3 e6 => ?_⟩
      · subst e
        rw [askGood_12 (.inl rfl), Bool.or_false] at hq1
        have hq1 : (decide (1 ≤ n1) && decide (n1 ≤ 8)) = true := hq1
        simp at hq1
        exact ⟨by omega, by simpa using hq2⟩
      · subst e
        rw [askGood_12 (.inr rfl), Bool.or_false] at hq1
        have hq1 : (decide (1 ≤ n2) && decide (n2 ≤ 8)) = true := hq1
        simp at hq1
        exact ⟨by omega, by simpa using hq2⟩
      · have e : engGood op n1 n2 now = false := by simp [engGood, e1, e2, e3]
        rw [e, Bool.false_or, askGood] at hq1
        split at hq1
        · simp at hq1; omega
        · simp [e6] at hq1)
    have HVs := Lib.hid (show rs = bytesOf op 1 ++ bodyBytes op la lt now li f from HRs.out.symm)
    have HVe := Lib.hid (show re = 0 from HRe.out.symm)
    clear hgp
    go_enter Try.func12, Try.ntmps12
    go_upto_region 4 with (first
      | ((with_reducible refine wpList_load_row_w ?lw 31 _ rfl w.heap.size rfl 31 _ _ _ HBq.out Try.underlying31 rfl rfl ?_); (case lw => rfl))
      | (go_at_call 13; go_must (with_reducible refine HG.out.mono ?_); rintro e w1 ⟨rfl, f2⟩; have F1 := Lib.hid (FAq.out.then_ f2 (fun _ h => h.elim)); have HB1 := Lib.hid (f2.blk HBq.out (fun h => h)); clear f2))
    have HW1 := Lib.hid (wr_new w w1 F1.out w.heap.size (blk_lt HB1.out))
    have HB2 := Lib.hid (blk_alloc HB1.out (.cells #[.slice none 0 0] 67))
    have qc := blk_cell HB2.out 0 rfl
    go_region_held3 (fun w' => w'.cell? ⟨w.heap.size, 0, none⟩ = some (Value.int .i64 op))
        (first | exact qc | go_keep)
        (first
          | (go_at_call 26; go_must (refine (Wr.call (l2 := bytesOf op 1) (HW1.out.keep (by repeat (first | (with_reducible exact Fr.refl _ _) | (with_reducible refine Fr.drew ?_) | (with_reducible refine Fr.drewN ?_ _) | (with_reducible refine Fr.alloc ?_ _) | (with_reducible refine Fr.set1 ?_ _) | (with_reducible refine Fr.setNew ?_ (by omega) _)))) (fun S hw => by have h := wInt_any _ S _ [] 1 op hw (by simp); rwa [show clamp 1 = 1 from rfl, List.nil_append] at h)).mono ?_); rintro e w3 ⟨rfl, h2, k2⟩; have H3 := Lib.hid h2; have HB3 := Lib.hid ((k2 _ rfl).trans (blk_drew HB2.out)); have qc := blk_cell HB3.out 0 rfl; clear h2 k2))
    obtain ⟨gw, hgw⟩ : ∃ gw, w1.heap.size = gw := ⟨_, rfl⟩
    rw [hgw] at H3 ⊢
    have qc := blk_cell HB3.out 0 rfl
    clear hgw
    go_upto_block 0 with fail
    clear qc
    go_cut [] from 20 (fun w' => Wr w (fun _ => False) (fun k => k = w.heap.size) w' gw (bytesOf op 1 ++ bodyBytes op la lt now li f))
    case first =>
      have q1 := blk_cell HB3.out 1 rfl
      have q2 := blk_cell HB3.out 2 rfl
      have q3 := blk_cell HB3.out 3 rfl
      have q4 := blk_cell HB3.out 4 rfl
      by_cases o1 : op = 1
      · have HV := Lib.hid (show bodyBytes op la lt now li f = bytesOf n1 1 ++ la.flatMap Acc.bytes from by rw [bodyBytes, if_pos o1, HN1.out])
        obtain ⟨hb8, hal⟩ := HLn.out.1 o1
        have HP := Lib.hid (wAccs_any w w3 (fun _ => False) (fun k => k = w.heap.size) gw (bytesOf op 1) a1 n1 c1 la H3.out (by rw [blen]; omega) HN1.out (by omega) H1.out (fun _ _ h => h) hal)
        subst o1
        go_wp2_with (go_at_call 27; go_must (with_reducible refine HP.out.mono ?_); rintro e w4 ⟨rfl, h4, k4⟩; have H4 := Lib.hid h4; clear h4 k4)
        go_meet
        rw [HV.out, ← List.append_assoc]
        exact H4.out
      by_cases o2 : op = 2
      · have HV := Lib.hid (show bodyBytes op la lt now li f = bytesOf n2 1 ++ lt.flatMap Tx.bytes from by rw [bodyBytes, if_neg o1, if_pos o2, HN2.out])
        obtain ⟨hb8, hal⟩ := HLn.out.2.1 o2
        have HP := Lib.hid (wTxs_any w w3 (fun _ => False) (fun k => k = w.heap.size) gw (bytesOf op 1) a2 n2 c2 lt H3.out (by rw [blen]; omega) HN2.out (by omega) H2.out (fun _ _ h => h) hal)
        subst o2
        go_wp2_with (go_at_call 28; go_must (with_reducible refine HP.out.mono ?_); rintro e w4 ⟨rfl, h4, k4⟩; have H4 := Lib.hid h4; clear h4 k4)
        go_meet
        rw [HV.out, ← List.append_assoc]
        exact H4.out
      by_cases o3 : op = 3
      · have HV := Lib.hid (show bodyBytes op la lt now li f = bytesOf now 8 from by rw [bodyBytes, if_neg o1, if_neg o2, if_pos o3])
        have qc := q3
        clear q1 q2 q3 q4
        subst o3
        go_upto_region 17 with fail
        go_region_held3 (fun w' => w'.cell? ⟨w.heap.size, 3, none⟩ = some (Value.int .i64 now))
        (first | exact qc | go_keep)
        (first
          | (go_at_call 26; go_must (refine (Wr.call (l2 := bytesOf 3 1 ++ bytesOf now 8) (H3.out.keep (by repeat (first | (with_reducible exact Fr.refl _ _) | (with_reducible refine Fr.drew ?_) | (with_reducible refine Fr.drewN ?_ _) | (with_reducible refine Fr.alloc ?_ _) | (with_reducible refine Fr.set1 ?_ _) | (with_reducible refine Fr.setNew ?_ (by omega) _)))) (fun S hw => by have h := wInt_any _ S _ (bytesOf 3 1) 8 now hw (by rw [blen]; omega); rwa [show clamp 8 = 8 from rfl] at h)).mono ?_); rintro e w3 ⟨rfl, h2, k2⟩; have H3 := Lib.hid h2; have HB3 := Lib.hid ((k2 _ rfl).trans (blk_drew HB3.out)); have qc := blk_cell HB3.out 3 rfl; clear h2 k2))
        go_wp2_with fail
        go_meet
        rw [HV.out]
        exact H3.out
      by_cases o6 : op = 6
      · have HV := Lib.hid (show bodyBytes op la lt now li f = f.bytes from by rw [bodyBytes, if_neg o1, if_neg o2, if_neg o3, if_pos o6])
        have HP := Lib.hid (wFlt_any w w3 (fun _ => False) (fun k => k = w.heap.size) gw (bytesOf op 1) f H3.out (by rw [blen]; omega))
        have HRg := Lib.hid (show w3.rangeAt w.heap.size 5 (#[.int .u64 f.acct.hi, .int .u64 f.acct.lo, .int .i64 f.from_, .int .i64 f.upto, .bool f.deb, .bool f.cre, .bool f.lat, .int .i64 f.lim] : Array Value).toList from fun j u hu => blk_cell HB3.out (5 + j) (by
          have hj := (List.getElem?_eq_some_iff.1 hu).1
          simp only [List.length_cons, List.length_nil] at hj
          rcases j with _ | _ | _ | _ | _ | _ | _ | _ | j
          all_goals first | exact hu | (exfalso; omega)))
        subst o6
        go_wp2_with (first
          | ((with_reducible refine wpList_load_mid_w ?lw 29 _ rfl w.heap.size 5 rfl #[.int .u64 f.acct.hi, .int .u64 f.acct.lo, .int .i64 f.from_, .int .i64 f.upto, .bool f.deb, .bool f.cre, .bool f.lat, .int .i64 f.lim] _ HRg.out Try.underlying29 rfl rfl ?_); (case lw => rfl))
          | (go_at_call 29; go_must (with_reducible refine HP.out.mono ?_); rintro e w4 ⟨rfl, h4, k4⟩; have H4 := Lib.hid h4; clear h4 k4))
        go_meet
        rw [HV.out]
        exact H4.out
      have HV := Lib.hid (show bodyBytes op la lt now li f = bytesOf n3 1 ++ li.flatMap Nm.bytes from by rw [bodyBytes, if_neg o1, if_neg o2, if_neg o3, if_neg o6, HN3.out])
      have hb16 := HLn.out.2.2 o1 o2 o3 o6
      have k1 : (op == 1) = false := by simpa using o1
      have k2 : (op == 2) = false := by simpa using o2
      have k3 : (op == 3) = false := by simpa using o3
      have k6 : (op == 6) = false := by simpa using o6
      have qc := q4
      clear q1 q2 q3 q4
      go_upto_region 6 with fail
      go_region_held3 (fun w' => w'.cell? ⟨w.heap.size, 4, none⟩ = some (Value.slice a3 n3 c3))
        (first | exact qc | go_keep)
        (first
          | (go_at_call 26; go_must (refine (Wr.call (l2 := bytesOf op 1 ++ bytesOf n3 1) (H3.out.keep (by repeat (first | (with_reducible exact Fr.refl _ _) | (with_reducible refine Fr.drew ?_) | (with_reducible refine Fr.drewN ?_ _) | (with_reducible refine Fr.alloc ?_ _) | (with_reducible refine Fr.set1 ?_ _) | (with_reducible refine Fr.setNew ?_ (by omega) _)))) (fun S hw => by have h := wInt_any _ S _ (bytesOf op 1) 1 n3 hw (by rw [blen]; omega); rwa [show clamp 1 = 1 from rfl] at h)).mono ?_); rintro e w3 ⟨rfl, h2, k2⟩; have H3 := Lib.hid h2; have HB3 := Lib.hid ((k2 _ rfl).trans (blk_drew HB3.out)); have qc := blk_cell HB3.out 4 rfl; clear h2 k2))
      go_wp2_with fail
      go_loopw [30] (fun i wr => ∃ k : Nat, k ≤ n3 ∧ i = .int .i64 k ∧ Wr w (fun _ => False) (fun k => k = w.heap.size) wr gw (bytesOf op 1 ++ bytesOf n3 1 ++ (li.take k).flatMap Nm.bytes)) (fun i _ => ((n3 : Int) - intOf i).toNat)
      case atStart => exact ⟨0, Nat.zero_le _, rfl, by simpa using H3.out⟩
      case round =>
        obtain ⟨k, hk, rfl, hw⟩ := hrel
        have HW := Lib.hid hw
        by_cases hlt : k < n3
        · have hltI : (k : Int) < n3 := by omega
          have hkl : k < li.length := by rw [HN3.out]; exact hlt
          obtain ⟨b, off, rfl, HRg⟩ := rowNm (H3r.out.fr hw.fr (fun _ _ h => h)) hkl
          have hbl : b < wr.heap.size := World.block_lt_of_cell? _ _ (HRg 0 _ rfl)
          obtain ⟨x, hx⟩ : ∃ x, li[k] = x := ⟨_, rfl⟩
          rw [hx] at HRg
          have HX := Lib.hid (take_flat (f := Nm.bytes) hkl hx)
          have p0 : wr.cell? ⟨b, off + k * 2, none⟩ = some (.int .u64 x.hi) := HRg 0 _ rfl
          have p1 : wr.cell? ⟨b, off + k * 2 + 1, none⟩ = some (.int .u64 x.lo) := HRg 1 _ rfl
          have HBk := Lib.hid (heap_alloc_new wr (.cells #[.int .u64 x.hi, .int .u64 x.lo] 27))
          have FA := Lib.hid ((Fr.refl (fun _ => False) wr).alloc (.cells #[.int .u64 x.hi, .int .u64 x.lo] 27))
          have hlen := flat_take_len (f := Nm.bytes) (sz := 16) Nm.bytes_len li k (by omega)
          have HL := Lib.hid (show (bytesOf op 1 ++ bytesOf n3 1 ++ (li.take k).flatMap Nm.bytes).length + 1000 ≤ 140737488355328 from by rw [List.length_append, List.length_append, blen, blen, hlen]; omega)
          have HP := Lib.hid (fun W (f : Fr (fun _ => False) (wr.alloc (.cells #[.int .u64 x.hi, .int .u64 x.lo] 27)) W) => Wr.call ((HW.out.off (b := wr.heap.size) (Nat.le_refl _) FA.out (blk_lt HBk.out)).keep f) (fun S hw => wNum_any W S gw _ x.hi x.lo hw (by have := HL.out; omega)))
          have w1 : IntKind.i64.wrap ((k : Int) + 1) = k + 1 := IntWalk.i64_in _ (by omega)
          have q0 := blk_cell HBk.out 0 rfl
          have q1 := blk_cell HBk.out 1 rfl
          clear hw hx hlen HRg
          go_upto_region 10 with fail
          go_region_held3 (fun w' => w'.cell? ⟨wr.heap.size, 0, none⟩ = some (Value.int .u64 x.hi) ∧ w'.cell? ⟨wr.heap.size, 1, none⟩ = some (Value.int .u64 x.lo))
            (first | exact ⟨q0, q1⟩ | go_keep)
            (first
              | (go_at_call 30; go_must (with_reducible refine (HP.out _ (by repeat (first | (with_reducible exact Fr.refl _ _) | (with_reducible refine Fr.drew ?_) | (with_reducible refine Fr.drewN ?_ _) | (with_reducible refine Fr.alloc ?_ _) | (with_reducible refine Fr.set1 ?_ _) | (with_reducible refine Fr.setNew ?_ (by omega) _)))).mono ?_); rintro e w4 ⟨rfl, h2, k2⟩; have H4 := Lib.hid (h2.weak (N2 := fun k => k = w.heap.size) (fun _ h => .inl h)); have HB4 := Lib.hid ((k2 _ (.inr rfl)).trans (blk_drew HBk.out)); have q0 := blk_cell HB4.out 0 rfl; have q1 := blk_cell HB4.out 1 rfl; clear h2 k2))
          go_wp2_with fail
          go_roundw
          case rel => exact ⟨k + 1, by omega, by go_num, by rw [HX.out, ← List.append_assoc]; exact H4.out⟩
          case measure => simp [intOf]; omega
        · have hltI : ¬ (k : Int) < n3 := by omega
          have e : li.take k = li := List.take_of_length_le (by have := HN3.out; omega)
          rw [e] at HW
          clear hw e
          go_wp2_with fail
          go_meet
          rw [HV.out, ← List.append_assoc]
          exact HW.out
    case rest =>
    obtain ⟨S, hs, -, hf, -⟩ := hcut
    have HS := Lib.hid hs
    have HF := Lib.hid hf
    clear hs hf
    go_wp2_with fail
    refine (wString_any _ S gw _ HS.out).mono ?_
    rintro e w4 ⟨rfl, rfl⟩
    go_wp2_with fail
    go_ret2
    refine ⟨?_, HF.out⟩
    rw [HVs.out, HVe.out]
    rfl
end Go.Proofs.Ytfmcimngogibkaa
