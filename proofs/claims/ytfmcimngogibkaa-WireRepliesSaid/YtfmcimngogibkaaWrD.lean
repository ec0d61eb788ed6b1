/- wire.Good: the walk. -/
import Derived.Test.YtfmcimngogibkaaWrA
import Derived.Test.YtfmcimngogibkaaWrC
import Derived.Deep.MidRow
import Derived.Deep.CutBlock
set_option linter.unusedSimpArgs false
set_option linter.unusedVariables false
namespace Go.Proofs.Ytfmcimngogibkaa
open Go.RowKit

theorem wpList_load_mid_w {P : Program} {ops : Array Oper} {rest : List Oper} {o : Oper} {a : Act} {w : World} {Q : Exit → Act → World → Prop} (hw : Region.wanted o (yielded ops a.tmps) = true) (ty : TypeId) (x : Operand) (ho : o.op = .load ty x)
    (b off : Nat) (hx : a.eval x = .pointer (some ⟨b, off, none⟩)) (cs : Array Value) (d : TypeDesc) (hg : w.rangeAt b off cs.toList)
    (hu : P.underlying ty = some d) (hd : d.isRow = true) (hi : (P.info? ty).map (·.size) = some cs.toList.length)
    (h : wpList P ops Q rest (a.put o.dst (.agg cs)) w) : wpList P ops Q (o :: rest) a w :=
  wpList_step fun K hK => by
    rw [if_pos hw]
    exact wp_load_mid ty x ho b off hx cs.toList d hg hu hd hi (hK _ _ h)
theorem row_at {α : Type} {f : α → List Value} {sz : Nat} (hf : ∀ x, (f x).length = sz) (hs : 0 < sz) {w : World} {a : Option Addr} {l : List α} (h : Row w a (l.flatMap f)) {k : Nat} (hk : k < l.length) : ∃ b off, a = some ⟨b, off, none⟩ ∧ w.rangeAt b (off + k * sz) (f l[k]) := by
  have g : ∀ j u, (f l[k])[j]? = some u → ∃ b off, a = some ⟨b, off, none⟩ ∧ w.cell? ⟨b, off + k * sz + j, none⟩ = some u := fun j u hu => by
    have hj : j < sz := by have := (List.getElem?_eq_some_iff.1 hu).1; rwa [hf] at this
    obtain ⟨b, off, e, hc⟩ := h (k * sz + j) u ((flat_get hf l k hk j hj).trans hu)
    exact ⟨b, off, e, by rw [Nat.add_assoc]; exact hc⟩
  have h0 : 0 < (f l[k]).length := by rw [hf]; exact hs
  obtain ⟨b, off, e, -⟩ := g 0 _ (List.getElem?_eq_getElem h0)
  refine ⟨b, off, e, fun j u hu => ?_⟩
  obtain ⟨b2, off2, e2, hc⟩ := g j u hu
  rw [e] at e2
  simp only [Option.some.injEq, Addr.mk.injEq] at e2
  obtain ⟨rfl, rfl, _⟩ := e2
  exact hc
theorem rowAcc {w : World} {a : Option Addr} {l : List Acc} (h : Row w a (l.flatMap Acc.cells)) {k : Nat} (hk : k < l.length) : ∃ b off, a = some ⟨b, off, none⟩ ∧ w.rangeAt b (off + k * 14) l[k].cells := row_at (sz := 14) (fun _ => rfl) (by omega) h hk
theorem rowTx {w : World} {a : Option Addr} {l : List Tx} (h : Row w a (l.flatMap Tx.cells)) {k : Nat} (hk : k < l.length) : ∃ b off, a = some ⟨b, off, none⟩ ∧ w.rangeAt b (off + k * 16) l[k].cells := row_at (sz := 16) (fun _ => rfl) (by omega) h hk
theorem all_succ {α : Type} {f : α → Bool} {l : List α} {k : Nat} (hk : k < l.length) {x : α} (hx : l[k] = x) : (l.take (k + 1)).all f = ((l.take k).all f && f x) := by
  rw [List.take_succ_eq_append_getElem hk, hx, List.all_append]; simp
theorem all_false {α : Type} {f : α → Bool} {l : List α} {k : Nat} (hk : k < l.length) {x : α} (hx : l[k] = x) (h : f x = false) : l.all f = false := by
  rw [List.all_eq_false]
  exact ⟨x, hx ▸ List.getElem_mem hk, by rw [h]; exact Bool.false_ne_true⟩
def wgood (op : Int) (la : List Acc) (lt : List Tx) (now : Int) (n3 : Nat) (f : Flt) : Bool :=
  (engGood op la.length lt.length now || askGood op n3 f) && (if op = 1 then la.all Acc.good else if op = 2 then lt.all Tx.good else true)
theorem askGood_12 {op : Int} (h : op = 1 ∨ op = 2) (n3 : Nat) (f : Flt) : askGood op n3 f = false := by
  rw [askGood, if_neg (by omega), if_neg (by omega)]

set_option maxRecDepth 4000 in
set_option maxHeartbeats 6400000 in
theorem wgood_any (w : World) (op : Int) (a1 : Option Addr) (n1 c1 : Nat) (a2 : Option Addr) (n2 c2 : Nat) (now : Int) (a3 : Option Addr) (n3 c3 : Nat) (f : Flt) (la : List Acc) (lt : List Tx)
    (hn1 : la.length = n1) (hn2 : lt.length = n2) (h1 : Row w a1 (la.flatMap Acc.cells)) (h2 : Row w a2 (lt.flatMap Tx.cells)) :
    Calls Try.prog 13 #[.agg #[.int .i64 op, .slice a1 n1 c1, .slice a2 n2 c2, .int .i64 now, .slice a3 n3 c3, .int .u64 f.acct.hi, .int .u64 f.acct.lo, .int .i64 f.from_, .int .i64 f.upto, .bool f.deb, .bool f.cre, .bool f.lat, .int .i64 f.lim]] w fun e w' => e = .returned (.bool (wgood op la lt now n3 f)) ∧ Fr (fun _ => False) w w' := by
  obtain ⟨R, hR⟩ : ∃ R, wgood op la lt now n3 f = R := ⟨_, rfl⟩
  have HR := Lib.hid hR
  rw [hR]
  clear hR
  have H1 := Lib.hid h1
  have H2 := Lib.hid h2
  have HN1 := Lib.hid hn1
  have HN2 := Lib.hid hn2
  have HBq := Lib.hid (heap_alloc_new w (.cells #[.int .i64 op, .slice a1 n1 c1, .slice a2 n2 c2, .int .i64 now, .slice a3 n3 c3, .int .u64 f.acct.hi, .int .u64 f.acct.lo, .int .i64 f.from_, .int .i64 f.upto, .bool f.deb, .bool f.cre, .bool f.lat, .int .i64 f.lim] 31))
  have FAq := Lib.hid ((Fr.refl (fun _ => False) w).alloc (.cells #[.int .i64 op, .slice a1 n1 c1, .slice a2 n2 c2, .int .i64 now, .slice a3 n3 c3, .int .u64 f.acct.hi, .int .u64 f.acct.lo, .int .i64 f.from_, .int .i64 f.upto, .bool f.deb, .bool f.cre, .bool f.lat, .int .i64 f.lim] 31))
  have HE := Lib.hid (eng_any (w.alloc (.cells #[.int .i64 op, .slice a1 n1 c1, .slice a2 n2 c2, .int .i64 now, .slice a3 n3 c3, .int .u64 f.acct.hi, .int .u64 f.acct.lo, .int .i64 f.from_, .int .i64 f.upto, .bool f.deb, .bool f.cre, .bool f.lat, .int .i64 f.lim] 31)) op a1 n1 c1 a2 n2 c2 now a3 n3 c3 f)
  have HK := Lib.hid (fun W => ask_any W op a1 n1 c1 a2 n2 c2 now a3 n3 c3 f)
  obtain ⟨eg, heg⟩ : ∃ eg, engGood op n1 n2 now = eg := ⟨_, rfl⟩
  obtain ⟨ag, hag⟩ : ∃ ag, askGood op n3 f = ag := ⟨_, rfl⟩
  rw [heg] at HE
  rw [hag] at HK
  have HEg := Lib.hid heg
  have HAg := Lib.hid hag
  clear h1 h2 hn1 hn2 heg hag
  go_enter Try.func13, Try.ntmps13
  go_upto_region 1 with fail
  go_cut [14] from 7 (fun s w' => s = .bool (!(eg || ag)) ∧ w'.heap[w.heap.size]? = some (.cells #[.int .i64 op, .slice a1 n1 c1, .slice a2 n2 c2, .int .i64 now, .slice a3 n3 c3, .int .u64 f.acct.hi, .int .u64 f.acct.lo, .int .i64 f.from_, .int .i64 f.upto, .bool f.deb, .bool f.cre, .bool f.lat, .int .i64 f.lim] 31 (0, 0)) ∧ Fr (fun _ => False) w w')
  case first =>
    cases eg
    all_goals
      go_wp2_with (first
        | ((with_reducible refine wpList_load_row_w ?lw 31 _ rfl w.heap.size rfl 31 _ _ _ (by first | (with_reducible exact HBq.out) | exact HB1.out) Try.underlying31 rfl rfl ?_); (case lw => rfl))
        | (go_at_call 32; go_must (with_reducible refine HE.out.mono ?_); rintro e w2 ⟨rfl, f2⟩; have F1 := Lib.hid (FAq.out.then_ f2 (fun _ h => h.elim)); have HB1 := Lib.hid (f2.blk HBq.out (fun h => h)); clear f2)
        | (go_at_call 33; go_must (with_reducible refine (HK.out _).mono ?_); rintro e w2 ⟨rfl, f2⟩; have F1 := Lib.hid (F1.out.then_ f2 (fun _ h => h.elim)); have HB1 := Lib.hid (f2.blk HB1.out (fun h => h)); clear f2))
      go_meet
      exact ⟨by simp, HB1.out, F1.out⟩
  case rest =>
  obtain ⟨rfl, hbq, f2⟩ := hcut
  have HBc := Lib.hid hbq
  have F2 := Lib.hid f2
  have q0 := blk_cell hbq 0 rfl
  have q1 := blk_cell hbq 1 rfl
  have q2 := blk_cell hbq 2 rfl
  have HV0 := Lib.hid (show R = ((eg || ag) && (if op = 1 then la.all Acc.good else if op = 2 then lt.all Tx.good else true)) from by
    rw [← HR.out, wgood, HN1.out, HN2.out, HEg.out, HAg.out])
  clear hbq f2 HE HK
  cases hor : (eg || ag)
  · go_wp2_with fail
    go_ret
    exact ⟨by rw [HV0.out, hor]; rfl, F2.out⟩
  · rw [hor] at HV0
    have Hor := Lib.hid hor
    clear hor
    rcases ops3 op with rfl | rfl | rfl | ⟨o1, o2, o3⟩
    · have HL := Lib.hid (show n1 ≤ 8 from by
        have h := Hor.out
        rw [← HAg.out, askGood_12 (.inl rfl), Bool.or_false, ← HEg.out] at h
        have h : (decide (1 ≤ n1) && decide (n1 ≤ 8)) = true := h
        simp at h
        omega)
      have hl8 : n1 ≤ 8 := HL.out
      go_wp2_with fail
      go_loopw [22] (fun i wr => ∃ k : Nat, k ≤ n1 ∧ i = .int .i64 k ∧ (la.take k).all Acc.good = true ∧ Fr (fun _ => False) w wr) (fun i _ => ((n1 : Int) - intOf i).toNat)
      case atStart => exact ⟨0, Nat.zero_le _, rfl, rfl, F2.out⟩
      case round =>
        obtain ⟨k, hk, rfl, hall, hf⟩ := hrel
        have HAll := Lib.hid hall
        have HF := Lib.hid hf
        by_cases hlt : k < n1
        · have hltI : (k : Int) < n1 := by omega
          have hkl : k < la.length := by rw [HN1.out]; exact hlt
          obtain ⟨b, off, rfl, HRg⟩ := rowAcc (H1.out.fr hf (fun _ _ h => h)) hkl
          have hbl : b < wr.heap.size := World.block_lt_of_cell? _ _ (HRg 0 _ rfl)
          obtain ⟨x, hx⟩ : ∃ x, la[k] = x := ⟨_, rfl⟩
          rw [hx] at HRg
          have HRg := Lib.hid (show wr.rangeAt b (off + k * 14) (#[.int .u64 x.id.hi, .int .u64 x.id.lo, .int .u64 x.dp.hi, .int .u64 x.dp.lo, .int .u64 x.dq.hi, .int .u64 x.dq.lo, .int .u64 x.cp.hi, .int .u64 x.cp.lo, .int .u64 x.cq.hi, .int .u64 x.cq.lo, .int .i64 x.ledger, .int .i64 x.code, .int .i64 x.flags, .int .i64 x.stamp] : Array Value).toList from HRg)
          have HX := Lib.hid (all_succ (f := Acc.good) hkl hx)
          have HBk := Lib.hid (heap_alloc_new wr (.cells #[.int .u64 x.id.hi, .int .u64 x.id.lo, .int .u64 x.dp.hi, .int .u64 x.dp.lo, .int .u64 x.dq.hi, .int .u64 x.dq.lo, .int .u64 x.cp.hi, .int .u64 x.cp.lo, .int .u64 x.cq.hi, .int .u64 x.cq.lo, .int .i64 x.ledger, .int .i64 x.code, .int .i64 x.flags, .int .i64 x.stamp] 58))
          have FA := Lib.hid ((Fr.refl (fun _ => False) wr).alloc (.cells #[.int .u64 x.id.hi, .int .u64 x.id.lo, .int .u64 x.dp.hi, .int .u64 x.dp.lo, .int .u64 x.dq.hi, .int .u64 x.dq.lo, .int .u64 x.cp.hi, .int .u64 x.cp.lo, .int .u64 x.cq.hi, .int .u64 x.cq.lo, .int .i64 x.ledger, .int .i64 x.code, .int .i64 x.flags, .int .i64 x.stamp] 58))
          have HG := Lib.hid (good_any (wr.alloc (.cells #[.int .u64 x.id.hi, .int .u64 x.id.lo, .int .u64 x.dp.hi, .int .u64 x.dp.lo, .int .u64 x.dq.hi, .int .u64 x.dq.lo, .int .u64 x.cp.hi, .int .u64 x.cp.lo, .int .u64 x.cq.hi, .int .u64 x.cq.lo, .int .i64 x.ledger, .int .i64 x.code, .int .i64 x.flags, .int .i64 x.stamp] 58)) x)
          obtain ⟨gd, hgd⟩ : ∃ gd, x.good = gd := ⟨_, rfl⟩
          rw [hgd, show x.val = .agg #[.int .u64 x.id.hi, .int .u64 x.id.lo, .int .u64 x.dp.hi, .int .u64 x.dp.lo, .int .u64 x.dq.hi, .int .u64 x.dq.lo, .int .u64 x.cp.hi, .int .u64 x.cp.lo, .int .u64 x.cq.hi, .int .u64 x.cq.lo, .int .i64 x.ledger, .int .i64 x.code, .int .i64 x.flags, .int .i64 x.stamp] from rfl] at HG
          have HGd := Lib.hid hgd
          have w1 : IntKind.i64.wrap ((k : Int) + 1) = k + 1 := IntWalk.i64_in _ (by omega)
          have HXe := Lib.hid hx
          clear hall hf hx hgd
          cases gd
          · have HV := Lib.hid (show R = false from HV0.out.trans (all_false hkl rfl (by rw [HXe.out]; exact HGd.out)))
            go_wp2_with (first
              | ((with_reducible refine wpList_load_mid_w ?lw 58 _ rfl b (off + k * 14) rfl #[.int .u64 x.id.hi, .int .u64 x.id.lo, .int .u64 x.dp.hi, .int .u64 x.dp.lo, .int .u64 x.dq.hi, .int .u64 x.dq.lo, .int .u64 x.cp.hi, .int .u64 x.cp.lo, .int .u64 x.cq.hi, .int .u64 x.cq.lo, .int .i64 x.ledger, .int .i64 x.code, .int .i64 x.flags, .int .i64 x.stamp] _ HRg.out Try.underlying58 rfl rfl ?_); (case lw => rfl))
              | ((with_reducible refine wpList_load_row_w ?lw 58 _ rfl wr.heap.size rfl 58 _ _ _ HBk.out Try.underlying58 rfl rfl ?_); (case lw => rfl))
              | (go_at_call 34; go_must (with_reducible refine HG.out.mono ?_); rintro e w2 ⟨rfl, f2⟩; have F3 := Lib.hid f2; clear f2))
            go_ret
            exact ⟨by rw [HV.out]; rfl, (HF.out.then_ FA.out (fun _ h => h.elim)).then_ F3.out (fun _ h => h.elim)⟩
          · have HS := Lib.hid (show (la.take (k + 1)).all Acc.good = true from by rw [HX.out, HAll.out, HGd.out]; rfl)
            go_wp2_with (first
              | ((with_reducible refine wpList_load_mid_w ?lw 58 _ rfl b (off + k * 14) rfl #[.int .u64 x.id.hi, .int .u64 x.id.lo, .int .u64 x.dp.hi, .int .u64 x.dp.lo, .int .u64 x.dq.hi, .int .u64 x.dq.lo, .int .u64 x.cp.hi, .int .u64 x.cp.lo, .int .u64 x.cq.hi, .int .u64 x.cq.lo, .int .i64 x.ledger, .int .i64 x.code, .int .i64 x.flags, .int .i64 x.stamp] _ HRg.out Try.underlying58 rfl rfl ?_); (case lw => rfl))
              | ((with_reducible refine wpList_load_row_w ?lw 58 _ rfl wr.heap.size rfl 58 _ _ _ HBk.out Try.underlying58 rfl rfl ?_); (case lw => rfl))
              | (go_at_call 34; go_must (with_reducible refine HG.out.mono ?_); rintro e w2 ⟨rfl, f2⟩; have F3 := Lib.hid f2; clear f2))
            go_roundw
            case rel => exact ⟨k + 1, by omega, by go_num, HS.out, (HF.out.then_ FA.out (fun _ h => h.elim)).then_ F3.out (fun _ h => h.elim)⟩
            case measure => simp [intOf]; omega
        · have hltI : ¬ (k : Int) < n1 := by omega
          have HV := Lib.hid (show R = true from HV0.out.trans (by have e : la.take k = la := List.take_of_length_le (by have := HN1.out; omega); rw [e] at hall; exact hall))
          clear hall hf
          go_wp2_with fail
          go_ret
          exact ⟨by rw [HV.out]; rfl, HF.out⟩
    · have HL := Lib.hid (show n2 ≤ 8 from by
        have h := Hor.out
        rw [← HAg.out, askGood_12 (.inr rfl), Bool.or_false, ← HEg.out] at h
        have h : (decide (1 ≤ n2) && decide (n2 ≤ 8)) = true := h
        simp at h
        omega)
      have hl8 : n2 ≤ 8 := HL.out
      go_wp2_with fail
      go_loopw [35] (fun i wr => ∃ k : Nat, k ≤ n2 ∧ i = .int .i64 k ∧ (lt.take k).all Tx.good = true ∧ Fr (fun _ => False) w wr) (fun i _ => ((n2 : Int) - intOf i).toNat)
      case atStart => exact ⟨0, Nat.zero_le _, rfl, rfl, F2.out⟩
      case round =>
        obtain ⟨k, hk, rfl, hall, hf⟩ := hrel
        have HAll := Lib.hid hall
        have HF := Lib.hid hf
        by_cases hlt : k < n2
        · have hltI : (k : Int) < n2 := by omega
          have hkl : k < lt.length := by rw [HN2.out]; exact hlt
          obtain ⟨b, off, rfl, HRg⟩ := rowTx (H2.out.fr hf (fun _ _ h => h)) hkl
          have hbl : b < wr.heap.size := World.block_lt_of_cell? _ _ (HRg 0 _ rfl)
          obtain ⟨x, hx⟩ : ∃ x, lt[k] = x := ⟨_, rfl⟩
          rw [hx] at HRg
          have HRg := Lib.hid (show wr.rangeAt b (off + k * 16) (#[.int .u64 x.id.hi, .int .u64 x.id.lo, .int .u64 x.debit.hi, .int .u64 x.debit.lo, .int .u64 x.credit.hi, .int .u64 x.credit.lo, .int .u64 x.amount.hi, .int .u64 x.amount.lo, .int .u64 x.pending.hi, .int .u64 x.pending.lo, .int .i64 x.timeout, .int .i64 x.ledger, .int .i64 x.code, .int .i64 x.flags, .int .i64 x.stamp, .int .i64 x.born] : Array Value).toList from HRg)
          have HX := Lib.hid (all_succ (f := Tx.good) hkl hx)
          have HBk := Lib.hid (heap_alloc_new wr (.cells #[.int .u64 x.id.hi, .int .u64 x.id.lo, .int .u64 x.debit.hi, .int .u64 x.debit.lo, .int .u64 x.credit.hi, .int .u64 x.credit.lo, .int .u64 x.amount.hi, .int .u64 x.amount.lo, .int .u64 x.pending.hi, .int .u64 x.pending.lo, .int .i64 x.timeout, .int .i64 x.ledger, .int .i64 x.code, .int .i64 x.flags, .int .i64 x.stamp, .int .i64 x.born] 61))
          have FA := Lib.hid ((Fr.refl (fun _ => False) wr).alloc (.cells #[.int .u64 x.id.hi, .int .u64 x.id.lo, .int .u64 x.debit.hi, .int .u64 x.debit.lo, .int .u64 x.credit.hi, .int .u64 x.credit.lo, .int .u64 x.amount.hi, .int .u64 x.amount.lo, .int .u64 x.pending.hi, .int .u64 x.pending.lo, .int .i64 x.timeout, .int .i64 x.ledger, .int .i64 x.code, .int .i64 x.flags, .int .i64 x.stamp, .int .i64 x.born] 61))
          have HG := Lib.hid (xgood_any (wr.alloc (.cells #[.int .u64 x.id.hi, .int .u64 x.id.lo, .int .u64 x.debit.hi, .int .u64 x.debit.lo, .int .u64 x.credit.hi, .int .u64 x.credit.lo, .int .u64 x.amount.hi, .int .u64 x.amount.lo, .int .u64 x.pending.hi, .int .u64 x.pending.lo, .int .i64 x.timeout, .int .i64 x.ledger, .int .i64 x.code, .int .i64 x.flags, .int .i64 x.stamp, .int .i64 x.born] 61)) x)
          obtain ⟨gd, hgd⟩ : ∃ gd, x.good = gd := ⟨_, rfl⟩
          rw [hgd, show x.val = .agg #[.int .u64 x.id.hi, .int .u64 x.id.lo, .int .u64 x.debit.hi, .int .u64 x.debit.lo, .int .u64 x.credit.hi, .int .u64 x.credit.lo, .int .u64 x.amount.hi, .int .u64 x.amount.lo, .int .u64 x.pending.hi, .int .u64 x.pending.lo, .int .i64 x.timeout, .int .i64 x.ledger, .int .i64 x.code, .int .i64 x.flags, .int .i64 x.stamp, .int .i64 x.born] from rfl] at HG
          have HGd := Lib.hid hgd
          have w1 : IntKind.i64.wrap ((k : Int) + 1) = k + 1 := IntWalk.i64_in _ (by omega)
          have HXe := Lib.hid hx
          clear hall hf hx hgd
          cases gd
          · have HV := Lib.hid (show R = false from HV0.out.trans (all_false hkl rfl (by rw [HXe.out]; exact HGd.out)))
            go_wp2_with (first
              | ((with_reducible refine wpList_load_mid_w ?lw 61 _ rfl b (off + k * 16) rfl #[.int .u64 x.id.hi, .int .u64 x.id.lo, .int .u64 x.debit.hi, .int .u64 x.debit.lo, .int .u64 x.credit.hi, .int .u64 x.credit.lo, .int .u64 x.amount.hi, .int .u64 x.amount.lo, .int .u64 x.pending.hi, .int .u64 x.pending.lo, .int .i64 x.timeout, .int .i64 x.ledger, .int .i64 x.code, .int .i64 x.flags, .int .i64 x.stamp, .int .i64 x.born] _ HRg.out Try.underlying61 rfl rfl ?_); (case lw => rfl))
              | ((with_reducible refine wpList_load_row_w ?lw 61 _ rfl wr.heap.size rfl 61 _ _ _ HBk.out Try.underlying61 rfl rfl ?_); (case lw => rfl))
              | (go_at_call 35; go_must (with_reducible refine HG.out.mono ?_); rintro e w2 ⟨rfl, f2⟩; have F3 := Lib.hid f2; clear f2))
            go_ret
            exact ⟨by rw [HV.out]; rfl, (HF.out.then_ FA.out (fun _ h => h.elim)).then_ F3.out (fun _ h => h.elim)⟩
          · have HS := Lib.hid (show (lt.take (k + 1)).all Tx.good = true from by rw [HX.out, HAll.out, HGd.out]; rfl)
            go_wp2_with (first
              | ((with_reducible refine wpList_load_mid_w ?lw 61 _ rfl b (off + k * 16) rfl #[.int .u64 x.id.hi, .int .u64 x.id.lo, .int .u64 x.debit.hi, .int .u64 x.debit.lo, .int .u64 x.credit.hi, .int .u64 x.credit.lo, .int .u64 x.amount.hi, .int .u64 x.amount.lo, .int .u64 x.pending.hi, .int .u64 x.pending.lo, .int .i64 x.timeout, .int .i64 x.ledger, .int .i64 x.code, .int .i64 x.flags, .int .i64 x.stamp, .int .i64 x.born] _ HRg.out Try.underlying61 rfl rfl ?_); (case lw => rfl))
              | ((with_reducible refine wpList_load_row_w ?lw 61 _ rfl wr.heap.size rfl 61 _ _ _ HBk.out Try.underlying61 rfl rfl ?_); (case lw => rfl))
              | (go_at_call 35; go_must (with_reducible refine HG.out.mono ?_); rintro e w2 ⟨rfl, f2⟩; have F3 := Lib.hid f2; clear f2))
            go_roundw
            case rel => exact ⟨k + 1, by omega, by go_num, HS.out, (HF.out.then_ FA.out (fun _ h => h.elim)).then_ F3.out (fun _ h => h.elim)⟩
            case measure => simp [intOf]; omega
        · have hltI : ¬ (k : Int) < n2 := by omega
          have HV := Lib.hid (show R = true from HV0.out.trans (by have e : lt.take k = lt := List.take_of_length_le (by have := HN2.out; omega); rw [e] at hall; exact hall))
          clear hall hf
          go_wp2_with fail
          go_ret
          exact ⟨by rw [HV.out]; rfl, HF.out⟩
    · have HV := Lib.hid (show R = true from HV0.out)
      go_wp2_with fail
      go_ret
      exact ⟨by rw [HV.out]; rfl, F2.out⟩
    · have HV := Lib.hid (show R = true from by
        simp only [beq_eq_false_iff_ne, ne_eq] at o1 o2
        rw [HV0.out, if_neg o1, if_neg o2]; rfl)
      go_wp2_with fail
      go_ret
      exact ⟨by rw [HV.out]; rfl, F2.out⟩
end Go.Proofs.Ytfmcimngogibkaa
