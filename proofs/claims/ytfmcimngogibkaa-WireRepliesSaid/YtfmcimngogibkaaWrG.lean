/- The writers of accounts and transfers. -/
import Derived.Test.YtfmcimngogibkaaWrF
import Derived.Test.YtfmcimngogibkaaLoadEq
set_option linter.unusedSimpArgs false
set_option linter.unusedVariables false
namespace Go.Proofs.Ytfmcimngogibkaa
open Go.RowKit

/-- A writer that was there, or was made, since w0; it touches none of N's blocks. -/
def Wr (w0 : World) (S0 N : Nat → Prop) (w : World) (g : Nat) (l : List Int) : Prop :=
  ∃ S, IsW w S g l ∧ (∀ k, S k → (S0 k ∨ w0.heap.size ≤ k) ∧ ¬ N k) ∧ Fr S0 w0 w ∧ ∀ k, N k → k < w.heap.size
/-- N's blocks are as they were. -/
def Kp (N : Nat → Prop) (w w' : World) : Prop := ∀ k, N k → w'.heap[k]? = w.heap[k]?
section
variable {w0 w w' w2 : World} {S0 N S : Nat → Prop} {g : Nat} {l l2 : List Int}
theorem Kp.refl : Kp N w w := fun _ _ => rfl
theorem Kp.then_ (h : Kp N w w') (h2 : Kp N w' w2) : Kp N w w2 := fun k hk => (h2 k hk).trans (h k hk)
theorem Kp.of_fr (h : Fr (fun _ => False) w w') (hn : ∀ k, N k → k < w.heap.size) : Kp N w w' := fun k hk => h.block k (hn k hk) (fun h => h)
theorem Wr.next (hs : ∀ k, S k → (S0 k ∨ w0.heap.size ≤ k) ∧ ¬ N k) (hf : Fr S0 w0 w) (hn : ∀ k, N k → k < w.heap.size) (h2 : IsW w' (Gro S w w') g l2) (f2 : Fr S w w') : Wr w0 S0 N w' g l2 ∧ Kp N w w' := by
  have s1 := hf.size
  refine ⟨⟨Gro S w w', h2, fun k hk => hk.elim (hs k) (fun h => ⟨.inr (by omega), fun hN => by have := hn k hN; omega⟩), hf.then_ f2 (fun k hk => (hs k hk).1), fun k hk => Nat.lt_of_lt_of_le (hn k hk) f2.size⟩, fun k hk => f2.block k (hn k hk) (fun h => (hs k h).2 hk)⟩
theorem Wr.keep (h : Wr w0 S0 N w g l) (f : Fr (fun _ => False) w w') : Wr w0 S0 N w' g l := by
  obtain ⟨S, hw, hs, hf, hn⟩ := h
  exact ⟨S, isW_fr hw f (fun _ _ h => h), hs, hf.then_ f (fun _ h => h.elim), fun k hk => Nat.lt_of_lt_of_le (hn k hk) f.size⟩
theorem Wr.fr (h : Wr w0 S0 N w g l) : Fr S0 w0 w := by obtain ⟨S, _, _, hf, _⟩ := h; exact hf
theorem Wr.lt (h : Wr w0 S0 N w g l) {k : Nat} (hk : N k) : k < w.heap.size := by obtain ⟨S, _, _, _, hn⟩ := h; exact hn k hk
/-- One call of a writer. -/
theorem Wr.call {P : Program} {f : FuncId} {args : Array Value} {e0 : Ending} (h : Wr w0 S0 N w g l)
    (hc : ∀ S, IsW w S g l → Calls P f args w fun e w' => e = e0 ∧ IsW w' (Gro S w w') g l2 ∧ Fr S w w') : Calls P f args w fun e w' => e = e0 ∧ Wr w0 S0 N w' g l2 ∧ Kp N w w' := by
  obtain ⟨S, hw, hs, hf, hn⟩ := h
  refine (hc S hw).mono ?_
  rintro e w' ⟨rfl, h2, f2⟩
  exact ⟨rfl, Wr.next hs hf hn h2 f2⟩
/-- One more block that it keeps off. -/
theorem Wr.off (h : Wr w0 S0 N w g l) {b : Nat} (hb : w.heap.size ≤ b) (f : Fr (fun _ => False) w w') (hb2 : b < w'.heap.size) : Wr w0 S0 (fun k => N k ∨ k = b) w' g l := by
  obtain ⟨S, ⟨v, hbk, ho, hg, hv⟩, hs, hf, hn⟩ := h
  have hgl := blk_lt hbk
  refine ⟨fun k => k = g ∨ v.ownBlock = some k, ⟨v, f.blk hbk (fun h => h), own_fr ho f (fun _ _ h => h), .inl rfl, fun k hk => ⟨.inr hk, (hv k hk).2⟩⟩, fun k hk => ?_, hf.then_ f (fun _ h => h.elim), fun k hk => ?_⟩
  · have hSk : S k ∧ k < w.heap.size := by
      rcases hk with rfl | hk
      · exact ⟨hg, hgl⟩
      · exact ⟨(hv k hk).1, own_lt ho hk⟩
    refine ⟨(hs k hSk.1).1, fun h => ?_⟩
    rcases h with h | h
    · exact (hs k hSk.1).2 h
    · omega
  · rcases hk with h | h
    · exact Nat.lt_of_lt_of_le (hn k h) f.size
    · omega
theorem Wr.weak {N2 : Nat → Prop} (h : Wr w0 S0 N w g l) (hN : ∀ k, N2 k → N k) : Wr w0 S0 N2 w g l := by
  obtain ⟨S, hw, hs, hf, hn⟩ := h
  exact ⟨S, hw, fun k hk => ⟨(hs k hk).1, fun h => (hs k hk).2 (hN k h)⟩, hf, fun k hk => hn k (hN k hk)⟩
end
theorem take_flat {α : Type} {f : α → List Int} {l : List α} {k : Nat} (hk : k < l.length) {x : α} (hx : l[k] = x) : (l.take (k + 1)).flatMap f = (l.take k).flatMap f ++ f x := by
  rw [List.take_succ_eq_append_getElem hk, List.flatMap_append, hx]; simp
theorem flat_take_len {α : Type} {f : α → List Int} {sz : Nat} (hf : ∀ x, (f x).length = sz) (l : List α) (k : Nat) (hk : k ≤ l.length) : ((l.take k).flatMap f).length = k * sz := by
  induction k with
  | zero => simp
  | succ k ih => rw [take_flat (by omega) rfl, List.length_append, hf, ih (by omega), Nat.succ_mul]
attribute [-go_sem] loadCells

set_option maxRecDepth 4000 in
set_option maxHeartbeats 3200000 in
theorem wAccs_any (w0 w : World) (S0 N : Nat → Prop) (g : Nat) (l : List Int) (a1 : Option Addr) (n1 c1 : Nat) (la : List Acc) (h : Wr w0 S0 N w g l) (hl : l.length + 300000 ≤ 140737488355328) (hn : la.length = n1) (hb : n1 ≤ 1000)
    (hr : Row w0 a1 (la.flatMap Acc.cells)) (hd : ∀ b, a1 = some b → ¬ S0 b.block) (hg : la.all Acc.good = true) :
    Calls Try.prog 27 #[.pointer (some ⟨g, 0, none⟩), .slice a1 n1 c1] w fun e w' => e = .returned (.tuple #[]) ∧ Wr w0 S0 N w' g (l ++ bytesOf n1 1 ++ la.flatMap Acc.bytes) ∧ Kp N w w' := by
  have HI := Lib.hid (Wr.call h (fun S hw => by have h := wInt_any w S g l 1 n1 hw (by omega); rwa [show clamp 1 = 1 from rfl] at h))
  have HR := Lib.hid hr
  have HD := Lib.hid hd
  have HG := Lib.hid hg
  have HN := Lib.hid hn
  clear h hr hd hg hn
  go_enter Try.func27, Try.ntmps27
  go_wp2_with fail
  refine HI.out.mono ?_
  rintro e w1 ⟨rfl, h1, k1⟩
  have H1 := Lib.hid h1
  have K1 := Lib.hid k1
  clear h1 k1
  go_wp2_with fail
  go_loopw [14] (fun i wr => ∃ k : Nat, k ≤ n1 ∧ i = .int .i64 k ∧ Wr w0 S0 N wr g (l ++ bytesOf n1 1 ++ (la.take k).flatMap Acc.bytes) ∧ Kp N w wr) (fun i _ => ((n1 : Int) - intOf i).toNat)
  case atStart => exact ⟨0, Nat.zero_le _, rfl, by simpa using H1.out, K1.out⟩
  case round =>
    obtain ⟨k, hk, rfl, hw, hkp⟩ := hrel
    have HW := Lib.hid hw
    have HK := Lib.hid hkp
    by_cases hlt : k < n1
    · have hltI : (k : Int) < n1 := by omega
      have hkl : k < la.length := by rw [HN.out]; exact hlt
      obtain ⟨b, off, rfl, HRg⟩ := rowAcc (HR.out.fr hw.fr HD.out) hkl
      have hbl : b < wr.heap.size := World.block_lt_of_cell? _ _ (HRg 0 _ rfl)
      obtain ⟨x, hx⟩ : ∃ x, la[k] = x := ⟨_, rfl⟩
      rw [hx] at HRg
      have HX := Lib.hid (take_flat (f := Acc.bytes) hkl hx)
      have HGd := Lib.hid (show x.good = true from (List.all_eq_true.1 HG.out) x (hx ▸ List.getElem_mem hkl))
      have HRg := Lib.hid (show wr.rangeAt b (off + k * 14) (#[.int .u64 x.id.hi, .int .u64 x.id.lo, .int .u64 x.dp.hi, .int .u64 x.dp.lo, .int .u64 x.dq.hi, .int .u64 x.dq.lo, .int .u64 x.cp.hi, .int .u64 x.cp.lo, .int .u64 x.cq.hi, .int .u64 x.cq.lo, .int .i64 x.ledger, .int .i64 x.code, .int .i64 x.flags, .int .i64 x.stamp] : Array Value).toList from HRg)
      have HBk := Lib.hid (heap_alloc_new wr (.cells #[.int .u64 x.id.hi, .int .u64 x.id.lo, .int .u64 x.dp.hi, .int .u64 x.dp.lo, .int .u64 x.dq.hi, .int .u64 x.dq.lo, .int .u64 x.cp.hi, .int .u64 x.cp.lo, .int .u64 x.cq.hi, .int .u64 x.cq.lo, .int .i64 x.ledger, .int .i64 x.code, .int .i64 x.flags, .int .i64 x.stamp] 58))
      have FA := Lib.hid ((Fr.refl (fun _ => False) wr).alloc (.cells #[.int .u64 x.id.hi, .int .u64 x.id.lo, .int .u64 x.dp.hi, .int .u64 x.dp.lo, .int .u64 x.dq.hi, .int .u64 x.dq.lo, .int .u64 x.cp.hi, .int .u64 x.cp.lo, .int .u64 x.cq.hi, .int .u64 x.cq.lo, .int .i64 x.ledger, .int .i64 x.code, .int .i64 x.flags, .int .i64 x.stamp] 58))
      have hlen := flat_take_len (f := Acc.bytes) (sz := 96) Acc.bytes_len la k (by omega)
      have HL := Lib.hid (show (l ++ bytesOf n1 1 ++ (la.take k).flatMap Acc.bytes).length + 1000 ≤ 140737488355328 from by rw [List.length_append, List.length_append, blen, hlen]; omega)
      have HP := Lib.hid (fun W (f : Fr (fun _ => False) (wr.alloc (.cells #[.int .u64 x.id.hi, .int .u64 x.id.lo, .int .u64 x.dp.hi, .int .u64 x.dp.lo, .int .u64 x.dq.hi, .int .u64 x.dq.lo, .int .u64 x.cp.hi, .int .u64 x.cp.lo, .int .u64 x.cq.hi, .int .u64 x.cq.lo, .int .i64 x.ledger, .int .i64 x.code, .int .i64 x.flags, .int .i64 x.stamp] 58)) W) => Wr.call ((HW.out.off (b := wr.heap.size) (Nat.le_refl _) FA.out (blk_lt HBk.out)).keep f) (fun S hw => by have h := putRec_any W S g _ x hw HL.out; rw [if_pos HGd.out, show x.val = .agg #[.int .u64 x.id.hi, .int .u64 x.id.lo, .int .u64 x.dp.hi, .int .u64 x.dp.lo, .int .u64 x.dq.hi, .int .u64 x.dq.lo, .int .u64 x.cp.hi, .int .u64 x.cp.lo, .int .u64 x.cq.hi, .int .u64 x.cq.lo, .int .i64 x.ledger, .int .i64 x.code, .int .i64 x.flags, .int .i64 x.stamp] from rfl] at h; exact h))
      have HNl := Lib.hid (show ∀ k, N k → k < wr.heap.size from fun k hk => HW.out.lt hk)
      have w1 : IntKind.i64.wrap ((k : Int) + 1) = k + 1 := IntWalk.i64_in _ (by omega)
      clear hw hkp hx hlen
      go_upto_region 4 with ((with_reducible refine wpList_load_mid_w ?lw 58 _ rfl b (off + k * 14) rfl #[.int .u64 x.id.hi, .int .u64 x.id.lo, .int .u64 x.dp.hi, .int .u64 x.dp.lo, .int .u64 x.dq.hi, .int .u64 x.dq.lo, .int .u64 x.cp.hi, .int .u64 x.cp.lo, .int .u64 x.cq.hi, .int .u64 x.cq.lo, .int .i64 x.ledger, .int .i64 x.code, .int .i64 x.flags, .int .i64 x.stamp] _ HRg.out Try.underlying58 rfl rfl ?_); (case lw => rfl))
      go_region_held3 (fun w' => (loadCells ⟨wr.heap.size, 0, none⟩ 14).run Try.prog w' = .ok #[Value.int .u64 x.id.hi, Value.int .u64 x.id.lo, Value.int .u64 x.dp.hi, Value.int .u64 x.dp.lo, Value.int .u64 x.dq.hi, Value.int .u64 x.dq.lo, Value.int .u64 x.cp.hi, Value.int .u64 x.cp.lo, Value.int .u64 x.cq.hi, Value.int .u64 x.cq.lo, Value.int .i64 x.ledger, Value.int .i64 x.code, Value.int .i64 x.flags, Value.int .i64 x.stamp] w')
        (first | exact ld_row _ _ rfl HBk.out | exact ld_row _ _ rfl HB2.out | go_keep)
        (first
          | (go_at_call 54; go_must (with_reducible refine (HP.out _ (by repeat (first | (with_reducible exact Fr.refl _ _) | (with_reducible refine Fr.drew ?_) | (with_reducible refine Fr.drewN ?_ _) | (with_reducible refine Fr.alloc ?_ _) | (with_reducible refine Fr.set1 ?_ _) | (with_reducible refine Fr.setNew ?_ (by omega) _)))).mono ?_); rintro e w2 ⟨rfl, h2, k2⟩; have H2 := Lib.hid (h2.weak (N2 := N) (fun _ h => .inl h)); have HB2 := Lib.hid ((k2 _ (.inr rfl)).trans (blk_drew HBk.out)); have K2 := Lib.hid (show Kp N _ w2 from fun k hk => k2 k (.inl hk)); clear h2 k2))
      go_wp2_with fail
      go_roundw
      case rel =>
        refine ⟨k + 1, by omega, by go_num, by rw [HX.out, ← List.append_assoc]; exact H2.out, HK.out.then_ ((Kp.of_fr (show Fr (fun _ => False) wr _ from by repeat (first | (with_reducible exact Fr.refl _ _) | (with_reducible refine Fr.drew ?_) | (with_reducible refine Fr.drewN ?_ _) | (with_reducible refine Fr.alloc ?_ _) | (with_reducible refine Fr.set1 ?_ _) | (with_reducible refine Fr.setNew ?_ (by omega) _))) HNl.out).then_ K2.out)⟩
      case measure => simp [intOf]; omega
    · have hltI : ¬ (k : Int) < n1 := by omega
      have e : la.take k = la := List.take_of_length_le (by have := HN.out; omega)
      rw [e] at HW
      clear hw hkp e
      go_wp2_with fail
      go_end0
      exact ⟨rfl, by have h := HW.out; simpa [List.append_assoc] using h, HK.out⟩

set_option maxRecDepth 4000 in
set_option maxHeartbeats 3200000 in
theorem wTxs_any (w0 w : World) (S0 N : Nat → Prop) (g : Nat) (l : List Int) (a1 : Option Addr) (n1 c1 : Nat) (la : List Tx) (h : Wr w0 S0 N w g l) (hl : l.length + 300000 ≤ 140737488355328) (hn : la.length = n1) (hb : n1 ≤ 1000)
    (hr : Row w0 a1 (la.flatMap Tx.cells)) (hd : ∀ b, a1 = some b → ¬ S0 b.block) (hg : la.all Tx.good = true) :
    Calls Try.prog 28 #[.pointer (some ⟨g, 0, none⟩), .slice a1 n1 c1] w fun e w' => e = .returned (.tuple #[]) ∧ Wr w0 S0 N w' g (l ++ bytesOf n1 1 ++ la.flatMap Tx.bytes) ∧ Kp N w w' := by
  have HI := Lib.hid (Wr.call h (fun S hw => by have h := wInt_any w S g l 1 n1 hw (by omega); rwa [show clamp 1 = 1 from rfl] at h))
  have HR := Lib.hid hr
  have HD := Lib.hid hd
  have HG := Lib.hid hg
  have HN := Lib.hid hn
  clear h hr hd hg hn
  go_enter Try.func28, Try.ntmps28
  go_wp2_with fail
  refine HI.out.mono ?_
  rintro e w1 ⟨rfl, h1, k1⟩
  have H1 := Lib.hid h1
  have K1 := Lib.hid k1
  clear h1 k1
  go_wp2_with fail
  go_loopw [14] (fun i wr => ∃ k : Nat, k ≤ n1 ∧ i = .int .i64 k ∧ Wr w0 S0 N wr g (l ++ bytesOf n1 1 ++ (la.take k).flatMap Tx.bytes) ∧ Kp N w wr) (fun i _ => ((n1 : Int) - intOf i).toNat)
  case atStart => exact ⟨0, Nat.zero_le _, rfl, by simpa using H1.out, K1.out⟩
  case round =>
    obtain ⟨k, hk, rfl, hw, hkp⟩ := hrel
    have HW := Lib.hid hw
    have HK := Lib.hid hkp
    by_cases hlt : k < n1
    · have hltI : (k : Int) < n1 := by omega
      have hkl : k < la.length := by rw [HN.out]; exact hlt
      obtain ⟨b, off, rfl, HRg⟩ := rowTx (HR.out.fr hw.fr HD.out) hkl
      have hbl : b < wr.heap.size := World.block_lt_of_cell? _ _ (HRg 0 _ rfl)
      obtain ⟨x, hx⟩ : ∃ x, la[k] = x := ⟨_, rfl⟩
      rw [hx] at HRg
      have HX := Lib.hid (take_flat (f := Tx.bytes) hkl hx)
      have HGd := Lib.hid (show x.good = true from (List.all_eq_true.1 HG.out) x (hx ▸ List.getElem_mem hkl))
      have HRg := Lib.hid (show wr.rangeAt b (off + k * 16) (#[.int .u64 x.id.hi, .int .u64 x.id.lo, .int .u64 x.debit.hi, .int .u64 x.debit.lo, .int .u64 x.credit.hi, .int .u64 x.credit.lo, .int .u64 x.amount.hi, .int .u64 x.amount.lo, .int .u64 x.pending.hi, .int .u64 x.pending.lo, .int .i64 x.timeout, .int .i64 x.ledger, .int .i64 x.code, .int .i64 x.flags, .int .i64 x.stamp, .int .i64 x.born] : Array Value).toList from HRg)
      have HBk := Lib.hid (heap_alloc_new wr (.cells #[.int .u64 x.id.hi, .int .u64 x.id.lo, .int .u64 x.debit.hi, .int .u64 x.debit.lo, .int .u64 x.credit.hi, .int .u64 x.credit.lo, .int .u64 x.amount.hi, .int .u64 x.amount.lo, .int .u64 x.pending.hi, .int .u64 x.pending.lo, .int .i64 x.timeout, .int .i64 x.ledger, .int .i64 x.code, .int .i64 x.flags, .int .i64 x.stamp, .int .i64 x.born] 61))
      have FA := Lib.hid ((Fr.refl (fun _ => False) wr).alloc (.cells #[.int .u64 x.id.hi, .int .u64 x.id.lo, .int .u64 x.debit.hi, .int .u64 x.debit.lo, .int .u64 x.credit.hi, .int .u64 x.credit.lo, .int .u64 x.amount.hi, .int .u64 x.amount.lo, .int .u64 x.pending.hi, .int .u64 x.pending.lo, .int .i64 x.timeout, .int .i64 x.ledger, .int .i64 x.code, .int .i64 x.flags, .int .i64 x.stamp, .int .i64 x.born] 61))
      have hlen := flat_take_len (f := Tx.bytes) (sz := 108) Tx.bytes_len la k (by omega)
      have HL := Lib.hid (show (l ++ bytesOf n1 1 ++ (la.take k).flatMap Tx.bytes).length + 1000 ≤ 140737488355328 from by rw [List.length_append, List.length_append, blen, hlen]; omega)
      have HP := Lib.hid (fun W (f : Fr (fun _ => False) (wr.alloc (.cells #[.int .u64 x.id.hi, .int .u64 x.id.lo, .int .u64 x.debit.hi, .int .u64 x.debit.lo, .int .u64 x.credit.hi, .int .u64 x.credit.lo, .int .u64 x.amount.hi, .int .u64 x.amount.lo, .int .u64 x.pending.hi, .int .u64 x.pending.lo, .int .i64 x.timeout, .int .i64 x.ledger, .int .i64 x.code, .int .i64 x.flags, .int .i64 x.stamp, .int .i64 x.born] 61)) W) => Wr.call ((HW.out.off (b := wr.heap.size) (Nat.le_refl _) FA.out (blk_lt HBk.out)).keep f) (fun S hw => by have h := xputRec_any W S g _ x hw HL.out; rw [if_pos HGd.out, show x.val = .agg #[.int .u64 x.id.hi, .int .u64 x.id.lo, .int .u64 x.debit.hi, .int .u64 x.debit.lo, .int .u64 x.credit.hi, .int .u64 x.credit.lo, .int .u64 x.amount.hi, .int .u64 x.amount.lo, .int .u64 x.pending.hi, .int .u64 x.pending.lo, .int .i64 x.timeout, .int .i64 x.ledger, .int .i64 x.code, .int .i64 x.flags, .int .i64 x.stamp, .int .i64 x.born] from rfl] at h; exact h))
      have HNl := Lib.hid (show ∀ k, N k → k < wr.heap.size from fun k hk => HW.out.lt hk)
      have w1 : IntKind.i64.wrap ((k : Int) + 1) = k + 1 := IntWalk.i64_in _ (by omega)
      clear hw hkp hx hlen
      go_upto_region 4 with ((with_reducible refine wpList_load_mid_w ?lw 61 _ rfl b (off + k * 16) rfl #[.int .u64 x.id.hi, .int .u64 x.id.lo, .int .u64 x.debit.hi, .int .u64 x.debit.lo, .int .u64 x.credit.hi, .int .u64 x.credit.lo, .int .u64 x.amount.hi, .int .u64 x.amount.lo, .int .u64 x.pending.hi, .int .u64 x.pending.lo, .int .i64 x.timeout, .int .i64 x.ledger, .int .i64 x.code, .int .i64 x.flags, .int .i64 x.stamp, .int .i64 x.born] _ HRg.out Try.underlying61 rfl rfl ?_); (case lw => rfl))
      go_region_held3 (fun w' => (loadCells ⟨wr.heap.size, 0, none⟩ 16).run Try.prog w' = .ok #[Value.int .u64 x.id.hi, Value.int .u64 x.id.lo, Value.int .u64 x.debit.hi, Value.int .u64 x.debit.lo, Value.int .u64 x.credit.hi, Value.int .u64 x.credit.lo, Value.int .u64 x.amount.hi, Value.int .u64 x.amount.lo, Value.int .u64 x.pending.hi, Value.int .u64 x.pending.lo, Value.int .i64 x.timeout, Value.int .i64 x.ledger, Value.int .i64 x.code, Value.int .i64 x.flags, Value.int .i64 x.stamp, Value.int .i64 x.born] w')
        (first | exact ld_row _ _ rfl HBk.out | exact ld_row _ _ rfl HB2.out | go_keep)
        (first
          | (go_at_call 55; go_must (with_reducible refine (HP.out _ (by repeat (first | (with_reducible exact Fr.refl _ _) | (with_reducible refine Fr.drew ?_) | (with_reducible refine Fr.drewN ?_ _) | (with_reducible refine Fr.alloc ?_ _) | (with_reducible refine Fr.set1 ?_ _) | (with_reducible refine Fr.setNew ?_ (by omega) _)))).mono ?_); rintro e w2 ⟨rfl, h2, k2⟩; have H2 := Lib.hid (h2.weak (N2 := N) (fun _ h => .inl h)); have HB2 := Lib.hid ((k2 _ (.inr rfl)).trans (blk_drew HBk.out)); have K2 := Lib.hid (show Kp N _ w2 from fun k hk => k2 k (.inl hk)); clear h2 k2))
      go_wp2_with fail
      go_roundw
      case rel =>
        refine ⟨k + 1, by omega, by go_num, by rw [HX.out, ← List.append_assoc]; exact H2.out, HK.out.then_ ((Kp.of_fr (show Fr (fun _ => False) wr _ from by repeat (first | (with_reducible exact Fr.refl _ _) | (with_reducible refine Fr.drew ?_) | (with_reducible refine Fr.drewN ?_ _) | (with_reducible refine Fr.alloc ?_ _) | (with_reducible refine Fr.set1 ?_ _) | (with_reducible refine Fr.setNew ?_ (by omega) _))) HNl.out).then_ K2.out)⟩
      case measure => simp [intOf]; omega
    · have hltI : ¬ (k : Int) < n1 := by omega
      have e : la.take k = la := List.take_of_length_le (by have := HN.out; omega)
      rw [e] at HW
      clear hw hkp e
      go_wp2_with fail
      go_end0
      exact ⟨rfl, by have h := HW.out; simpa [List.append_assoc] using h, HK.out⟩
end Go.Proofs.Ytfmcimngogibkaa
