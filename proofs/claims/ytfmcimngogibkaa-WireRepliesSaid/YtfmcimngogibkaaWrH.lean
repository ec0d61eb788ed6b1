/- The writer of a filter. -/
import Derived.Test.YtfmcimngogibkaaWrG
import Derived.LoopN
import Derived.Deep.RegionHeld3
set_option linter.unusedSimpArgs false
set_option linter.unusedVariables false
namespace Go.Proofs.Ytfmcimngogibkaa
open Go.RowKit

theorem idx3_0 (W : World) (x0 x1 x2 : Value) : (Instr.index 95 (.agg #[x0, x1, x2]) (.int .i64 0)).run Try.prog W = .ok x0 W := by
  kernel_rfl
theorem idx3_1 (W : World) (x0 x1 x2 : Value) : (Instr.index 95 (.agg #[x0, x1, x2]) (.int .i64 1)).run Try.prog W = .ok x1 W := by
  kernel_rfl
theorem idx3_2 (W : World) (x0 x1 x2 : Value) : (Instr.index 95 (.agg #[x0, x1, x2]) (.int .i64 2)).run Try.prog W = .ok x2 W := by
  kernel_rfl
def flb (b : Bool) : List Int := [if b = true then 1 else 0]
def Flt.bytes (f : Flt) : List Int := wideBytes f.acct.hi f.acct.lo ++ bytesOf f.from_ 8 ++ bytesOf f.upto 8 ++ flb f.deb ++ flb f.cre ++ flb f.lat ++ bytesOf f.lim 1
theorem Flt.bytes_len (f : Flt) : f.bytes.length = 36 := by simp [Flt.bytes, flb, blen, wideBytes_len]

set_option maxRecDepth 4000 in
set_option maxHeartbeats 3200000 in
theorem wFlt_any (w0 w : World) (S0 N : Nat → Prop) (g : Nat) (l : List Int) (f : Flt) (h : Wr w0 S0 N w g l) (hl : l.length + 1000 ≤ 140737488355328) :
    Calls Try.prog 29 #[.pointer (some ⟨g, 0, none⟩), .agg #[.int .u64 f.acct.hi, .int .u64 f.acct.lo, .int .i64 f.from_, .int .i64 f.upto, .bool f.deb, .bool f.cre, .bool f.lat, .int .i64 f.lim]] w fun e w' => e = .returned (.tuple #[]) ∧ Wr w0 S0 N w' g (l ++ f.bytes) ∧ Kp N w w' := by
  have HBk := Lib.hid (heap_alloc_new w (.cells #[.int .u64 f.acct.hi, .int .u64 f.acct.lo, .int .i64 f.from_, .int .i64 f.upto, .bool f.deb, .bool f.cre, .bool f.lat, .int .i64 f.lim] 29))
  have FA := Lib.hid ((Fr.refl (fun _ => False) w).alloc (.cells #[.int .u64 f.acct.hi, .int .u64 f.acct.lo, .int .i64 f.from_, .int .i64 f.upto, .bool f.deb, .bool f.cre, .bool f.lat, .int .i64 f.lim] 29))
  have H0 := Lib.hid (h.off (b := w.heap.size) (Nat.le_refl _) FA.out (blk_lt HBk.out))
  have HNl := Lib.hid (show ∀ k, N k → k < w.heap.size from fun k hk => h.lt hk)
  have HC := Lib.hid (fun (W : World) (L L2 : List Int) (fn : FuncId) (args : Array Value) (hw : Wr w0 S0 (fun k => N k ∨ k = w.heap.size) W g L) (hc : ∀ S, IsW W S g L → Calls Try.prog fn args W fun e w' => e = .returned (.tuple #[]) ∧ IsW w' (Gro S W w') g L2 ∧ Fr S W w') => Wr.call hw hc)
  obtain ⟨fx, fd0, fd1, fd2, fd3, fd4, fd5⟩ := f
  obtain ⟨fhi, flo⟩ := fx
  have q0 := blk_cell HBk.out 0 rfl
  have q1 := blk_cell HBk.out 1 rfl
  clear h
  go_enter Try.func29, Try.ntmps29
  go_upto_region 1 with fail
  go_region_held3 (fun w' => w'.cell? ⟨w.heap.size, 0, none⟩ = some (Value.int .u64 fhi) ∧ w'.cell? ⟨w.heap.size, 1, none⟩ = some (Value.int .u64 flo))
    (first | exact ⟨q0, q1⟩ | go_keep)
    (first
      | (go_at_call 30; go_must (refine (Wr.call (l2 := l ++ wideBytes fhi flo) (H0.out.keep (by repeat (first | (with_reducible exact Fr.refl _ _) | (with_reducible refine Fr.drew ?_) | (with_reducible refine Fr.drewN ?_ _) | (with_reducible refine Fr.alloc ?_ _) | (with_reducible refine Fr.set1 ?_ _) | (with_reducible refine Fr.setNew ?_ (by omega) _)))) (fun S hw => wNum_any _ S g l fhi flo hw (by omega))).mono ?_); rintro e w2 ⟨rfl, h2, k2⟩; have H2 := Lib.hid h2; have HB2 := Lib.hid ((k2 _ (.inr rfl)).trans (blk_drew HBk.out)); have K2 := Lib.hid (show Kp N w w2 from (Kp.of_fr (show Fr (fun _ => False) w _ from by (repeat (first | (with_reducible exact Fr.refl _ _) | (with_reducible refine Fr.drew ?_) | (with_reducible refine Fr.drewN ?_ _) | (with_reducible refine Fr.alloc ?_ _) | (with_reducible refine Fr.set1 ?_ _) | (with_reducible refine Fr.setNew ?_ (by omega) _))) <;> exact FA.out) HNl.out).then_ (fun k hk => k2 k (.inl hk))); have q0 := blk_cell HB2.out 0 rfl; have q1 := blk_cell HB2.out 1 rfl; clear h2 k2))
  clear q0 q1
  go_upto_region 2 with fail
  have q2 := blk_cell HB2.out 2 rfl
  go_region_held3 (fun w' => w'.cell? ⟨w.heap.size, 2, none⟩ = some (Value.int .i64 fd0))
    (first | exact q2 | go_keep)
    (first
      | (go_at_call 26; go_must (refine (Wr.call (l2 := l ++ wideBytes fhi flo ++ bytesOf fd0 8) (H2.out.keep (by repeat (first | (with_reducible exact Fr.refl _ _) | (with_reducible refine Fr.drew ?_) | (with_reducible refine Fr.drewN ?_ _) | (with_reducible refine Fr.alloc ?_ _) | (with_reducible refine Fr.set1 ?_ _) | (with_reducible refine Fr.setNew ?_ (by omega) _)))) (fun S hw => by have h := wInt_any _ S g _ 8 fd0 hw (by simp only [List.length_append, blen, wideBytes_len, flb, List.length_singleton]; omega); rwa [show clamp 8 = 8 from rfl] at h)).mono ?_); rintro e w3 ⟨rfl, h2, k2⟩; have H3 := Lib.hid h2; have HB3 := Lib.hid ((k2 _ (.inr rfl)).trans (blk_drew HB2.out)); have K3 := Lib.hid (K2.out.then_ (show Kp N w2 w3 from fun k hk => k2 k (.inl hk))); have q2 := blk_cell HB3.out 2 rfl; clear h2 k2))
  clear q2
  go_upto_region 3 with fail
  have q3 := blk_cell HB3.out 3 rfl
  go_region_held3 (fun w' => w'.cell? ⟨w.heap.size, 3, none⟩ = some (Value.int .i64 fd1))
    (first | exact q3 | go_keep)
    (first
      | (go_at_call 26; go_must (refine (Wr.call (l2 := l ++ wideBytes fhi flo ++ bytesOf fd0 8 ++ bytesOf fd1 8) (H3.out.keep (by repeat (first | (with_reducible exact Fr.refl _ _) | (with_reducible refine Fr.drew ?_) | (with_reducible refine Fr.drewN ?_ _) | (with_reducible refine Fr.alloc ?_ _) | (with_reducible refine Fr.set1 ?_ _) | (with_reducible refine Fr.setNew ?_ (by omega) _)))) (fun S hw => by have h := wInt_any _ S g _ 8 fd1 hw (by simp only [List.length_append, blen, wideBytes_len, flb, List.length_singleton]; omega); rwa [show clamp 8 = 8 from rfl] at h)).mono ?_); rintro e w4 ⟨rfl, h2, k2⟩; have H4 := Lib.hid h2; have HB4 := Lib.hid ((k2 _ (.inr rfl)).trans (blk_drew HB3.out)); have K4 := Lib.hid (K3.out.then_ (show Kp N w3 w4 from fun k hk => k2 k (.inl hk))); have q3 := blk_cell HB4.out 3 rfl; clear h2 k2))
  clear q3
  have q4 := blk_cell HB4.out 4 rfl
  have q5 := blk_cell HB4.out 5 rfl
  have q6 := blk_cell HB4.out 6 rfl
  go_wp2_with fail
  refine wp_loop_rounds 4 ?_
  clear q4 q5 q6
  rw [rounds_succ]
  have hi := idx3_0
  go_wp2_with fail
  clear hi
  refine (Wr.call (l2 := l ++ wideBytes fhi flo ++ bytesOf fd0 8 ++ bytesOf fd1 8 ++ flb fd2) (H4.out.keep (by repeat (first | (with_reducible exact Fr.refl _ _) | (with_reducible refine Fr.drew ?_) | (with_reducible refine Fr.drewN ?_ _) | (with_reducible refine Fr.alloc ?_ _) | (with_reducible refine Fr.set1 ?_ _) | (with_reducible refine Fr.setNew ?_ (by omega) _)))) (fun S hw => wFlag_any _ S g _ fd2 hw (by simp only [List.length_append, blen, wideBytes_len, flb, List.length_singleton]; omega))).mono ?_
  rintro e w5 ⟨rfl, h2, k2⟩
  have H5 := Lib.hid h2
  have HB5 := Lib.hid ((k2 _ (.inr rfl)).trans (blk_drew HB4.out))
  have K5 := Lib.hid (K4.out.then_ (show Kp N w4 w5 from fun k hk => k2 k (.inl hk)))
  clear h2 k2
  go_wp2_with fail
  rw [rounds_succ]
  have hi := idx3_1
  go_wp2_with fail
  clear hi
  refine (Wr.call (l2 := l ++ wideBytes fhi flo ++ bytesOf fd0 8 ++ bytesOf fd1 8 ++ flb fd2 ++ flb fd3) (H5.out.keep (by repeat (first | (with_reducible exact Fr.refl _ _) | (with_reducible refine Fr.drew ?_) | (with_reducible refine Fr.drewN ?_ _) | (with_reducible refine Fr.alloc ?_ _) | (with_reducible refine Fr.set1 ?_ _) | (with_reducible refine Fr.setNew ?_ (by omega) _)))) (fun S hw => wFlag_any _ S g _ fd3 hw (by simp only [List.length_append, blen, wideBytes_len, flb, List.length_singleton]; omega))).mono ?_
  rintro e w6 ⟨rfl, h2, k2⟩
  have H6 := Lib.hid h2
  have HB6 := Lib.hid ((k2 _ (.inr rfl)).trans (blk_drew HB5.out))
  have K6 := Lib.hid (K5.out.then_ (show Kp N w5 w6 from fun k hk => k2 k (.inl hk)))
  clear h2 k2
  go_wp2_with fail
  rw [rounds_succ]
  have hi := idx3_2
  go_wp2_with fail
  clear hi
  refine (Wr.call (l2 := l ++ wideBytes fhi flo ++ bytesOf fd0 8 ++ bytesOf fd1 8 ++ flb fd2 ++ flb fd3 ++ flb fd4) (H6.out.keep (by repeat (first | (with_reducible exact Fr.refl _ _) | (with_reducible refine Fr.drew ?_) | (with_reducible refine Fr.drewN ?_ _) | (with_reducible refine Fr.alloc ?_ _) | (with_reducible refine Fr.set1 ?_ _) | (with_reducible refine Fr.setNew ?_ (by omega) _)))) (fun S hw => wFlag_any _ S g _ fd4 hw (by simp only [List.length_append, blen, wideBytes_len, flb, List.length_singleton]; omega))).mono ?_
  rintro e w7 ⟨rfl, h2, k2⟩
  have H7 := Lib.hid h2
  have HB7 := Lib.hid ((k2 _ (.inr rfl)).trans (blk_drew HB6.out))
  have K7 := Lib.hid (K6.out.then_ (show Kp N w6 w7 from fun k hk => k2 k (.inl hk)))
  clear h2 k2
  go_wp2_with fail
  rw [rounds_succ]
  go_upto_region 9 with fail
  have q7 := blk_cell HB7.out 7 rfl
  go_region_held3 (fun w' => w'.cell? ⟨w.heap.size, 7, none⟩ = some (Value.int .i64 fd5))
    (first | exact q7 | go_keep)
    (first
      | (go_at_call 26; go_must (refine (Wr.call (l2 := l ++ wideBytes fhi flo ++ bytesOf fd0 8 ++ bytesOf fd1 8 ++ flb fd2 ++ flb fd3 ++ flb fd4 ++ bytesOf fd5 1) (H7.out.keep (by repeat (first | (with_reducible exact Fr.refl _ _) | (with_reducible refine Fr.drew ?_) | (with_reducible refine Fr.drewN ?_ _) | (with_reducible refine Fr.alloc ?_ _) | (with_reducible refine Fr.set1 ?_ _) | (with_reducible refine Fr.setNew ?_ (by omega) _)))) (fun S hw => by have h := wInt_any _ S g _ 1 fd5 hw (by simp only [List.length_append, blen, wideBytes_len, flb, List.length_singleton]; omega); rwa [show clamp 1 = 1 from rfl] at h)).mono ?_); rintro e w8 ⟨rfl, h2, k2⟩; have H8 := Lib.hid h2; have HB8 := Lib.hid ((k2 _ (.inr rfl)).trans (blk_drew HB7.out)); have K8 := Lib.hid (K7.out.then_ (show Kp N w7 w8 from fun k hk => k2 k (.inl hk))); have q7 := blk_cell HB8.out 7 rfl; clear h2 k2))
  clear q7
  go_wp2_with fail
  go_end0
  refine ⟨rfl, ?_, K8.out⟩
  have h := H8.out.weak (N2 := N) (fun _ h => .inl h)
  simpa [Flt.bytes, List.append_assoc] using h
end Go.Proofs.Ytfmcimngogibkaa
