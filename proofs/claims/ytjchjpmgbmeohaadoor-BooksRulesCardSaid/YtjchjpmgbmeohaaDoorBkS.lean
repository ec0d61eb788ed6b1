/- Books: what the laws' alive asks. -/
import Derived.Test.YtjchjpmgbmeohaaDoorBkR
import Derived.Test.YtjchjpmgbmeohaaDoorBkJ
set_option linter.unusedSimpArgs false
set_option linter.unusedVariables false
namespace Go.Proofs.YtjchjpmgbmeohaaDoor
open Go.RowKit

theorem most_lt {w : World} (h : Most w) : 0 < w.heap.size := World.block_lt_of_cell? w _ h.hi
def one15 : Nm := ⟨0, 1⟩
def ac15 (s : Int) : Acc := ⟨⟨0, 1⟩, ⟨0, 0⟩, ⟨0, 0⟩, ⟨0, 0⟩, ⟨0, 0⟩, 0, 0, 2, s⟩
theorem ac15_ok : (ac15 1).ok := by
  refine ⟨⟨?_, ?_, ?_, ?_⟩, ⟨?_, ?_, ?_, ?_⟩, ⟨?_, ?_, ?_, ?_⟩, ⟨?_, ?_, ?_, ?_⟩, ⟨?_, ?_, ?_, ?_⟩, ?_, ?_, ?_, ?_⟩ <;> decide
theorem ac15_r : moreR (ac15 1) true one15 = 33 := by kernel_rfl
set_option maxRecDepth 4000 in
set_option maxHeartbeats 3200000 in
theorem alive15_any (w : World) (hm : Most w) : Calls Tryd.prog 9 #[] w fun e w' => e = .returned (.bool true) ∧ Fr (fun _ => False) w w' := by
  have HM := Lib.hid hm
  have HML := Lib.hid (most_lt hm)
  clear hm
  go_enter Tryd.func9, Tryd.ntmps9
  go_wp2_with fail
  refine (newS w).mono ?_
  rintro e w1 ⟨lab, d, rfl, h1, hl1, f1⟩
  have HO := Lib.hid (show Calls Tryd.prog 16 #[.pointer (some ⟨d.B, 0, none⟩), .agg #[.int .u64 0, .int .u64 1, .int .u64 0, .int .u64 0, .int .u64 0, .int .u64 0, .int .u64 0, .int .u64 0, .int .u64 0, .int .u64 0, .int .i64 0, .int .i64 0, .int .i64 2, .int .i64 0]] w1 (OpenPost w1 lab d Raw.empty [] 0 (ac15 0)) from openS w1 lab d Raw.empty [] 0 (ac15 0) h1 (by omega) (by decide) (by decide) (by decide))
  have F1 := Lib.hid f1
  have Hl1 := Lib.hid hl1
  clear h1 hl1 f1
  go_wp2_with fail
  refine HO.out.mono ?_
  rintro e w2 ⟨c, lab2, r2, es2, rfl, ho, h2, p2⟩
  have F2 := Lib.hid (F1.out.then_ p2.fr (fun k hk => .inr (Hl1.out k hk.1)))
  have hr : c = 0 ∧ r2.accs.length ≤ 1000000 ∧ acctR r2 one15 = some (ac15 1) := by
    cases ho with
    | full g => exact absurd g (by decide)
    | there g g2 => exact absurd g2 (by decide)
    | done g g2 b1 b2 b3 b4 b5 => exact ⟨rfl, by show ([] ++ [_]).length ≤ _; simp, by show (upd _ _ _ _).bind _ = _; rw [show (ac15 0).id = one15 from rfl, upd_self]; rfl⟩
  obtain ⟨rfl, hlen, hfind⟩ := hr
  have HA := acctS w2 lab2 d r2 es2 _ one15 h2 hlen
  rw [hfind] at HA
  have HAc := Lib.hid (show Calls Tryd.prog 32 #[.pointer (some ⟨d.B, 0, none⟩), .agg #[.int .u64 0, .int .u64 1]] w2 fun e w' => e = .returned (.tuple #[.agg #[.int .u64 0, .int .u64 1, .int .u64 0, .int .u64 0, .int .u64 0, .int .u64 0, .int .u64 0, .int .u64 0, .int .u64 0, .int .u64 0, .int .i64 0, .int .i64 0, .int .i64 2, .int .i64 1], .bool true]) ∧ Fr (fun _ => False) w2 w' from HA)
  clear ho h2 p2 hlen hfind HA
  go_wp2_with fail
  refine HAc.out.mono ?_
  rintro e w3 ⟨rfl, f3⟩
  have F3 := Lib.hid ((F2.out.then_ f3 (fun _ h => h.elim)).alloc (.cells #[.int .u64 0, .int .u64 1, .int .u64 0, .int .u64 0, .int .u64 0, .int .u64 0, .int .u64 0, .int .u64 0, .int .u64 0, .int .u64 0, .int .i64 0, .int .i64 0, .int .i64 2, .int .i64 1] 26))
  have BA := Lib.hid (heap_alloc_new w3 (.cells #[.int .u64 0, .int .u64 1, .int .u64 0, .int .u64 0, .int .u64 0, .int .u64 0, .int .u64 0, .int .u64 0, .int .u64 0, .int .u64 0, .int .i64 0, .int .i64 0, .int .i64 2, .int .i64 1] 26))
  have HD := Debit_any (w3.alloc (.cells #[.int .u64 0, .int .u64 1, .int .u64 0, .int .u64 0, .int .u64 0, .int .u64 0, .int .u64 0, .int .u64 0, .int .u64 0, .int .u64 0, .int .i64 0, .int .i64 0, .int .i64 2, .int .i64 1] 26)) (ac15 1) one15 false ac15_ok ⟨by decide, by decide, by decide, by decide⟩ (HM.out.fr F3.out (fun h => h))
  rw [ac15_r] at HD
  rw [show moreA (ac15 1) true one15 false = ac15 1 from by kernel_rfl] at HD
  have HDb := Lib.hid (show Calls Tryd.prog 11 #[.agg #[.int .u64 0, .int .u64 1, .int .u64 0, .int .u64 0, .int .u64 0, .int .u64 0, .int .u64 0, .int .u64 0, .int .u64 0, .int .u64 0, .int .i64 0, .int .i64 0, .int .i64 2, .int .i64 1], .agg #[.int .u64 0, .int .u64 1], .bool false] (w3.alloc (.cells #[.int .u64 0, .int .u64 1, .int .u64 0, .int .u64 0, .int .u64 0, .int .u64 0, .int .u64 0, .int .u64 0, .int .u64 0, .int .u64 0, .int .i64 0, .int .i64 0, .int .i64 2, .int .i64 1] 26)) fun e w' => e = .returned (.tuple #[.agg #[.int .u64 0, .int .u64 1, .int .u64 0, .int .u64 0, .int .u64 0, .int .u64 0, .int .u64 0, .int .u64 0, .int .u64 0, .int .u64 0, .int .i64 0, .int .i64 0, .int .i64 2, .int .i64 1], .int .i64 33]) ∧ Fr (fun _ => False) (w3.alloc (.cells #[.int .u64 0, .int .u64 1, .int .u64 0, .int .u64 0, .int .u64 0, .int .u64 0, .int .u64 0, .int .u64 0, .int .u64 0, .int .u64 0, .int .i64 0, .int .i64 0, .int .i64 2, .int .i64 1] 26)) w' from HD)
  clear f3 HD
  go_wp2_with (first | ((with_reducible refine wpList_load_row_w ?lw 26 _ rfl w3.heap.size rfl 26 _ _ _ BA.out Tryd.underlying26 rfl rfl ?_); (case lw => rfl)) | fail)
  refine HDb.out.mono ?_
  rintro e w4 ⟨rfl, f4⟩
  have F4 := Lib.hid ((F3.out.then_ f4 (fun _ h => h.elim)).alloc (.cells #[.int .u64 0, .int .u64 1, .int .u64 0, .int .u64 0, .int .u64 0, .int .u64 0, .int .u64 0, .int .u64 0, .int .u64 0, .int .u64 0, .int .i64 0, .int .i64 0, .int .i64 2, .int .i64 1] 26))
  have m13 := blk_cell (blk_alloc (f4.blk BA.out (fun h => h)) (.cells #[.int .u64 0, .int .u64 1, .int .u64 0, .int .u64 0, .int .u64 0, .int .u64 0, .int .u64 0, .int .u64 0, .int .u64 0, .int .u64 0, .int .i64 0, .int .i64 0, .int .i64 2, .int .i64 1] 26)) 13 rfl
  clear f4
  go_wp2_with fail
  go_ret
  exact ⟨rfl, F4.out⟩
end Go.Proofs.YtjchjpmgbmeohaaDoor
