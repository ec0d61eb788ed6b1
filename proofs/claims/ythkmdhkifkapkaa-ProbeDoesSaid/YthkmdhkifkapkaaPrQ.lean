/- Law 11: does, a call on both tables. -/
import Derived.Test.YthkmdhkifkapkaaPrP
import Derived.Deep.RegionHeld3
set_option linter.unusedSimpArgs false
set_option linter.unusedVariables false
namespace Go.Proofs.Ythkmdhkifkapkaa
open Go.RowKit

theorem disj2 {w w2 : World} {S T S2 T2 : Nat → Prop} (hd : ∀ k, S k → ¬ T k) (g2 : ∀ k, S2 k → S k ∨ w.heap.size ≤ k) (l2 : ∀ k, S2 k → k < w2.heap.size) (gt : ∀ k, T2 k → T k ∨ w2.heap.size ≤ k) (lt : ∀ k, T k → k < w.heap.size) : ∀ k, S2 k → ¬ T2 k := fun k hk ht => by
  have h1 := l2 k hk
  rcases gt k ht with h | h
  · rcases g2 k hk with h2 | h2
    · exact hd k h2 h
    · have := lt k h; omega
  · omega
def PK.runS (c : PK) (ss : List Nm) : List Nm := if c.kind = 0 then dputS ss c.key else if c.kind = 1 then ddropS ss c.key else ss
theorem PK.runS_len (c : PK) (ss : List Nm) : (c.runS ss).length ≤ ss.length + 1 := by
  unfold PK.runS
  split
  · exact dputS_len ss c.key
  · split
    · have := ddropS_len ss c.key; omega
    · omega
def DoesPost (S D : Nat → Prop) (T M : Nat) (c : PK) (ss : List Nm) (w : World) (e : Ending) (w' : World) : Prop :=
  e = .returned (.bool true) ∧ ∃ (S' D' : Nat → Prop) (ps' : List PC) (aa' : List Int), IsT w' S' T ps' ∧ IsD w' D' M (c.runS ss) aa' ∧ Both ps' (c.runS ss) aa' ∧ (∀ k, S' k → ¬ D' k) ∧ Fr (fun k => S k ∨ D k) w w' ∧ (∀ k, S' k → S k ∨ w.heap.size ≤ k) ∧ ∀ k, D' k → D k ∨ w.heap.size ≤ k
set_option maxRecDepth 4000 in
set_option maxHeartbeats 6400000 in
theorem does_any (w : World) (S D : Nat → Prop) (T M : Nat) (ps : List PC) (ss : List Nm) (aa : List Int) (c : PK) (h : IsT w S T ps) (hm : IsD w D M ss aa) (hd : ∀ k, S k → ¬ D k) (hn : ss.length ≤ 1000) (hB : Both ps ss aa) :
    Calls Try.prog 12 #[.pointer (some ⟨T, 0, none⟩), .pointer (some ⟨M, 0, none⟩), .agg #[.int .i64 c.kind, .int .u64 c.key.hi, .int .u64 c.key.lo, .int .i64 c.at_]] w (DoesPost S D T M c ss w) := by
  have H := Lib.hid h
  have HM := Lib.hid hm
  have HD := Lib.hid hd
  have HB := Lib.hid hB
  have hbc := heap_alloc_new w (.cells #[.int .i64 c.kind, .int .u64 c.key.hi, .int .u64 c.key.lo, .int .i64 c.at_] 30)
  have Hns := Lib.hid (show ¬ S w.heap.size ∧ ¬ D w.heap.size from ⟨fun h2 => by have := Rw.lt h.is h2; omega, fun h2 => by have := hm.lt h2; omega⟩)
  have q0 := blk_cell hbc 0 rfl
  have q1 := blk_cell hbc 1 rfl
  have q2 := blk_cell hbc 2 rfl
  have q3 := blk_cell hbc 3 rfl
  have Hbc := Lib.hid hbc
  have FA := Lib.hid ((Fr.refl (fun _ => False) w).alloc (.cells #[.int .i64 c.kind, .int .u64 c.key.hi, .int .u64 c.key.lo, .int .i64 c.at_] 30))
  have Hsz := Lib.hid (show (w.alloc (.cells #[.int .i64 c.kind, .int .u64 c.key.hi, .int .u64 c.key.lo, .int .i64 c.at_] 30)).drew.heap.size = w.heap.size + 1 from Array.size_push ..)
  have Hsz1 := Lib.hid (show (w.alloc (.cells #[.int .i64 c.kind, .int .u64 c.key.hi, .int .u64 c.key.lo, .int .i64 c.at_] 30)).heap.size = w.heap.size + 1 from Array.size_push ..)
  have Hl := Lib.hid hB.len
  have Hn := Lib.hid hn
  clear h hm hd hbc hB
  by_cases k0 : c.kind = 0
  · have HRun := Lib.hid (show c.runS ss = dputS ss c.key from if_pos k0)
    have b0 : (c.kind == 0) = true := by simpa using k0
    clear k0
    have HP1 := Lib.hid (fun W h => put_both W S T ps ss aa c.key c.at_ h HB.out hn)
    have HP2 := Lib.hid (fun W h => dput_any W D M ss aa c.key c.at_ h Hl.out hn)
    obtain ⟨q, hq⟩ : ∃ q, (!decide (firstN ss c.key < ss.length)) = q := ⟨_, rfl⟩
    unfold PutB at HP1
    rw [hq] at HP1 HP2
    clear hq
    go_enter Try.func12, Try.ntmps12
    go_wp2_with fail
    go_region_held3 (fun w' => w'.cell? ⟨w.heap.size, 1, none⟩ = some (Value.int .u64 c.key.hi) ∧ w'.cell? ⟨w.heap.size, 2, none⟩ = some (Value.int .u64 c.key.lo) ∧ w'.cell? ⟨w.heap.size, 3, none⟩ = some (Value.int .i64 c.at_))
      (first | exact ⟨q1, q2, q3⟩ | go_keep)
      (first
        | (go_at_call 8; go_must (with_reducible refine (HP1.out _ (IsT.fr (S2 := fun _ => False) H.out (FA.out.then_ (S2 := fun _ => False) (by repeat (first | (with_reducible exact Fr.refl _ _) | (with_reducible refine Fr.drew ?_) | (with_reducible refine Fr.drewN ?_ _) | (with_reducible refine Fr.alloc ?_ _) | (with_reducible refine Fr.set1 ?_ _) | (with_reducible refine Fr.setNew ?_ (by omega) _))) (fun _ h => h.elim)) (fun _ _ h => h))).mono ?_); rintro e w2 ⟨rfl, S2, ps2, o2, b2, f2, g2⟩; have O2 := Lib.hid o2; have B2 := Lib.hid b2; have G2 := Lib.hid g2; have F2 := Lib.hid (show Fr S w w2 from ((FA.out.mono (fun _ h => h.elim)).drew).then_ f2 (fun k hk => .inl hk)); have Hbc2 := Lib.hid (f2.blk (blk_drew Hbc.out) Hns.out.1); have q1 := blk_cell Hbc2.out 1 rfl; have q2 := blk_cell Hbc2.out 2 rfl; have q3 := blk_cell Hbc2.out 3 rfl; clear o2 b2 f2 g2)
        | (go_at_call 16; go_must (with_reducible refine (HP2.out _ (IsD.fr (S2 := S) HM.out F2.out (fun k hk h => absurd hk (HD.out k h)))).mono ?_); rintro e w3 ⟨rfl, D3, m3, f3, g3⟩; have M3 := Lib.hid m3; have F3 := Lib.hid f3; have G3 := Lib.hid g3; have q1 := blk_cell (f3.blk Hbc2.out Hns.out.2) 1 rfl; have q2 := blk_cell (f3.blk Hbc2.out Hns.out.2) 2 rfl; have q3 := blk_cell (f3.blk Hbc2.out Hns.out.2) 3 rfl; clear m3 f3 g3))
    go_wp2_with fail
    go_ret
    have g2' : ∀ k, S2 k → S k ∨ w.heap.size ≤ k := fun k hk => (G2.out k hk).imp id (fun h => by have := Hsz.out; omega)
    have hDl := fun k (hk : D k) => HM.out.lt hk
    refine ⟨?_, S2, D3, ps2, _, IsT.fr (S2 := D) O2.out F3.out (fun k hk ht => ?_), by rw [HRun.out]; exact M3.out, by rw [HRun.out]; exact B2.out, disj2 HD.out g2' (fun k hk => Rw.lt O2.out.is hk) G3.out hDl, (F2.out.mono (fun k hk => .inl hk)).then_ F3.out (fun k hk => .inl (.inr hk)), g2', fun k hk => (G3.out k hk).imp id (fun h => Nat.le_trans F2.out.size h)⟩
    · first | rfl | (cases q <;> rfl) | simp
    · have hlt := HM.out.lt ht
      rcases g2' k hk with h | h
      · exact HD.out k h ht
      · omega
  have k0' := k0
  have b0 : (c.kind == 0) = false := by simpa using k0
  clear k0
  by_cases k1 : c.kind = 1
  · have HRun := Lib.hid (show c.runS ss = ddropS ss c.key from by rw [PK.runS, if_neg k0', if_pos k1])
    clear k0'
    have b1 : (c.kind == 1) = true := by simpa using k1
    clear k1
    have HP1 := Lib.hid (fun W h => drop_both W S T ps ss aa c.key h HB.out)
    have HP2 := Lib.hid (fun W h => ddrop_both W D M ss aa c.key h Hl.out hn)
    obtain ⟨q, hq⟩ : ∃ q, (decide (firstN ss c.key < ss.length)) = q := ⟨_, rfl⟩
    unfold DropB at HP1
    unfold DDropB at HP2
    rw [hq] at HP1 HP2
    clear hq
    go_enter Try.func12, Try.ntmps12
    go_wp2_with fail
    go_region_held3 (fun w' => w'.cell? ⟨w.heap.size, 1, none⟩ = some (Value.int .u64 c.key.hi) ∧ w'.cell? ⟨w.heap.size, 2, none⟩ = some (Value.int .u64 c.key.lo))
      (first | exact ⟨q1, q2⟩ | go_keep)
      (first
        | (go_at_call 9; go_must (with_reducible refine (HP1.out _ (IsT.fr (S2 := fun _ => False) H.out (FA.out.then_ (S2 := fun _ => False) (by repeat (first | (with_reducible exact Fr.refl _ _) | (with_reducible refine Fr.drew ?_) | (with_reducible refine Fr.drewN ?_ _) | (with_reducible refine Fr.alloc ?_ _) | (with_reducible refine Fr.set1 ?_ _) | (with_reducible refine Fr.setNew ?_ (by omega) _))) (fun _ h => h.elim)) (fun _ _ h => h))).mono ?_); rintro e w2 ⟨rfl, ps2, o2, b2, f2⟩; have O2 := Lib.hid o2; have B2 := Lib.hid b2; have F2 := Lib.hid (show Fr S w w2 from ((FA.out.mono (fun _ h => h.elim)).drew).then_ f2 (fun k hk => .inl hk)); have Hbc2 := Lib.hid (f2.blk (blk_drew Hbc.out) Hns.out.1); have q1 := blk_cell Hbc2.out 1 rfl; have q2 := blk_cell Hbc2.out 2 rfl; clear o2 b2 f2)
        | (go_at_call 17; go_must (with_reducible refine (HP2.out _ (IsD.fr (S2 := S) HM.out F2.out (fun k hk h => absurd hk (HD.out k h)))).mono ?_); rintro e w3 ⟨rfl, D3, m3, f3, g3⟩; have M3 := Lib.hid m3; have F3 := Lib.hid f3; have G3 := Lib.hid g3; have q1 := blk_cell (f3.blk Hbc2.out Hns.out.2) 1 rfl; have q2 := blk_cell (f3.blk Hbc2.out Hns.out.2) 2 rfl; clear m3 f3 g3))
    go_wp2_with fail
    go_ret
    have g2' : ∀ k, S k → S k ∨ w.heap.size ≤ k := fun k hk => .inl hk
    have hDl := fun k (hk : D k) => HM.out.lt hk
    refine ⟨?_, S, D3, ps2, _, IsT.fr (S2 := D) O2.out F3.out HD.out, by rw [HRun.out]; exact M3.out, by rw [HRun.out]; exact B2.out, disj2 HD.out g2' (fun k hk => Rw.lt O2.out.is hk) G3.out hDl, (F2.out.mono (fun k hk => .inl hk)).then_ F3.out (fun k hk => .inl (.inr hk)), g2', fun k hk => (G3.out k hk).imp id (fun h => Nat.le_trans F2.out.size h)⟩
    first | rfl | (cases q <;> rfl) | simp
  have HRun := Lib.hid (show c.runS ss = ss from by rw [PK.runS, if_neg k0', if_neg k1])
  clear k0'
  have b1 : (c.kind == 1) = false := by simpa using k1
  clear k1
  have HP1 := Lib.hid (get_both (w.alloc (.cells #[.int .i64 c.kind, .int .u64 c.key.hi, .int .u64 c.key.lo, .int .i64 c.at_] 30)) S T ps ss aa c.key (H.out.fr FA.out (fun _ _ h => h)) HB.out)
  have HP2 := Lib.hid (fun W h => dat_any W D M ss aa c.key h (by omega))
  unfold GetB at HP1
  obtain ⟨v1, v2, hb, -, o2, -, -, -, -, -⟩ := HM.out
  by_cases hlt : firstN ss c.key < ss.length
  · have hm : dAt ss c.key = (firstN ss c.key : Int) := if_pos hlt
    rw [hm] at HP2
    rw [decide_eq_true hlt] at HP1
    obtain ⟨i, hi⟩ : ∃ i, firstN ss c.key = i := ⟨_, rfl⟩
    rw [hi] at HP1 HP2 hlt
    have hia : i < aa.length := by have := Hl.out; omega
    have hget : aa.getD i 0 = aa[i] := by rw [List.getD_eq_getElem?_getD, List.getElem?_eq_getElem hia]; rfl
    rw [hget] at HP1
    obtain ⟨g, cap, rfl⟩ := own_some o2 (by omega)
    have Hb := Lib.hid hb
    have HO2 := Lib.hid o2
    have hin : i < aa.length := hia
    obtain ⟨y, hy⟩ : ∃ y, aa[i] = y := ⟨_, rfl⟩
    rw [hy] at HP1
    have HY := Lib.hid hy
    obtain ⟨n, hnn⟩ : ∃ n, aa.length = n := ⟨_, rfl⟩
    have hiI : (i : Int) < n := by omega
    have HNn := Lib.hid hnn
    rw [hnn] at Hb HO2
    clear hb o2 hm hi hget hlt hy hnn hn
    go_enter Try.func12, Try.ntmps12
    go_wp2_with fail
    refine HP1.out.mono ?_
    rintro e w2 ⟨rfl, f2⟩
    have F2 := Lib.hid (FA.out.then_ f2 (fun _ h => h.elim))
    have Hbc2 := Lib.hid (f2.blk Hbc.out (fun h => h))
    have q1 := blk_cell Hbc2.out 1 rfl
    have q2 := blk_cell Hbc2.out 2 rfl
    clear f2
    go_wp2_with fail
    refine (HP2.out _ (HM.out.fr F2.out (fun _ _ h => h))).mono ?_
    rintro e w3 ⟨rfl, f3⟩
    have F3 := Lib.hid (F2.out.then_ f3 (fun _ h => h.elim))
    have c1 := blk_cell (F3.out.blk Hb.out (fun h => h)) 1 rfl
    have ca : w3.cell? ⟨g, i, none⟩ = some (.int .i64 y) := by
      have hl := HNn.out
      rw [(own_fr HO2.out F3.out (fun _ _ h => h)).cellAt i (by omega)]; simp [ints, hin, HY.out]
    have hi0 : ¬ (i : Int) < 0 := by omega
    clear f3
    go_wp2_with fail
    go_ret
    exact ⟨rfl, S, D, ps, aa, H.out.fr F3.out (fun _ _ h => h), by rw [HRun.out]; exact HM.out.fr F3.out (fun _ _ h => h), by rw [HRun.out]; exact HB.out, HD.out, F3.out.mono (fun _ h => h.elim), fun k hk => .inl hk, fun k hk => .inl hk⟩
  · have hm : dAt ss c.key = -1 := if_neg hlt
    rw [hm] at HP2
    have hg : aa.getD (firstN ss c.key) 0 = 0 := by rw [List.getD_eq_getElem?_getD, List.getElem?_eq_none (by have := Hl.out; omega)]; rfl
    rw [decide_eq_false hlt, hg] at HP1
    clear hb o2 hm hg hlt hn
    go_enter Try.func12, Try.ntmps12
    go_wp2_with fail
    refine HP1.out.mono ?_
    rintro e w2 ⟨rfl, f2⟩
    have F2 := Lib.hid (FA.out.then_ f2 (fun _ h => h.elim))
    have Hbc2 := Lib.hid (f2.blk Hbc.out (fun h => h))
    have q1 := blk_cell Hbc2.out 1 rfl
    have q2 := blk_cell Hbc2.out 2 rfl
    clear f2
    go_wp2_with fail
    refine (HP2.out _ (HM.out.fr F2.out (fun _ _ h => h))).mono ?_
    rintro e w3 ⟨rfl, f3⟩
    have F3 := Lib.hid (F2.out.then_ f3 (fun _ h => h.elim))
    clear f3
    go_wp2_with fail
    go_ret
    exact ⟨rfl, S, D, ps, aa, H.out.fr F3.out (fun _ _ h => h), by rw [HRun.out]; exact HM.out.fr F3.out (fun _ _ h => h), by rw [HRun.out]; exact HB.out, HD.out, F3.out.mono (fun _ h => h.elim), fun k hk => .inl hk, fun k hk => .inl hk⟩
end Go.Proofs.Ythkmdhkifkapkaa
