/- does, with both lists; the same pairs. -/
import Derived.Test.YtjegnhcpepkpoaaOrdW
import Derived.Test.YtjegnhcpepkpoaaOrdE
import Derived.Test.YtjegnhcpepkpoaaOrdH
import Derived.Deep.RegionHeld3
namespace Go.Proofs.Ytjegnhcpepkpoaa
open Go.RowKit

theorem disj2 {w w2 : World} {S T S2 T2 : Nat → Prop} (hd : ∀ k, S k → ¬ T k) (g2 : ∀ k, S2 k → S k ∨ w.heap.size ≤ k) (l2 : ∀ k, S2 k → k < w2.heap.size) (gt : ∀ k, T2 k → T k ∨ w2.heap.size ≤ k) (lt : ∀ k, T k → k < w.heap.size) : ∀ k, S2 k → ¬ T2 k := fun k hk ht => by
  have h1 := l2 k hk
  rcases gt k ht with h | h
  · rcases g2 k hk with h2 | h2
    · exact hd k h2 h
    · have := lt k h; omega
  · omega
set_option maxRecDepth 4000 in
set_option maxHeartbeats 6400000 in
theorem does_any (w : World) (S T : Nat → Prop) (L M : Nat) (ps : List Pr) (ss aa : List Int) (c : OC) (h : IsO w S L ps) (hm : IsM w T M ss aa) (hd : ∀ k, S k → ¬ T k) (hn : ps.length ≤ 1000) (hR : Ris ps) (hB : Both ps ss aa) :
    Calls Try.prog 8 #[.pointer (some ⟨L, 0, none⟩), .pointer (some ⟨M, 0, none⟩), .agg #[.int .i64 c.kind, .int .i64 c.stamp, .int .i64 c.at_]] w fun e w' => e = .returned (.bool true) ∧ ∃ S' T' ss' aa', IsO w' S' L (c.run ps) ∧ IsM w' T' M ss' aa' ∧ Both (c.run ps) ss' aa' ∧ (∀ k, S' k → ¬ T' k) ∧ Fr (fun k => S k ∨ T k) w w' ∧ (∀ k, S' k → S k ∨ w.heap.size ≤ k) ∧ ∀ k, T' k → T k ∨ w.heap.size ≤ k := by
  have hsl : ss.length ≤ 1000 := by rw [← hB.len hR]; exact hn
  have H := Lib.hid h
  have HM := Lib.hid hm
  have HD := Lib.hid hd
  have HR := Lib.hid hR
  have HB := Lib.hid hB
  have hbc := heap_alloc_new w (.cells #[.int .i64 c.kind, .int .i64 c.stamp, .int .i64 c.at_] 33)
  have Hns := Lib.hid (show ¬ S w.heap.size ∧ ¬ T w.heap.size from ⟨fun h2 => by have := Rw.lt h h2; omega, fun h2 => by have := hm.lt h2; omega⟩)
  have q0 := blk_cell hbc 0 rfl
  have q1 := blk_cell hbc 1 rfl
  have q2 := blk_cell hbc 2 rfl
  have Hbc := Lib.hid hbc
  have FA := Lib.hid ((Fr.refl (fun _ => False) w).alloc (.cells #[.int .i64 c.kind, .int .i64 c.stamp, .int .i64 c.at_] 33))
  have HA := Lib.hid (hB.ans hR c.stamp)
  have Hsl := Lib.hid hsl
  have Hsa := Lib.hid hB.1
  clear h hm hd hR hbc hB hsl
  have hsz : ((w.alloc (.cells #[.int .i64 c.kind, .int .i64 c.stamp, .int .i64 c.at_] 33)).drew).heap.size = w.heap.size + 1 := Array.size_push ..
  have Hsz := Lib.hid hsz
  clear hsz
  unfold OC.run
  by_cases k0 : c.kind = 0
  · rw [if_pos k0]
    have k1 : (c.kind == 0) = true := by simpa using k0
    clear k0
    have HPut := Lib.hid (HB.out.put HR.out c.stamp c.at_)
    have HP1 := Lib.hid (fun W h => put_any W S L ps c.stamp c.at_ h hn HR.out)
    have HP2 := Lib.hid (fun W h => mput_any W T M ss aa c.stamp c.at_ h Hsa.out Hsl.out)
    rw [← HA.out] at HP1
    obtain ⟨q, hq⟩ : ∃ q, (!decide (firstI ss c.stamp < ss.length)) = q := ⟨_, rfl⟩
    rw [hq] at HP1 HP2
    clear hq
    go_enter Try.func8, Try.ntmps8
    go_wp2_with fail
    go_region_held3 (fun w' => w'.cell? ⟨w.heap.size, 1, none⟩ = some (Value.int .i64 c.stamp) ∧ w'.cell? ⟨w.heap.size, 2, none⟩ = some (Value.int .i64 c.at_))
      (first | exact ⟨q1, q2⟩ | go_keep)
      (first
        | (go_at_call 14; go_must (with_reducible refine (HP1.out _ (IsO.fr (S2 := fun _ => False) H.out (FA.out.then_ (S2 := fun _ => False) (by repeat (first | (with_reducible exact Fr.refl _ _) | (with_reducible refine Fr.drew ?_) | (with_reducible refine Fr.drewN ?_ _) | (with_reducible refine Fr.alloc ?_ _) | (with_reducible refine Fr.set1 ?_ _) | (with_reducible refine Fr.setNew ?_ (by omega) _))) (fun _ h => h.elim)) (fun _ _ h => h))).mono ?_; rintro e w2 ⟨rfl, S2, o2, f2, g2⟩; have O2 := Lib.hid o2; have F2 := Lib.hid (show Fr S w w2 from ((FA.out.mono (fun _ h => h.elim)).drew).then_ f2 (fun k hk => .inl hk)); have G2 := Lib.hid g2; have Hbc2 := Lib.hid (f2.blk (blk_drew Hbc.out) Hns.out.1); have q1 := blk_cell Hbc2.out 1 rfl; have q2 := blk_cell Hbc2.out 2 rfl; clear o2 f2 g2))
        | (go_at_call 16; go_must (with_reducible refine (HP2.out _ (IsM.fr (S2 := S) HM.out F2.out (fun k hk h => absurd hk (HD.out k h)))).mono ?_; rintro e w3 ⟨rfl, T3, m3, f3, g3⟩; have M3 := Lib.hid m3; have F3 := Lib.hid f3; have G3 := Lib.hid g3; have q1 := blk_cell (f3.blk Hbc2.out Hns.out.2) 1 rfl; have q2 := blk_cell (f3.blk Hbc2.out Hns.out.2) 2 rfl; clear m3 f3 g3)))
    go_wp2_with fail
    go_ret
    have g2' : ∀ k, S2 k → S k ∨ w.heap.size ≤ k := fun k hk => (G2.out k hk).imp id (fun h => by have := Hsz.out; omega)
    have hTl := fun k (hk : T k) => HM.out.lt hk
    refine ⟨?_, S2, T3, _, _, IsO.fr (S2 := T) O2.out F3.out (fun k hk ht => ?_), M3.out, HPut.out, disj2 HD.out g2' (fun k hk => Rw.lt O2.out hk) G3.out hTl, (F2.out.mono (fun k hk => .inl hk)).then_ F3.out (fun k hk => .inl (.inr hk)), g2', fun k hk => (G3.out k hk).imp id (fun h => Nat.le_trans F2.out.size h)⟩
    · first | rfl | (cases q <;> rfl) | simp
    · have hlt := HM.out.lt ht
      rcases g2' k hk with h | h
      · exact HD.out k h ht
      · omega
  · rw [if_neg k0]
    have k1 : (c.kind == 0) = false := by simpa using k0
    clear k0
    have HP1 := Lib.hid (fun W h => drop_any W S L ps c.stamp h hn HR.out)
    rw [← HA.out] at HP1
    by_cases hin : firstI ss c.stamp < ss.length
    · have HPut := Lib.hid (HB.out.drop HR.out hin)
      have HP2 := Lib.hid (fun W h => mdrop_any W T M ss aa c.stamp h Hsa.out Hsl.out hin)
      rw [decide_eq_true hin] at HP1
      clear hin
      go_enter Try.func8, Try.ntmps8
      go_wp2_with fail
      go_region_held3 (fun w' => w'.cell? ⟨w.heap.size, 1, none⟩ = some (Value.int .i64 c.stamp))
        (first | exact q1 | go_keep)
        (first
          | (go_at_call 15; go_must (with_reducible refine (HP1.out _ (IsO.fr (S2 := fun _ => False) H.out (FA.out.then_ (S2 := fun _ => False) (by repeat (first | (with_reducible exact Fr.refl _ _) | (with_reducible refine Fr.drew ?_) | (with_reducible refine Fr.drewN ?_ _) | (with_reducible refine Fr.alloc ?_ _) | (with_reducible refine Fr.set1 ?_ _) | (with_reducible refine Fr.setNew ?_ (by omega) _))) (fun _ h => h.elim)) (fun _ _ h => h))).mono ?_; rintro e w2 ⟨rfl, S2, o2, f2, g2⟩; have O2 := Lib.hid o2; have F2 := Lib.hid (show Fr S w w2 from ((FA.out.mono (fun _ h => h.elim)).drew).then_ f2 (fun k hk => .inl hk)); have G2 := Lib.hid g2; have Hbc2 := Lib.hid (f2.blk (blk_drew Hbc.out) Hns.out.1); have q1 := blk_cell Hbc2.out 1 rfl; have q2 := blk_cell Hbc2.out 2 rfl; clear o2 f2 g2))
          | (go_at_call 17; go_must (with_reducible refine (HP2.out _ (IsM.fr (S2 := S) HM.out F2.out (fun k hk h => absurd hk (HD.out k h)))).mono ?_; rintro e w3 ⟨rfl, T3, m3, f3, g3⟩; have M3 := Lib.hid m3; have F3 := Lib.hid f3; have G3 := Lib.hid g3; have q1 := blk_cell (f3.blk Hbc2.out Hns.out.2) 1 rfl; have q2 := blk_cell (f3.blk Hbc2.out Hns.out.2) 2 rfl; clear m3 f3 g3)))
      go_wp2_with fail
      go_ret
      have g2' : ∀ k, S2 k → S k ∨ w.heap.size ≤ k := fun k hk => (G2.out k hk).imp id (fun h => by have := Hsz.out; omega)
      have hTl := fun k (hk : T k) => HM.out.lt hk
      refine ⟨?_, S2, T3, _, _, IsO.fr (S2 := T) O2.out F3.out (fun k hk ht => ?_), M3.out, HPut.out, disj2 HD.out g2' (fun k hk => Rw.lt O2.out hk) G3.out hTl, (F2.out.mono (fun k hk => .inl hk)).then_ F3.out (fun k hk => .inl (.inr hk)), g2', fun k hk => (G3.out k hk).imp id (fun h => Nat.le_trans F2.out.size h)⟩
      · first | rfl | simp
      · have hlt := HM.out.lt ht
        rcases g2' k hk with h | h
        · exact HD.out k h ht
        · omega
    · have HPut := Lib.hid (HB.out.drop_no HR.out hin)
      have HP2 := Lib.hid (fun W h => mdrop_no W T M ss aa c.stamp h Hsl.out hin)
      rw [decide_eq_false hin] at HP1
      clear hin
      go_enter Try.func8, Try.ntmps8
      go_wp2_with fail
      go_region_held3 (fun w' => w'.cell? ⟨w.heap.size, 1, none⟩ = some (Value.int .i64 c.stamp))
        (first | exact q1 | go_keep)
        (first
          | (go_at_call 15; go_must (with_reducible refine (HP1.out _ (IsO.fr (S2 := fun _ => False) H.out (FA.out.then_ (S2 := fun _ => False) (by repeat (first | (with_reducible exact Fr.refl _ _) | (with_reducible refine Fr.drew ?_) | (with_reducible refine Fr.drewN ?_ _) | (with_reducible refine Fr.alloc ?_ _) | (with_reducible refine Fr.set1 ?_ _) | (with_reducible refine Fr.setNew ?_ (by omega) _))) (fun _ h => h.elim)) (fun _ _ h => h))).mono ?_; rintro e w2 ⟨rfl, S2, o2, f2, g2⟩; have O2 := Lib.hid o2; have F2 := Lib.hid (show Fr S w w2 from ((FA.out.mono (fun _ h => h.elim)).drew).then_ f2 (fun k hk => .inl hk)); have G2 := Lib.hid g2; have Hbc2 := Lib.hid (f2.blk (blk_drew Hbc.out) Hns.out.1); have q1 := blk_cell Hbc2.out 1 rfl; have q2 := blk_cell Hbc2.out 2 rfl; clear o2 f2 g2))
          | (go_at_call 17; go_must (with_reducible refine (HP2.out _ (IsM.fr (S2 := S) HM.out F2.out (fun k hk h => absurd hk (HD.out k h)))).mono ?_; rintro e w3 ⟨rfl, f3'⟩; have f3 : Fr T w2 w3 := f3'.mono (fun _ h => h.elim); have F3' := Lib.hid f3'; have F3 := Lib.hid f3; have q1 := blk_cell (f3.blk Hbc2.out Hns.out.2) 1 rfl; have q2 := blk_cell (f3.blk Hbc2.out Hns.out.2) 2 rfl; clear f3 f3')))
      go_wp2_with fail
      go_ret
      have g2' : ∀ k, S2 k → S k ∨ w.heap.size ≤ k := fun k hk => (G2.out k hk).imp id (fun h => by have := Hsz.out; omega)
      have hTl := fun k (hk : T k) => HM.out.lt hk
      have hdd : ∀ k, S2 k → ¬ T k := fun k hk ht => by
        have hlt := HM.out.lt ht
        rcases g2' k hk with h | h
        · exact HD.out k h ht
        · omega
      refine ⟨?_, S2, T, _, _, IsO.fr (S2 := T) O2.out F3.out hdd, IsM.fr (S2 := fun _ => False) (IsM.fr (S2 := S) HM.out F2.out (fun k hk h => absurd hk (HD.out k h))) F3'.out (fun _ _ h => h), HPut.out, hdd, (F2.out.mono (fun k hk => .inl hk)).then_ F3.out (fun k hk => .inl (.inr hk)), g2', fun k hk => .inl hk⟩
      first | rfl | simp
end Go.Proofs.Ytjegnhcpepkpoaa
