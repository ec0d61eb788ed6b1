/- Law 14: the walk of UndoFree. -/
import Derived.Test.YtlfbgndaojcgdaaUndoF
import Derived.Deep.RegionHeld3
namespace Go.Proofs.Ytlfbgndaojcgdaa
open Go.RowKit

theorem IsL.fr {w w' : World} {S S2 : Nat → Prop} {L : Nat} {lg : Option Nat} {xs : List Int} (h : IsL w S L lg xs) (hf : Fr S2 w w') (hd : ∀ k, S k → ¬ S2 k) : IsL w' S L lg xs := Rw.fr h hf hd
theorem two_step {w wr W w5 w6 : World} {S G S2 S5 G5 S6 : Nat → Prop} {L g K : Nat} {ys zs : List Int} {es new : List Ent} (HF : Fr (fun _ => False) w wr) (hW : Fr (fun _ => False) wr W)
    (hd : ∀ j, S2 j → ¬ (S j ∨ G j) ∧ ∀ e ∈ es, ¬ e.has j) (hlow : ∀ j, S j ∨ G j ∨ S2 j → w.heap.size ≤ j) (hl2 : IsL wr S2 K none ys)
    (s5 : St w5 S5 G5 L g zs (new ++ es)) (f5 : Fr (fun k => S k ∨ G k) W w5) (g5 : ∀ k, S5 k ∨ G5 k → S k ∨ G k ∨ W.heap.size ≤ k) (n5 : ∀ e ∈ new, ∀ k, e.has k → W.heap.size ≤ k)
    (l6 : IsL w6 S6 K none zs) (f6 : Fr S2 w5 w6) (g6 : ∀ k, S6 k → S2 k ∨ w5.heap.size ≤ k) :
    St w6 S5 G5 L g zs (new ++ es) ∧ (∀ j, S6 j → ¬ (S5 j ∨ G5 j) ∧ ∀ e ∈ new ++ es, ¬ e.has j) ∧ (∀ j, S5 j ∨ G5 j ∨ S6 j → w.heap.size ≤ j) ∧ Fr (fun _ => False) w w6 := by
  have z1 := HF.size
  have z2 := hW.size
  have z5 := f5.size
  have lt2 := fun k (hk : S2 k) => Rw.lt hl2 hk
  have d1 : ∀ k, S2 k → ¬ (S5 k ∨ G5 k) := fun k hk h => by
    rcases g5 k h with h | h | h
    · exact (hd k hk).1 (.inl h)
    · exact (hd k hk).1 (.inr h)
    · have := lt2 k hk; omega
  have d2 : ∀ k, S2 k → ∀ e ∈ new ++ es, ¬ e.has k := fun k hk e he h => by
    rcases List.mem_append.1 he with he | he
    · have := n5 e he k h; have := lt2 k hk; omega
    · exact (hd k hk).2 e he h
  refine ⟨St.fr2 s5 f6 d1 d2, fun j hj => ?_, fun j hj => ?_, ((HF.then_ hW (fun _ h => h.elim)).then_ f5 (fun k hk => .inr (hlow k (hk.elim .inl (fun h => .inr (.inl h)))))).then_ f6 (fun k hk => .inr (hlow k (.inr (.inr hk))))⟩
  · rcases g6 j hj with h | h
    · exact ⟨d1 j h, d2 j h⟩
    · refine ⟨fun hs => ?_, fun e he hh => ?_⟩
      · rcases hs with hs | hs
        · have := Rw.lt s5.l hs; omega
        · have := Rw.lt s5.g hs; omega
      · have := ((s5.ents e he).2 j hh).1; omega
  · have lo5 : S5 j ∨ G5 j → w.heap.size ≤ j := fun h => by
      rcases g5 j h with h | h | h
      · exact hlow j (.inl h)
      · exact hlow j (.inr (.inl h))
      · omega
    rcases hj with h | h | h
    · exact lo5 (.inl h)
    · exact lo5 (.inr h)
    · rcases g6 j h with h | h
      · exact hlow j (.inr (.inr h))
      · omega
theorem bool_self (b : Bool) : (b != b) = false := by cases b <;> rfl
set_option maxHeartbeats 6400000 in
theorem undoFree_any (w : World) (a : Option Addr) (cap : Nat) (cs : List Cal) (hr : Row w a (cs.flatMap Cal.cells)) :
    Calls Try.prog 3 #[.slice a cs.length cap] w fun r w' => r = .returned (.bool true) ∧ Fr (fun _ => False) w w' := by
  have HR := Lib.hid hr
  clear hr
  go_enter Try.func3, Try.ntmps3
  go_wp2_with fail
  refine (alive14_any w).mono ?_
  rintro e w1 ⟨rfl, f1⟩
  have F1 := Lib.hid f1
  clear f1
  by_cases hbig : (150 : Int) < cs.length
  · go_wp2_with fail
    go_ret
    exact ⟨rfl, F1.out⟩
  have hlen : cs.length ≤ 150 := by omega
  go_wp2_with fail
  have HB := Lib.hid (heap_alloc_new w1 (.cells #[.slice none 0 0] 27))
  have F2 := Lib.hid (F1.out.alloc (.cells #[.slice none 0 0] 27))
  have Hw1 := Lib.hid (show w.heap.size ≤ w1.heap.size from F1.out.size)
  refine (of_any _ (some w1.heap.size)).mono ?_
  rintro e w3 ⟨rfl, l3, f3⟩
  have S3 := Lib.hid (st_new HB.out l3 f3)
  have F3 := Lib.hid (F2.out.then_ f3 (fun _ h => h.elim))
  have Hsz3 := Lib.hid (show (w1.alloc (.cells #[.slice none 0 0] 27)).heap.size < w3.heap.size from Rw.lt l3 rfl)
  obtain ⟨L, hL⟩ : ∃ L, (w1.alloc (.cells #[.slice none 0 0] 27)).heap.size = L := ⟨_, rfl⟩
  rw [hL] at S3 Hsz3 ⊢
  have HL := Lib.hid (show w1.heap.size ≤ L from by rw [← hL]; simp)
  clear l3 f3 hL
  obtain ⟨g, hg⟩ : ∃ g, w1.heap.size = g := ⟨_, rfl⟩
  rw [hg] at S3 HL Hw1 ⊢
  clear hg
  go_wp2_with fail
  refine (of_any _ none).mono ?_
  rintro e w4 ⟨rfl, l4, f4⟩
  have S4 := Lib.hid (St.fr (S2 := fun _ => False) S3.out f4 (fun _ _ h => h))
  have L4 := Lib.hid l4
  have F4 := Lib.hid (F3.out.then_ f4 (fun _ h => h.elim))
  obtain ⟨K, hK⟩ : ∃ K, w3.heap.size = K := ⟨_, rfl⟩
  rw [hK] at L4 Hsz3 ⊢
  clear l4 f4 hK
  go_wp2_with fail
  go_loopw [21] (fun i wr => ∃ k : Nat, k ≤ cs.length ∧ i = .int .i64 k ∧ ∃ S G S2 es, St wr S G L g (runs [] (cs.take k)) es ∧ IsL wr S2 K none (runs [] (cs.take k)) ∧ es.length ≤ k ∧ es.foldl (fun l e => e.undo l) (runs [] (cs.take k)) = [] ∧ (∀ j, S2 j → ¬ (S j ∨ G j) ∧ ∀ e ∈ es, ¬ e.has j) ∧ (∀ j, S j ∨ G j ∨ S2 j → w.heap.size ≤ j) ∧ Fr (fun _ => False) w wr)
    (fun i _ => ((cs.length : Int) - intOf i).toNat)
  case atStart =>
    refine ⟨0, by omega, rfl, _, _, _, [], S4.out, L4.out, by simp, rfl, fun j hj => ⟨fun h => ?_, fun _ h => nomatch h⟩, fun j hj => ?_, F4.out⟩
    · have hj : j = K := hj
      have h1 := HL.out; have h2 := Hsz3.out
      rcases h with h | h <;> (have h : j = _ := h; omega)
    · have h1 := HL.out; have h2 := Hsz3.out; have h3 := Hw1.out
      rcases hj with h | h | h <;> (have h : j = _ := h; omega)
  case round =>
    obtain ⟨k, hk, rfl, S, G, S2, es, hs, hl2, hn, hu, hd, hlow, hf⟩ := hrel
    have HS := Lib.hid hs
    have HL2 := Lib.hid hl2
    have HU := Lib.hid hu
    have HD := Lib.hid hd
    have HLow := Lib.hid hlow
    have HF := Lib.hid hf
    by_cases hlt : k < cs.length
    · obtain ⟨b, off, rfl, hb, x0, x1, x2, x3⟩ := (HR.out.fr hf (fun b hb h => h)).cal hlt
      have hsucc := runs_succ (xs := []) hlt
      have hln := runs_len [] (cs.take k)
      rw [List.length_take, List.length_nil] at hln
      obtain ⟨ys, hys⟩ : ∃ ys, runs [] (cs.take k) = ys := ⟨_, rfl⟩
      obtain ⟨c, hce⟩ : ∃ c, cs[k] = c := ⟨_, rfl⟩
      rw [hys] at hsucc hln
      rw [hce] at hsucc x0 x1 x2 x3
      have HY := Lib.hid hys
      have HSc := Lib.hid hsucc
      have hyl : ys.length ≤ 150 := by omega
      have hel : es.length ≤ 150 := by omega
      have hltI : (k : Int) < cs.length := by omega
      have HSA := Lib.hid (show St (wr.alloc (.cells #[.int .i64 c.kind, .bool c.second, .int .i64 c.i, .int .i64 c.x] 31)) S G L g ys es from by rw [← hys]; exact St.fr (S2 := fun _ => False) HS.out ((Fr.refl _ wr).alloc _) (fun _ _ h => h))
      have HLA := Lib.hid (show IsL (wr.alloc (.cells #[.int .i64 c.kind, .bool c.second, .int .i64 c.i, .int .i64 c.x] 31)) S2 K none ys from by rw [← hys]; exact Rw.alloc HL2.out _)
      have hbc := heap_alloc_new wr (.cells #[.int .i64 c.kind, .bool c.second, .int .i64 c.i, .int .i64 c.x] 31)
      have HFA := Lib.hid (HF.out.alloc (.cells #[.int .i64 c.kind, .bool c.second, .int .i64 c.i, .int .i64 c.x] 31))
      have hzA : (wr.alloc (.cells #[.int .i64 c.kind, .bool c.second, .int .i64 c.i, .int .i64 c.x] 31)).heap.size = wr.heap.size + 1 := Array.size_push ..
      have HBn := Lib.hid (show ¬ (S wr.heap.size ∨ G wr.heap.size) ∧ ¬ S2 wr.heap.size from ⟨fun h => by rcases h with h | h; (have := Rw.lt HS.out.l h; omega); (have := Rw.lt HS.out.g h; omega), fun h => by have := Rw.lt HL2.out h; omega⟩)
      obtain ⟨WA, hWA⟩ : ∃ WA, wr.alloc (.cells #[.int .i64 c.kind, .bool c.second, .int .i64 c.i, .int .i64 c.x] 31) = WA := ⟨_, rfl⟩
      clear hs hl2 hu hd hlow hf hys hce hsucc
      by_cases k0 : c.kind = 0
      · have HC := Lib.hid (show c.run ys = ys ++ [c.x] from if_pos k0)
        have k1 : 0 ≤ c.kind := by omega
        have k2 : c.kind ≤ 0 := by omega
        clear k0 hWA
        have q0 := blk_cell hbc 0 rfl
        have q3 := blk_cell hbc 3 rfl
        have Hbc := Lib.hid hbc
        clear hbc
        go_wp2_with fail
        go_region_held3 (fun w' => w'.cell? ⟨wr.heap.size, 3, none⟩ = some (Value.int .i64 c.x))
          (first | exact q3 | go_keep)
          (first
            | (go_at_call 11; with_reducible refine (add_log _ S G L g ys es c.x (St.fr (S2 := fun _ => False) HSA.out (by repeat (first | (with_reducible exact Fr.refl _ _) | (with_reducible refine Fr.drew ?_) | (with_reducible refine Fr.drewN ?_ _) | (with_reducible refine Fr.alloc ?_ _) | (with_reducible refine Fr.set1 ?_ _) | (with_reducible refine Fr.setNew ?_ (by omega) _))) (fun _ _ h => h)) (by omega) (by omega)).mono ?_; rintro r w5 ⟨rfl, S5, G5, e5, s5, u5, f5, g5, n5⟩; have q3 := blk_cell (f5.blk (by first | exact blk_drew Hbc.out | exact Hbc.out) HBn.out.1) 3 rfl; have s5h := Lib.hid s5; have u5h := Lib.hid u5; have f5h := Lib.hid f5; have g5h := Lib.hid g5; have n5h := Lib.hid n5; have Hbc5 := Lib.hid (f5.blk (by first | exact blk_drew Hbc.out | exact Hbc.out) HBn.out.1); clear s5 u5 f5 g5 n5)
            | (go_at_call 11; with_reducible refine (add_free _ S2 K ys c.x (IsL.fr (S2 := fun k => S k ∨ G k) HLA.out (Fr.then_ (S2 := fun k => S k ∨ G k) (by repeat (first | (with_reducible exact Fr.refl _ _) | (with_reducible refine Fr.drew ?_) | (with_reducible refine Fr.drewN ?_ _) | (with_reducible refine Fr.alloc ?_ _) | (with_reducible refine Fr.set1 ?_ _) | (with_reducible refine Fr.setNew ?_ (by omega) _))) f5h.out (fun k hk => .inl hk)) (fun k hk => (HD.out k hk).1)) (by omega)).mono ?_; rintro r w6 ⟨rfl, S6, l6, f6, g6⟩; have q3 := blk_cell (f6.blk Hbc5.out HBn.out.2) 3 rfl; have l6h := Lib.hid l6; have f6h := Lib.hid f6; have g6h := Lib.hid g6; clear l6 f6 g6))
        go_wp2_with fail
        go_roundw
        case rel =>
          have j := two_step (new := [e5]) HF.out (W := (wr.alloc (.cells #[.int .i64 c.kind, .bool c.second, .int .i64 c.i, .int .i64 c.x] 31)).drew) (((Fr.refl _ wr).alloc _).drew) HD.out HLow.out HL2.out s5h.out f5h.out g5h.out (fun e he => by obtain rfl := List.mem_singleton.1 he; exact n5h.out) l6h.out f6h.out g6h.out
          exact ⟨k + 1, by omega, by go_num, S5, G5, S6, e5 :: es, by rw [HSc.out, HC.out]; exact j.1, by rw [HSc.out, HC.out]; exact l6h.out, by simp only [List.length_cons]; omega, by rw [HSc.out, HC.out, List.foldl_cons, u5h.out, ← HY.out]; exact HU.out, j.2.1, j.2.2.1, j.2.2.2⟩
        case measure => simp [intOf]; omega
      by_cases k1 : c.kind = 1
      · have HC := Lib.hid (show c.run ys = setI ys c.i c.x from by rw [Cal.run, if_neg k0, if_pos k1])
        have k2 : 1 ≤ c.kind := by omega
        have k3 : c.kind ≤ 1 := by omega
        clear k0 k1 hWA
        have q0 := blk_cell hbc 0 rfl
        have q2 := blk_cell hbc 2 rfl
        have q3 := blk_cell hbc 3 rfl
        have hbs := bool_self (decide (0 ≤ c.i ∧ c.i < (ys.length : Int)))
        have Hbc := Lib.hid hbc
        clear hbc
        go_wp2_with fail
        go_region_held3 (fun w' => w'.cell? ⟨wr.heap.size, 2, none⟩ = some (Value.int .i64 c.i) ∧ w'.cell? ⟨wr.heap.size, 3, none⟩ = some (Value.int .i64 c.x))
          (first | exact ⟨q2, q3⟩ | go_keep)
          (first
            | (go_at_call 12; with_reducible refine (set_log _ S G L g ys es c.i c.x (St.fr (S2 := fun _ => False) HSA.out (by repeat (first | (with_reducible exact Fr.refl _ _) | (with_reducible refine Fr.drew ?_) | (with_reducible refine Fr.drewN ?_ _) | (with_reducible refine Fr.alloc ?_ _) | (with_reducible refine Fr.set1 ?_ _) | (with_reducible refine Fr.setNew ?_ (by omega) _))) (fun _ _ h => h)) (by omega) (by omega)).mono ?_; rintro r w5 ⟨rfl, S5, G5, e5, s5, k5, u5, f5, g5, n5⟩; have q2 := blk_cell (f5.blk (by first | exact blk_drew Hbc.out | exact Hbc.out) HBn.out.1) 2 rfl; have q3 := blk_cell (f5.blk (by first | exact blk_drew Hbc.out | exact Hbc.out) HBn.out.1) 3 rfl; have s5h := Lib.hid s5; have u5h := Lib.hid u5; have f5h := Lib.hid f5; have g5h := Lib.hid g5; have n5h := Lib.hid n5; have k5h := Lib.hid k5; have Hbc5 := Lib.hid (f5.blk (by first | exact blk_drew Hbc.out | exact Hbc.out) HBn.out.1); clear s5 u5 f5 g5 n5 k5)
            | (go_at_call 12; with_reducible refine (set_free _ S2 K ys c.i c.x (IsL.fr (S2 := fun k => S k ∨ G k) HLA.out (Fr.then_ (S2 := fun k => S k ∨ G k) (by repeat (first | (with_reducible exact Fr.refl _ _) | (with_reducible refine Fr.drew ?_) | (with_reducible refine Fr.drewN ?_ _) | (with_reducible refine Fr.alloc ?_ _) | (with_reducible refine Fr.set1 ?_ _) | (with_reducible refine Fr.setNew ?_ (by omega) _))) f5h.out (fun k hk => .inl hk)) (fun k hk => (HD.out k hk).1)) (by omega)).mono ?_; rintro r w6 ⟨rfl, S6, l6, f6, g6⟩; have q2 := blk_cell (f6.blk Hbc5.out HBn.out.2) 2 rfl; have q3 := blk_cell (f6.blk Hbc5.out HBn.out.2) 3 rfl; have l6h := Lib.hid l6; have f6h := Lib.hid f6; have g6h := Lib.hid g6; clear l6 f6 g6))
        go_wp2_with fail
        go_roundw
        case rel =>
          have j := two_step (new := e5) HF.out (W := (wr.alloc (.cells #[.int .i64 c.kind, .bool c.second, .int .i64 c.i, .int .i64 c.x] 31)).drew) (((Fr.refl _ wr).alloc _).drew) HD.out HLow.out HL2.out s5h.out f5h.out g5h.out n5h.out l6h.out f6h.out g6h.out
          exact ⟨k + 1, by omega, by go_num, S5, G5, S6, e5 ++ es, by rw [HSc.out, HC.out]; exact j.1, by rw [HSc.out, HC.out]; exact l6h.out, by have := k5h.out; rw [List.length_append]; omega, by rw [HSc.out, HC.out, List.foldl_append, u5h.out, ← HY.out]; exact HU.out, j.2.1, j.2.2.1, j.2.2.2⟩
        case measure => simp [intOf]; omega
      · have HC := Lib.hid (show c.run ys = ys from by rw [Cal.run, if_neg k0, if_neg k1])
        have k2 : (c.kind == 0) = false := by simpa using k0
        have k3 : (c.kind == 1) = false := by simpa using k1
        clear k0 k1 hWA hbc
        go_wp2_with fail
        go_roundw
        case rel => exact ⟨k + 1, by omega, by go_num, S, G, S2, es, by rw [HSc.out, HC.out]; exact HSA.out, by rw [HSc.out, HC.out]; exact HLA.out, by omega, by rw [HSc.out, HC.out, ← HY.out]; exact HU.out, HD.out, HLow.out, HFA.out⟩
        case measure => simp [intOf]; omega
    · clear hs hl2 hu hd hlow hf
      obtain rfl : k = cs.length := by omega
      have e : cs.take cs.length = cs := List.take_length
      rw [e] at HS HL2 HU
      have hln := runs_len [] cs
      rw [List.length_nil] at hln
      obtain ⟨ys, hys⟩ : ∃ ys, runs [] cs = ys := ⟨_, rfl⟩
      rw [hys] at HS HL2 HU hln
      clear e hys
      go_wp2_with fail
      refine (all_any _ S L _ ys HS.out.l (by omega)).mono ?_
      rintro r w5 ⟨va, rfl, oa, f5⟩
      have Oa := Lib.hid oa
      have F5 := Lib.hid f5
      have S5 := Lib.hid (St.fr (S2 := fun _ => False) HS.out f5 (fun _ _ h => h))
      have L5 := Lib.hid (IsL.fr (S2 := fun _ => False) HL2.out f5 (fun _ _ h => h))
      clear oa f5
      go_wp2_with fail
      refine (all_any _ S2 K _ ys L5.out (by omega)).mono ?_
      rintro r w6 ⟨vb, rfl, ob, f6⟩
      have Ob := Lib.hid ob
      have F6 := Lib.hid f6
      have Oa6 := Lib.hid (Own.fr (S2 := fun _ => False) Oa.out f6 (fun _ _ h => h))
      have S6 := Lib.hid (St.fr (S2 := fun _ => False) S5.out f6 (fun _ _ h => h))
      have L6 := Lib.hid (IsL.fr (S2 := fun _ => False) L5.out f6 (fun _ _ h => h))
      clear ob f6
      go_wp2_with fail
      refine (same_any _ _ _ va vb ys ys Oa6.out Ob.out (by omega)).mono ?_
      rintro r w7 ⟨rfl, f7⟩
      have F7 := Lib.hid f7
      have Oa7 := Lib.hid (Own.fr (S2 := fun _ => False) Oa6.out f7 (fun _ _ h => h))
      have S7 := Lib.hid (St.fr (S2 := fun _ => False) S6.out f7 (fun _ _ h => h))
      have L7 := Lib.hid (IsL.fr (S2 := fun _ => False) L6.out f7 (fun _ _ h => h))
      clear f7
      rw [beq_self_eq_true]
      go_wp2_with fail
      refine (back_any _ S G L g ys es [] (by rw [List.append_nil]; exact S7.out) (by omega) (by rw [List.append_nil]; omega)).mono ?_
      rintro r w8 ⟨rfl, s8, f8⟩
      rw [HU.out] at s8
      have S8 := Lib.hid s8
      have F8 := Lib.hid f8
      have Oa8 := Lib.hid (Own.fr (S2 := fun k => S k ∨ G k) Oa7.out f8 (fun k hk h => by
        rcases hk with hk | hk
        · exact hk
        · rcases h with h | h
          · have := Rw.lt HS.out.l h; omega
          · have := Rw.lt HS.out.g h; omega))
      have L8 := Lib.hid (IsL.fr (S2 := fun k => S k ∨ G k) L7.out f8 (fun k hk => (HD.out k hk).1))
      have FF := Lib.hid (((((HF.out.then_ F5.out (fun _ h => h.elim)).then_ F6.out (fun _ h => h.elim)).then_ F7.out (fun _ h => h.elim))).then_ f8 (fun k hk => .inr (HLow.out k (hk.elim .inl (fun h => .inr (.inl h))))))
      clear s8 f8
      go_wp2_with (first
        | (go_at_call 16; go_must (refine (len_any _ S L _ [] S8.out.l).mono ?_); rintro r w9 ⟨rfl, rfl⟩)
        | (go_at_call 13; go_must (refine (all_any _ S2 K _ ys L8.out (by omega)).mono ?_); rintro r w9 ⟨vc, rfl, oc, f9⟩; have Oc := Lib.hid oc; have F9 := Lib.hid f9; have Oa9 := Lib.hid (Own.fr (S2 := fun _ => False) Oa8.out f9 (fun _ _ h => h)); clear oc f9)
        | (go_at_call 14; go_must (refine (same_any _ _ _ vc va ys ys Oc.out Oa9.out (by omega)).mono ?_); rintro r w10 ⟨rfl, f10⟩; have F10 := Lib.hid f10; rw [beq_self_eq_true]; clear f10))
      go_ret
      exact ⟨rfl, (FF.out.then_ F9.out (fun _ h => h.elim)).then_ F10.out (fun _ h => h.elim)⟩
end Go.Proofs.Ytlfbgndaojcgdaa
