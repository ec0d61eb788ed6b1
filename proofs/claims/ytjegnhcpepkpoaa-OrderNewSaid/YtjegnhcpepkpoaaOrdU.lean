/- Law 12: the script's loop; the walk of OrderWhole. -/
import Derived.Test.YtjegnhcpepkpoaaOrdV
namespace Go.Proofs.Ytjegnhcpepkpoaa
open Go.RowKit

theorem Row.oc {w : World} {a : Option Addr} {l : List OC} (h : Row w a (l.flatMap OC.cells)) {i : Nat} (hi : i < l.length) :
    ∃ b off, a = some ⟨b, off, none⟩ ∧ b < w.heap.size ∧ w.cell? ⟨b, off + i * 3, none⟩ = some (.int .i64 l[i].kind) ∧ w.cell? ⟨b, off + i * 3 + 1, none⟩ = some (.int .i64 l[i].stamp) ∧ w.cell? ⟨b, off + i * 3 + 2, none⟩ = some (.int .i64 l[i].at_) := by
  have g : ∀ j u, j < 3 → (OC.cells l[i])[j]? = some u → ∃ b off, a = some ⟨b, off, none⟩ ∧ w.cell? ⟨b, off + i * 3 + j, none⟩ = some u := fun j u hj hu => by
    obtain ⟨b, off, e, hc⟩ := h (i * 3 + j) u ((flat_get (f := OC.cells) (n := 3) (fun _ => rfl) l i hi j hj).trans hu)
    exact ⟨b, off, e, by rw [Nat.add_assoc]; exact hc⟩
  obtain ⟨b, off, e, c0⟩ := g 0 _ (by omega) rfl
  subst e
  have g2 : ∀ j u, j < 3 → (OC.cells l[i])[j]? = some u → w.cell? ⟨b, off + i * 3 + j, none⟩ = some u := fun j u hj hu => by
    obtain ⟨b', off', e, hc⟩ := g j u hj hu
    simp only [Option.some.injEq, Addr.mk.injEq] at e
    obtain ⟨rfl, rfl, _⟩ := e
    exact hc
  exact ⟨b, off, rfl, World.block_lt_of_cell? w _ c0, c0, g2 1 _ (by omega) rfl, g2 2 _ (by omega) rfl⟩
theorem mem_put {ps : List Pr} {s a : Int} {p : Pr} (h : p ∈ putL ps s a) : p ∈ ps ∨ p = (s, a) := by
  unfold putL at h
  split at h
  · rcases List.mem_or_eq_of_mem_set h with h | h
    · exact .inl h
    · exact .inr h
  · rcases List.mem_append.1 h with h | h
    · exact .inl (List.mem_of_mem_take h)
    · rcases List.mem_cons.1 h with h | h
      · exact .inr h
      · exact .inl (List.mem_of_mem_drop h)
theorem mem_drop' {ps : List Pr} {s : Int} {p : Pr} (h : p ∈ dropL ps s) : p ∈ ps := by
  unfold dropL at h
  split at h
  · rcases List.mem_append.1 h with h | h
    · exact List.mem_of_mem_take h
    · exact List.mem_of_mem_drop h
  · exact h
theorem runs_bnd {ps : List Pr} {cs : List OC} {B : Int} (hp : ∀ p ∈ ps, ¬ p.1 < B) (hc : ∀ c ∈ cs, B ≤ c.stamp) : ∀ p ∈ oruns ps cs, ¬ p.1 < B := by
  induction cs generalizing ps with
  | nil => exact hp
  | cons c cs ih =>
    refine ih (ps := c.run ps) (fun p h => ?_) (fun d hd => hc d (List.mem_cons_of_mem _ hd))
    unfold OC.run at h
    split at h
    · rcases mem_put h with h | h
      · exact hp p h
      · have := hc c (List.mem_cons_self ..)
        rw [h]
        simp
        omega
    · exact hp p (mem_drop' h)

set_option maxRecDepth 4000 in
set_option maxHeartbeats 3200000 in
theorem whole_any (w : World) (a : Option Addr) (cap : Nat) (cs : List OC) (fm t2 : Int) (hr : Row w a (cs.flatMap OC.cells)) (hB : ∀ c ∈ cs, -9223372036854775808 ≤ c.stamp) :
    Calls Try.prog 6 #[.slice a cs.length cap, .int .i64 fm, .int .i64 t2] w fun r w' => r = .returned (.bool true) ∧ Fr (fun _ => False) w w' := by
  obtain ⟨i0, hi0, hz0, hz1, hz2⟩ := info_parts Try.infoPair
  have he := eqm_Pair
  have HR := Lib.hid hr
  have HBd := Lib.hid hB
  clear hr hB
  go_enter Try.func6, Try.ntmps6
  go_wp2_with fail
  refine (alive12_any w).mono ?_
  rintro e w1 ⟨rfl, f1⟩
  have F1 := Lib.hid f1
  clear f1
  by_cases hbig : (100 : Int) < cs.length
  · go_wp2_with fail
    go_ret
    exact ⟨rfl, F1.out⟩
  cases hz : (t2 == 0)
  rotate_left
  · go_wp2_with fail
    go_ret
    exact ⟨rfl, F1.out⟩
  have HZ := Lib.hid (show t2 ≠ 0 from by simpa using hz)
  have hlen : cs.length ≤ 100 := by omega
  go_wp2_with fail
  have O0 := Lib.hid (new_o w1)
  have F2 := Lib.hid (F1.out.alloc (.cells #[.slice none 0 0] 27))
  have Hw1 := Lib.hid (show w.heap.size ≤ w1.heap.size from F1.out.size)
  obtain ⟨L, hL⟩ : ∃ L, w1.heap.size = L := ⟨_, rfl⟩
  rw [hL] at O0 Hw1 ⊢
  clear hL
  go_loopw [29] (fun i wr => ∃ k : Nat, k ≤ cs.length ∧ i = .int .i64 k ∧ ∃ S, IsO wr S L (oruns [] (cs.take k)) ∧ (∀ j, S j → w.heap.size ≤ j) ∧ Fr (fun _ => False) w wr) (fun i _ => ((cs.length : Int) - intOf i).toNat)
  case atStart => exact ⟨0, by omega, rfl, _, O0.out, fun j hj => by have hj : j = L := hj; have := Hw1.out; omega, F2.out⟩
  case round =>
    obtain ⟨k, hk, rfl, S, ho, hlow, hf⟩ := hrel
    have HO := Lib.hid ho
    have HLow := Lib.hid hlow
    have HF := Lib.hid hf
    by_cases hlt : k < cs.length
    · obtain ⟨b, off, rfl, hb, x0, x1, x2⟩ := (HR.out.fr hf (fun b hb h => h)).oc hlt
      have hsucc := oruns_succ (ps := []) hlt
      have hln := oruns_len [] (cs.take k)
      have hris := ris_runs (ps := []) List.Pairwise.nil (cs.take k)
      rw [List.length_take, List.length_nil] at hln
      obtain ⟨ys, hys⟩ : ∃ ys, oruns [] (cs.take k) = ys := ⟨_, rfl⟩
      obtain ⟨c, hce⟩ : ∃ c, cs[k] = c := ⟨_, rfl⟩
      rw [hys] at hsucc hln hris HO
      rw [hce] at hsucc x0 x1 x2
      have HSc := Lib.hid hsucc
      have HRi := Lib.hid hris
      have hyl : ys.length ≤ 1000 := by omega
      have hltI : (k : Int) < cs.length := by omega
      have HOc := Lib.hid (show IsO ((wr.alloc (.cells #[.int .i64 c.kind, .int .i64 c.stamp, .int .i64 c.at_] 33)).alloc (.cells #[.slice none 0 0, .slice none 0 0] 31)) S L ys from IsO.fr (S2 := fun _ => False) HO.out (((Fr.refl _ wr).alloc _).alloc _) (fun _ _ h => h))
      have HMc := Lib.hid (new_m (wr.alloc (.cells #[.int .i64 c.kind, .int .i64 c.stamp, .int .i64 c.at_] 33)))
      have hz1 : (wr.alloc (.cells #[.int .i64 c.kind, .int .i64 c.stamp, .int .i64 c.at_] 33)).heap.size = wr.heap.size + 1 := Array.size_push ..
      have hz2 : ((wr.alloc (.cells #[.int .i64 c.kind, .int .i64 c.stamp, .int .i64 c.at_] 33)).alloc (.cells #[.slice none 0 0, .slice none 0 0] 31)).heap.size = wr.heap.size + 2 := by rw [show ((wr.alloc (.cells #[.int .i64 c.kind, .int .i64 c.stamp, .int .i64 c.at_] 33)).alloc (.cells #[.slice none 0 0, .slice none 0 0] 31)).heap.size = (wr.alloc (.cells #[.int .i64 c.kind, .int .i64 c.stamp, .int .i64 c.at_] 33)).heap.size + 1 from Array.size_push .., hz1]
      rw [hz1] at HMc
      have HZ2 := Lib.hid hz2
      have HDj := Lib.hid (show ∀ j, S j → ¬ (fun k => k = wr.heap.size + 1) j from fun j hj h => by have := Rw.lt HO.out hj; have h : j = wr.heap.size + 1 := h; omega)
      have HFc := Lib.hid ((HF.out.alloc (.cells #[.int .i64 c.kind, .int .i64 c.stamp, .int .i64 c.at_] 33)).alloc (.cells #[.slice none 0 0, .slice none 0 0] 31))
      have Hsw := Lib.hid (show w.heap.size ≤ wr.heap.size from HF.out.size)
      clear ho hlow hf hys hce hsucc hris hz1 hz2
      go_wp2_with (go_at_call 8; go_must (with_reducible refine (does_new _ S (fun k => k = wr.heap.size + 1) L (wr.heap.size + 1) ys c HOc.out HMc.out HDj.out hyl HRi.out).mono ?_); rintro e w2 ⟨bb, rfl, S2, o2, f2, g2⟩; have O2 := Lib.hid o2; have Fd := Lib.hid f2; have Gd := Lib.hid g2; clear o2 f2 g2)
      go_roundw
      case rel =>
        refine ⟨k + 1, by omega, by go_num, S2, by rw [HSc.out]; exact O2.out, fun j hj => ?_, HFc.out.then_ Fd.out (fun j hj => ?_)⟩
        · rcases Gd.out j hj with h | h
          · exact HLow.out j h
          · have := HZ2.out; have := Hsw.out; omega
        · rcases hj with h | h
          · exact .inr (HLow.out j h)
          · have h : j = wr.heap.size + 1 := h
            have := Hsw.out
            exact .inr (by omega)
      case measure => simp [intOf]; omega
    · clear ho hlow hf
      obtain rfl : k = cs.length := by omega
      have e : cs.take cs.length = cs := List.take_length
      rw [e] at HO
      have hris := ris_runs (ps := []) List.Pairwise.nil cs
      have hln := oruns_len [] cs
      have hbd := runs_bnd (ps := []) (fun _ h => nomatch h) HBd.out
      rw [List.length_nil] at hln
      obtain ⟨ps, hps⟩ : ∃ ps, oruns [] cs = ps := ⟨_, rfl⟩
      rw [hps] at HO hris hln hbd
      have hpl : ps.length ≤ 100 := by omega
      have HRi := Lib.hid hris
      have Hra := Lib.hid (range_all hbd)
      clear e hps hris hbd hln
      go_wp2_with fail
      have PR := range_up wr S L ps (-9223372036854775808) 0 HO.out (by omega) HRi.out
      rw [Hra.out] at PR
      with_reducible refine PR.mono ?_
      clear PR
      rintro e w3 ⟨v3, rfl, ov3, f3⟩
      have OV3 := Lib.hid ov3
      have O3 := Lib.hid (IsO.fr (S2 := fun _ => False) HO.out f3 (fun _ _ h => h))
      have F3 := Lib.hid (HF.out.then_ f3 (fun _ h => h.elim))
      obtain ⟨a3, c3, rfl, -, -⟩ := own_form ov3.1
      obtain ⟨n, hn⟩ : ∃ n, ps.length = n := ⟨_, rfl⟩
      have HN := Lib.hid hn
      rw [hn] at hpl
      have OV3n := Lib.hid (show w3.ownsRow 0 44 2 (.slice a3 n c3) n (prs ps) from hn ▸ ov3.1)
      rw [hn]
      clear ov3 f3 hn
      go_wp2_with fail
      go_loopw [43, 11] (fun i v wr => ∃ k : Nat, k ≤ n ∧ i = .int .i64 k ∧ OwnP wr (Gro (fun _ => False) w3 wr) v ((ps.take k).filter (inP fm t2)) ∧ Fr (fun _ => False) w3 wr) (fun i _ _ => ((n : Int) - intOf i).toNat)
      case atStart => exact ⟨0, by omega, rfl, ⟨World.ownsRow_nil _ _ _ _, fun k hk => by simp [Value.ownBlock] at hk⟩, Fr.refl _ _⟩
      case round =>
        obtain ⟨k, hk, rfl, ov, hf2⟩ := hrel
        have HV := Lib.hid ov
        have HF2 := Lib.hid hf2
        by_cases hlt : k < n
        · have hltI : (k : Int) < n := by omega
          have hks : k < ps.length := by rw [HN.out]; exact hlt
          obtain ⟨g, cp, e1⟩ := own_some OV3n.out (by omega)
          simp only [Value.slice.injEq] at e1
          obtain ⟨rfl, -, rfl⟩ := e1
          have ho4 := own_fr OV3n.out hf2 (fun _ _ h => h)
          obtain ⟨p0, p1⟩ := own_pair ho4 HN.out hks
          obtain ⟨x, hx⟩ : ∃ x, ps[k].1 = x := ⟨_, rfl⟩
          obtain ⟨y, hy⟩ : ∃ y, ps[k].2 = y := ⟨_, rfl⟩
          rw [hx] at p0
          rw [hy] at p1
          have w1 : IntKind.i64.wrap ((k : Int) + 1) = k + 1 := IntWalk.i64_in _ (by omega)
          have HPk := Lib.hid (show (ps.take (k + 1)).filter (inP fm t2) = (ps.take k).filter (inP fm t2) ++ (if inP fm t2 (x, y) = true then [(x, y)] else []) from by
            rw [List.take_succ_eq_append_getElem hks, List.filter_append, show ps[k] = (x, y) from by rw [← hx, ← hy]]
            congr 1
            simp only [List.filter_cons, List.filter_nil])
          obtain ⟨N, hN⟩ : ∃ N, ((ps.take k).filter (inP fm t2)).length = N := ⟨_, rfl⟩
          have hNb : N ≤ 100 := by
            have h1 := List.length_filter_le (inP fm t2) (ps.take k)
            rw [List.length_take] at h1
            omega
          have HNl := Lib.hid hN
          have Hov := Lib.hid (show wr.ownsRow 0 44 2 u11 N _ from hN ▸ ov.1)
          have Hbp := Lib.hid (heap_alloc_new wr (.cells #[.int .i64 x, .int .i64 y] 44))
          have FAp := Lib.hid ((Fr.refl (fun _ => False) wr).alloc (.cells #[.int .i64 x, .int .i64 y] 44))
          have Hprev := Lib.hid (show ∀ m, k = m + 1 → ∃ xp, wr.cell? ⟨g, m * 2, none⟩ = some (.int .i64 xp) ∧ xp < x from fun m hm => by
            have hms : m < ps.length := by omega
            refine ⟨ps[m].1, (own_pair ho4 HN.out hms).1, ?_⟩
            rw [← hx]
            exact List.pairwise_iff_getElem.1 HRi.out m k hms hks (by omega))
          clear ov hf2 hx hy hN ho4
          go_upto_region 16 with fail
          go_cut [60] from 44 to 75 (fun s w' => s = .bool false ∧ w'.heap[wr.heap.size]? = some (.cells #[.int .i64 x, .int .i64 y] 44 (0, 0)) ∧ Fr (fun _ => False) wr w')
          case first =>
            have q0 := blk_cell Hbp.out 0 rfl
            have hgb : g < wr.heap.size := World.block_lt_of_cell? wr _ p0
            rcases k with _ | m
            · have hk1 : decide ((0 : Int) < ((0 : Nat) : Int)) = false := by decide
              go_quiet (fail)
              go_wp2_with fail
              go_meet
              exact ⟨rfl, Hbp.out, by (repeat (first | (with_reducible exact Fr.refl _ _) | (with_reducible refine Fr.drew ?_) | (with_reducible refine Fr.drewN ?_ _) | (with_reducible refine Fr.alloc ?_ _) | (with_reducible refine Fr.set1 ?_ _) | (with_reducible refine Fr.setNew ?_ (by omega) _))) <;> exact FAp.out⟩
            · obtain ⟨xp, hxp, hlx⟩ := Hprev.out m rfl
              have hk1 : 0 < (m : Int) + 1 := by omega
              have wm : IntKind.i64.wrap ((m : Int) + 1 - 1) = m := by rw [IntWalk.i64_in _ (by omega)]; omega
              have hxpA : (wr.alloc (.cells #[.int .i64 x, .int .i64 y] 44)).cell? ⟨g, m * 2, none⟩ = some (.int .i64 xp) := FAp.out.cell (p := ⟨g, m * 2, none⟩) hxp (fun h => h)
              have hlx2 : ¬ x ≤ xp := by omega
              have hmn : (m : Int) < n := by omega
              have hm0 : 0 ≤ (m : Int) := by omega
              clear Hprev
              go_quiet (fail)
              go_wp2_with fail
              go_meet
              exact ⟨rfl, Hbp.out, by (repeat (first | (with_reducible exact Fr.refl _ _) | (with_reducible refine Fr.drew ?_) | (with_reducible refine Fr.drewN ?_ _) | (with_reducible refine Fr.alloc ?_ _) | (with_reducible refine Fr.set1 ?_ _) | (with_reducible refine Fr.setNew ?_ (by omega) _))) <;> exact FAp.out⟩
          case rest =>
          obtain ⟨rfl, bpc, fc⟩ := hcut
          have FCc := Lib.hid fc
          have Hovc := Lib.hid (own_fr Hov.out fc (fun _ _ h => h))
          have q0 := blk_cell bpc 0 rfl
          have q1 := blk_cell bpc 1 rfl
          have Hbpc := Lib.hid bpc
          clear fc bpc
          by_cases ha1 : fm ≤ x
          · by_cases hb1 : x ≤ t2
            · have hin := Lib.hid (show inP fm t2 (x, y) = true from by simp [inP, ha1, hb1])
              go_wp2_with (at_builtin; go_must (refine wpList_append_fresh _ wc rfl (.tmp 71) (.tmp 73) 25 rfl 44 i0 (.agg #[.int .i64 0, .int .i64 0]) 2 16 Try.underlying25 hi0 hz0 hz1 hz2 rfl (by decide) _ N _ rfl Hovc.out #[.int .i64 x, .int .i64 y] rfl rfl rfl (by intro u hu; simp at hu; rcases hu with rfl | rfl <;> rfl) (by omega) (by omega) ?_); intro g2 cap2 w5 hown5 hf5 hat5; have HW5 := Lib.hid hown5; have HF5 := Lib.hid hf5; have HT5 := Lib.hid hat5; clear hown5 hf5 hat5)
              go_roundw
              case rel =>
                have hp := HPk.out
                rw [if_pos hin.out] at hp
                have hge : ∀ m, u11.ownBlock = some m → w3.heap.size ≤ m := fun m hm => by
                  rcases HV.out.2 m hm with h | h
                  · exact h.elim
                  · exact h.1
                have hs3 := (HF2.out.then_ FCc.out (fun _ h => h.elim)).size
                refine ⟨k + 1, by omega, by go_num, ⟨?_, fun m hm => ?_⟩, ?_⟩
                · rw [hp, prs_app, List.length_append, HNl.out]
                  exact HW5.out
                · refine .inr ⟨?_, own_lt HW5.out hm⟩
                  rcases HT5.out m hm with h | h
                  · exact hge m h
                  · have h3 : (wc.alloc (.cells #[.int .i64 x, .int .i64 y] 44)).heap.size = wc.heap.size + 1 := Array.size_push ..
                    omega
                · exact ((HF2.out.then_ FCc.out (fun _ h => h.elim)).alloc (.cells #[.int .i64 x, .int .i64 y] 44)).then_ HF5.out (fun m hm => .inr (hge m hm))
              case measure => simp [intOf]; omega
            · have hin := Lib.hid (show inP fm t2 (x, y) = false from by simp [inP]; omega)
              go_wp2_with fail
              go_roundw
              case rel =>
                have hp := HPk.out
                rw [if_neg (by rw [hin.out]; decide), List.append_nil] at hp
                have hown : OwnP wc (Gro (fun _ => False) w3 wc) u11 ((ps.take k).filter (inP fm t2)) := ⟨(OwnP.fr (S2 := fun _ => False) HV.out FCc.out (fun _ _ h => h)).1, fun m hm => (HV.out.2 m hm).elim (fun h => h.elim) (fun h => .inr ⟨h.1, Nat.lt_of_lt_of_le h.2 FCc.out.size⟩)⟩
                exact ⟨k + 1, by omega, by go_num, by rw [hp]; exact hown, HF2.out.then_ FCc.out (fun _ h => h.elim)⟩
              case measure => simp [intOf]; omega
          · have hin := Lib.hid (show inP fm t2 (x, y) = false from by simp [inP]; omega)
            go_wp2_with fail
            go_roundw
            case rel =>
              have hp := HPk.out
              rw [if_neg (by rw [hin.out]; decide), List.append_nil] at hp
              have hown : OwnP wc (Gro (fun _ => False) w3 wc) u11 ((ps.take k).filter (inP fm t2)) := ⟨(OwnP.fr (S2 := fun _ => False) HV.out FCc.out (fun _ _ h => h)).1, fun m hm => (HV.out.2 m hm).elim (fun h => h.elim) (fun h => .inr ⟨h.1, Nat.lt_of_lt_of_le h.2 FCc.out.size⟩)⟩
              exact ⟨k + 1, by omega, by go_num, by rw [hp]; exact hown, HF2.out.then_ FCc.out (fun _ h => h.elim)⟩
            case measure => simp [intOf]; omega
        · obtain rfl : k = n := by omega
          have etk : ps.take k = ps := List.take_of_length_le (by rw [HN.out]; exact Nat.le_refl _)
          rw [etk] at HV
          have HFl := Lib.hid (range_filter HRi.out fm HZ.out)
          have hfl := List.length_filter_le (inP fm t2) ps
          obtain ⟨FL, hFL⟩ : ∃ FL, ps.filter (inP fm t2) = FL := ⟨_, rfl⟩
          rw [hFL] at HV HFl hfl
          obtain ⟨m, hm⟩ : ∃ m, FL.length = m := ⟨_, rfl⟩
          have Hm := Lib.hid hm
          obtain ⟨a5, c5, hv5, -, -⟩ := own_form HV.out.1
          rw [hm] at hv5
          subst hv5
          have HV1 := Lib.hid (show wr.ownsRow 0 44 2 (.slice a5 m c5) m (prs FL) from hm ▸ HV.out.1)
          have O5 := Lib.hid (IsO.fr (S2 := fun _ => False) O3.out HF2.out (fun _ _ h => h))
          have Fw := Lib.hid (F3.out.then_ HF2.out (fun _ h => h.elim))
          have hmb : m ≤ 100 := by rw [← hm]; have := HN.out; omega
          clear ov hf2 etk hFL hm hfl HV
          go_wp2_with fail
          have PR := range_up wr S L ps fm t2 O5.out (by have := HN.out; omega) HRi.out
          rw [HFl.out] at PR
          with_reducible refine PR.mono ?_
          clear PR
          rintro e w6 ⟨v6, rfl, ov6, f6⟩
          obtain ⟨a6, c6, hv6, -, -⟩ := own_form ov6.1
          rw [Hm.out] at hv6
          subst hv6
          have HV6 := Lib.hid (show w6.ownsRow 0 44 2 (.slice a6 m c6) m (prs FL) from Hm.out ▸ ov6.1)
          have HV7 := Lib.hid (own_fr HV1.out f6 (fun _ _ h => h))
          have F6 := Lib.hid (Fw.out.then_ f6 (fun _ h => h.elim))
          have HLn := Lib.hid (show Calls Try.prog 9 #[.pointer (some ⟨L, 0, none⟩)] w6 fun e w' => e = .returned (.int .i64 k) ∧ w' = w6 from HN.out ▸ olen_any w6 S L ps (IsO.fr (S2 := fun _ => False) O5.out f6 (fun _ _ h => h)))
          clear ov6 f6
          go_wp2_with (go_at_call 9; go_must (refine HLn.out.mono ?_); rintro e w7 ⟨rfl, rfl⟩)
          go_loopw [94] (fun i wr => ∃ j : Nat, j ≤ m ∧ i = .int .i64 j ∧ Fr (fun _ => False) w7 wr) (fun i _ => ((m : Int) - intOf i).toNat)
          case atStart => exact ⟨0, by omega, rfl, Fr.refl _ _⟩
          case round =>
            obtain ⟨j, hj, rfl, hf7⟩ := hrel
            have HF7 := Lib.hid hf7
            by_cases hjm : j < m
            · have hjI : (j : Int) < m := by omega
              have hjl : j < FL.length := by rw [Hm.out]; exact hjm
              obtain ⟨g6, cc6, e6⟩ := own_some HV6.out (by omega)
              simp only [Value.slice.injEq] at e6
              obtain ⟨rfl, -, rfl⟩ := e6
              obtain ⟨g5, cc5, e5⟩ := own_some HV7.out (by omega)
              simp only [Value.slice.injEq] at e5
              obtain ⟨rfl, -, rfl⟩ := e5
              obtain ⟨p0, p1⟩ := own_pair (own_fr HV6.out hf7 (fun _ _ h => h)) Hm.out hjl
              obtain ⟨q0, q1⟩ := own_pair (own_fr HV7.out hf7 (fun _ _ h => h)) Hm.out hjl
              obtain ⟨x, hx⟩ : ∃ x, FL[j].1 = x := ⟨_, rfl⟩
              obtain ⟨y, hy⟩ : ∃ y, FL[j].2 = y := ⟨_, rfl⟩
              rw [hx] at p0 q0
              rw [hy] at p1 q1
              have w1 : IntKind.i64.wrap ((j : Int) + 1) = j + 1 := IntWalk.i64_in _ (by omega)
              clear hf7 hx hy
              go_wp2_with fail
              go_quiet (fail)
              go_wp2_with fail
              go_roundw
              case rel => exact ⟨j + 1, by omega, by go_num, by (repeat (first | (with_reducible exact Fr.refl _ _) | (with_reducible refine Fr.drew ?_) | (with_reducible refine Fr.drewN ?_ _) | (with_reducible refine Fr.alloc ?_ _) | (with_reducible refine Fr.set1 ?_ _) | (with_reducible refine Fr.setNew ?_ (by omega) _))) <;> exact HF7.out⟩
              case measure => simp [intOf]; omega
            · have hjI : ¬ (j : Int) < m := by omega
              clear hf7
              go_wp2_with fail
              go_ret
              exact ⟨rfl, F6.out.then_ HF7.out (fun _ h => h.elim)⟩
end Go.Proofs.Ytjegnhcpepkpoaa
