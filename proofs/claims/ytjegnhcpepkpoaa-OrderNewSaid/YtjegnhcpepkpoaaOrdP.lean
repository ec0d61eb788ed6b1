/- Package order: Put. -/
import Derived.Test.YtjegnhcpepkpoaaOrdQ
namespace Go.Proofs.Ytjegnhcpepkpoaa
open Go.RowKit

set_option maxHeartbeats 3200000 in
theorem put_any (w : World) (S : Nat → Prop) (L : Nat) (ps : List Pr) (s at_ : Int) (h : IsO w S L ps) (hn : ps.length ≤ 1000) (hR : Ris ps) :
    Calls Try.prog 14 #[.pointer (some ⟨L, 0, none⟩), .int .i64 s, .int .i64 at_] w fun e w' => e = .returned (.bool (!decide (low ps s < ps.length ∧ (ps.map (·.1))[low ps s]? = some s))) ∧ ∃ S', IsO w' S' L (putL ps s at_) ∧ Fr S w w' ∧ ∀ k, S' k → S k ∨ w.heap.size ≤ k := by
  obtain ⟨i0, hi0, hz0, hz1, hz2⟩ := info_parts Try.infoPair
  have H := Lib.hid h
  have HF := Lib.hid (find_any w L S ps s h (by omega) hR)
  have hle := low_le ps s
  obtain ⟨i, hi⟩ : ∃ i, low ps s = i := ⟨_, rfl⟩
  unfold putL
  rw [hi] at HF hle ⊢
  clear h hi
  by_cases hlt : i < ps.length
  · have hget : (ps.map (·.1))[i]? = some ps[i].1 := by rw [List.getElem?_map, List.getElem?_eq_getElem hlt]; rfl
    rw [hget]
    by_cases he : ps[i].1 = s
    · have hc : i < ps.length ∧ some ps[i].1 = some s := ⟨hlt, by rw [he]⟩
      rw [decide_eq_true hc, if_pos hc]
      have HP := Lib.hid (prs_set1 ps hlt at_)
      have HE := Lib.hid he
      have hltI : (i : Int) < ps.length := by omega
      go_enter Try.func14, Try.ntmps14
      go_wp2_with fail
      refine HF.out.mono ?_
      rintro e w2 ⟨rfl, f2⟩
      obtain ⟨v, hb, ho, hS, hSv, hl⟩ := IsO.fr (S2 := fun _ => False) H.out f2 (fun _ _ h => h)
      obtain ⟨g, cap, rfl⟩ := own_some ho (by omega)
      have c0 := blk_cell hb 0 rfl
      obtain ⟨p0, p1⟩ := own_pair ho rfl hlt
      rw [he] at p0
      have fz := ho.frozenAt (i * 2 + 1)
      have HR := Lib.hid (rw_put (j := i * 2 + 1) (u := .int .i64 at_) hb ho hS hSv hl)
      have F2 := Lib.hid f2
      clear hb ho hS hSv hl he hget hc f2
      go_wp2_with fail
      go_ret
      refine ⟨rfl, S, ?_, (F2.out.mono (fun _ h => h.elim)).then_ HR.out.2 (fun k hk => .inl hk), fun k hk => .inl hk⟩
      have h := HR.out.1
      rw [HP.out, HE.out] at h
      unfold IsO
      rw [List.length_set]
      exact h
    · have hc : ¬ (i < ps.length ∧ some ps[i].1 = some s) := fun h => he (Option.some.inj h.2)
      rw [decide_eq_false hc, if_neg hc]
      have hltI : (i : Int) < ps.length := by omega
      have hne : (ps[i].1 == s) = false := by simpa using he
      go_enter Try.func14, Try.ntmps14
      go_wp2_with fail
      refine HF.out.mono ?_
      rintro e w2 ⟨rfl, f2⟩
      have hO2 := IsO.fr (S2 := fun _ => False) H.out f2 (fun _ _ h => h)
      have HO2 := Lib.hid hO2
      have F2 := Lib.hid f2
      obtain ⟨v, hb, ho, hS, hSv, hl⟩ := hO2
      obtain ⟨gg, cap, rfl⟩ := own_some ho (by omega)
      have c0 := blk_cell hb 0 rfl
      obtain ⟨p0, -⟩ := own_pair ho rfl hlt
      have Hb := Lib.hid hb
      have Ho := Lib.hid ho
      have Hl := Lib.hid hl
      have Hs := Lib.hid hS
      have Hsv := Lib.hid hSv
      have Hne := Lib.hid (show ¬ (Value.slice (some ⟨gg, 0, none⟩) ps.length cap).ownBlock = some L from fun he => (Hsv.out L he).2 rfl)
      have Hn := Lib.hid (show prs (ps ++ [(0, 0)]) = prs ps ++ [.int .i64 0, .int .i64 0] from by rw [prs_app]; rfl)
      clear hb ho hl hS hSv f2 he hget hc
      go_upto_region 8 with (at_builtin; go_must (refine wpList_append_fresh _ w2 rfl (.tmp 44) (.tmp 46) 25 rfl 44 i0 (.agg #[.int .i64 0, .int .i64 0]) 2 16 Try.underlying25 hi0 hz0 hz1 hz2 rfl (by decide) (.slice (some ⟨gg, 0, none⟩) ps.length cap) ps.length _ rfl Ho.out #[.int .i64 0, .int .i64 0] rfl rfl rfl (by intro u hu; simp at hu; subst hu; rfl) (by omega) (by omega) ?_); intro g2 cap2 w3 hown3 hf3 hat3; have hb' := hf3.blk (blk_alloc Hb.out _) Hne.out; have c0' := blk_cell hb' 0 rfl; have f0' := blk_free hb' 0; have HR := Lib.hid (rw_push Hb.out Hs.out Hsv.out Hl.out ((Fr.refl _ w2).alloc (.cells #[.int .i64 0, .int .i64 0] 44)) hown3 hf3 hat3); clear hb' hown3 hf3 hat3)
      obtain ⟨W, hW⟩ : ∃ W, w3.setCell ⟨L, 0, none⟩ (.slice (some ⟨g2, 0, none⟩) (ps.length + 1) cap2) = W := ⟨_, rfl⟩
      rw [hW] at HR ⊢
      have HR2 := Lib.hid (show Rw W (Gro S w2 W) L 27 44 2 [] (ps.length + 1) (prs (ps ++ [(0, 0)])) from by rw [Hn.out]; exact HR.out.1)
      have HFW := Lib.hid (show Fr S w2 W from HR.out.2)
      clear hW c0' f0' HR
      go_cut [] from 8 (fun w' => ∃ S' X, IsO w' S' L (ps.take i ++ X :: ps.drop i) ∧ Fr S w2 w' ∧ ∀ k, S' k → S k ∨ w2.heap.size ≤ k)
      case first =>
        obtain ⟨v1, hb1, ho1, hS1, hSv1, hl1⟩ := HR2.out
        obtain ⟨g, cap1, rfl⟩ := own_some ho1 (by omega)
        have c1 := blk_cell hb1 0 rfl
        have ho1' := ho1
        obtain ⟨-, hno | ⟨g', cp', cur, hv', -, hg1, hnc, hcm, hcs, htk⟩⟩ := ho1'
        · exact absurd hno.2 (by omega)
        simp only [Value.slice.injEq, Option.some.injEq, Addr.mk.injEq, and_true, true_and] at hv'
        obtain ⟨rfl, rfl⟩ := hv'
        have w1 : IntKind.i64.wrap ((i : Int) + 1) = i + 1 := IntWalk.i64_in _ (by omega)
        have b1 : (i : Int) + 1 ≤ ps.length + 1 := by omega
        have b0 : 0 ≤ (i : Int) + 1 := by omega
        have b5 : (i : Int) ≤ ps.length + 1 := by omega
        have b2 : ps.length + 1 ≤ cap1 := hnc
        have b3 : i ≤ ps.length + 1 := by omega
        have b4 : i + 1 ≤ ps.length + 1 := by omega
        have HG1 := Lib.hid hg1
        have HTK := Lib.hid htk
        have HCS := Lib.hid hcs
        have HB1 := Lib.hid hb1
        have HSV1 := Lib.hid hSv1
        have HS1 := Lib.hid hS1
        have HL1 := Lib.hid hl1
        have HCM := Lib.hid hcm
        have hG : W.drew.heap[g]? = some (.cells cur.toList.toArray 44 (0, 0)) := by rw [Array.toArray_toList]; exact hg1
        have HGd := Lib.hid hG
        have Hm := Lib.hid (show ps.length - i = Nat.min (ps.length + 1 - i) (ps.length - i) from by show ps.length - i = min (ps.length + 1 - i) (ps.length - i); omega)
        have Hnn := Lib.hid (show ((prs ps).drop (i * 2)).length = (ps.length - i) * 2 from by rw [List.length_drop, prs_len]; omega)
        have Hpos := Lib.hid (show 0 < ps.length - i → (if cap1 = i + 1 then some (⟨g, 0, none⟩ : Addr) else some ⟨g, (i + 1) * 2, none⟩) = some ⟨g, (i + 1) * 2, none⟩ ∧ ∃ ad, (if cap1 = i then some (⟨g, 0, none⟩ : Addr) else some ⟨g, i * 2, none⟩) = some ad ∧ ∀ j v, ((prs ps).drop (i * 2))[j]? = some v → W.drew.cell? (ad.add j) = some v from fun h0 => by
          refine ⟨if_neg (by omega), ⟨g, i * 2, none⟩, if_neg (by omega), fun j v hv => ?_⟩
          rw [List.getElem?_drop] at hv
          have hx : (prs (ps ++ [(0, 0)]))[i * 2 + j]? = some v := by rw [prs_app, List.getElem?_append_left (by have := (List.getElem?_eq_some_iff.1 hv).1; exact this)]; exact hv
          have hc := ho1.cells (g := g) rfl (i * 2 + j) v hx
          have e1 : (⟨g, 0, none⟩ : Addr).add (i * 2 + j) = ⟨g, i * 2 + j, none⟩ := by unfold Addr.add; split <;> simp_all
          have e2 : (⟨g, i * 2, none⟩ : Addr).add j = ⟨g, i * 2 + j, none⟩ := by unfold Addr.add; split <;> simp_all
          rw [e1] at hc
          rw [e2]
          exact hc)
        have Hfit := Lib.hid (show (i + 1) * 2 + ((prs ps).drop (i * 2)).length ≤ cur.toList.length from by rw [List.length_drop, prs_len, show cur.toList.length = cap1 * 2 from (Array.length_toList).trans hcs]; omega)
        have Hone := Lib.hid (show ∀ v ∈ (prs ps).drop (i * 2), v.oneCell' = true from fun v hv => prs_one ps v (List.mem_of_mem_drop hv))
        have HNC := Lib.hid hnc
        clear hb1 ho1 hS1 hSv1 hl1 hg1 htk hcs hnc hcm hG
        go_region_law (first | (refine step_copy_z rfl (.tmp 56) (.tmp 62) 25 25 rfl 44 2 Try.underlying25 szPair _ _ _ _ _ _ (by simp only [Act.eval, Act.put]; rfl) (by simp only [Act.eval, Act.put]; rfl) g ((i + 1) * 2) cur.toList 44 HGd.out ((prs ps).drop (i * 2)) (ps.length - i) Hm.out Hnn.out Hpos.out Hfit.out Hone.out ?_; intro w4 hg4 hf4))
        all_goals
          obtain ⟨X, x1, x2⟩ := iso_spliced (W := W) (w4 := w4) hle HB1.out HS1.out HSV1.out HL1.out HNC.out HCM.out HCS.out HTK.out hg4.out ((Fr.refl (fun k => k = g) W).drew.then_ hf4 (fun k hk => .inl hk))
          have HX := Lib.hid x1
          have HX2 := Lib.hid x2
          clear x1 x2 hg4 hf4
          go_wp2_with fail
        all_goals go_meet
        all_goals exact ⟨_, X, HX.out, HFW.out.then_ HX2.out (fun k hk => hk.imp id (fun h => h.1)), fun k hk => hk.imp id (fun h => h.1)⟩
      case rest =>
        obtain ⟨S3, X, o3, f3, g3⟩ := hcut
        have HF3 := Lib.hid f3
        have HG3 := Lib.hid g3
        have hlen : (ps.take i ++ X :: ps.drop i).length = ps.length + 1 := by simp; omega
        have hil : i < (ps.take i ++ X :: ps.drop i).length := by omega
        obtain ⟨v3, hb3, ho3, hS3, hSv3, hl3⟩ := o3
        rw [hlen] at ho3
        obtain ⟨g, cap3, rfl⟩ := own_some ho3 (by omega)
        have c3 := blk_cell hb3 0 rfl
        obtain ⟨p0, p1⟩ := own_pair ho3 hlen hil
        have fz0 := ho3.frozenAt (i * 2)
        have fz1 := ho3.frozenAt (i * 2 + 1)
        have hb5 : (i : Int) < ps.length + 1 := by omega
        have HR3 := Lib.hid (rw_put2 (j := i) (x := s) (y := at_) hb3 ho3 hS3 hSv3 hl3 hlen hil)
        have HL := Lib.hid (show (ps.take i ++ X :: ps.drop i).set i (s, at_) = ps.take i ++ (s, at_) :: ps.drop i from by
          have e : (ps.take i).length = i := by rw [List.length_take]; omega
          rw [List.set_append, if_neg (by omega), e, Nat.sub_self]; rfl)
        have Hlen := Lib.hid hlen
        clear hb3 ho3 hS3 hSv3 hl3 f3 g3 hlen
        go_wp2_with fail
        go_ret
        have h3 := HR3.out
        rw [HL.out] at h3
        exact ⟨rfl, S3, h3.1, ((F2.out.mono (fun _ h => h.elim)).then_ HF3.out (fun k hk => .inl hk)).then_ h3.2 (fun k hk => (HG3.out k hk).imp id (fun h => Nat.le_trans F2.out.size h)), fun k hk => (HG3.out k hk).imp id (fun h => Nat.le_trans F2.out.size h)⟩
  · have hc : ¬ (i < ps.length ∧ (ps.map (·.1))[i]? = some s) := fun h => hlt h.1
    rw [decide_eq_false hc, if_neg hc]
    have hltI : ¬ (i : Int) < ps.length := by omega
    go_enter Try.func14, Try.ntmps14
    go_wp2_with fail
    refine HF.out.mono ?_
    rintro e w2 ⟨rfl, f2⟩
    have hO2 := IsO.fr (S2 := fun _ => False) H.out f2 (fun _ _ h => h)
    have HO2 := Lib.hid hO2
    have F2 := Lib.hid f2
    obtain ⟨v, hb, ho, hS, hSv, hl⟩ := hO2
    obtain ⟨a, cap, rfl, -, -⟩ := own_form ho
    have c0 := blk_cell hb 0 rfl
    skip
    have Hb := Lib.hid hb
    have Ho := Lib.hid ho
    have Hl := Lib.hid hl
    have Hs := Lib.hid hS
    have Hsv := Lib.hid hSv
    have Hne := Lib.hid (show ¬ (Value.slice a ps.length cap).ownBlock = some L from fun he => (Hsv.out L he).2 rfl)
    have Hn := Lib.hid (show prs (ps ++ [(0, 0)]) = prs ps ++ [.int .i64 0, .int .i64 0] from by rw [prs_app]; rfl)
    clear hb ho hl hS hSv f2 hc
    go_upto_region 8 with (at_builtin; go_must (refine wpList_append_fresh _ w2 rfl (.tmp 44) (.tmp 46) 25 rfl 44 i0 (.agg #[.int .i64 0, .int .i64 0]) 2 16 Try.underlying25 hi0 hz0 hz1 hz2 rfl (by decide) (.slice a ps.length cap) ps.length _ rfl Ho.out #[.int .i64 0, .int .i64 0] rfl rfl rfl (by intro u hu; simp at hu; subst hu; rfl) (by omega) (by omega) ?_); intro g2 cap2 w3 hown3 hf3 hat3; have hb' := hf3.blk (blk_alloc Hb.out _) Hne.out; have c0' := blk_cell hb' 0 rfl; have f0' := blk_free hb' 0; have HR := Lib.hid (rw_push Hb.out Hs.out Hsv.out Hl.out ((Fr.refl _ w2).alloc (.cells #[.int .i64 0, .int .i64 0] 44)) hown3 hf3 hat3); clear hb' hown3 hf3 hat3)
    obtain ⟨W, hW⟩ : ∃ W, w3.setCell ⟨L, 0, none⟩ (.slice (some ⟨g2, 0, none⟩) (ps.length + 1) cap2) = W := ⟨_, rfl⟩
    rw [hW] at HR ⊢
    have HR2 := Lib.hid (show Rw W (Gro S w2 W) L 27 44 2 [] (ps.length + 1) (prs (ps ++ [(0, 0)])) from by rw [Hn.out]; exact HR.out.1)
    have HFW := Lib.hid (show Fr S w2 W from HR.out.2)
    clear hW c0' f0' HR
    go_cut [] from 8 (fun w' => ∃ S' X, IsO w' S' L (ps.take i ++ X :: ps.drop i) ∧ Fr S w2 w' ∧ ∀ k, S' k → S k ∨ w2.heap.size ≤ k)
    case first =>
      obtain ⟨v1, hb1, ho1, hS1, hSv1, hl1⟩ := HR2.out
      obtain ⟨g, cap1, rfl⟩ := own_some ho1 (by omega)
      have c1 := blk_cell hb1 0 rfl
      have ho1' := ho1
      obtain ⟨-, hno | ⟨g', cp', cur, hv', -, hg1, hnc, hcm, hcs, htk⟩⟩ := ho1'
      · exact absurd hno.2 (by omega)
      simp only [Value.slice.injEq, Option.some.injEq, Addr.mk.injEq, and_true, true_and] at hv'
      obtain ⟨rfl, rfl⟩ := hv'
      have w1 : IntKind.i64.wrap ((i : Int) + 1) = i + 1 := IntWalk.i64_in _ (by omega)
      have b1 : (i : Int) + 1 ≤ ps.length + 1 := by omega
      have b0 : 0 ≤ (i : Int) + 1 := by omega
      have b5 : (i : Int) ≤ ps.length + 1 := by omega
      have b2 : ps.length + 1 ≤ cap1 := hnc
      have b3 : i ≤ ps.length + 1 := by omega
      have b4 : i + 1 ≤ ps.length + 1 := by omega
      have HG1 := Lib.hid hg1
      have HTK := Lib.hid htk
      have HCS := Lib.hid hcs
      have HB1 := Lib.hid hb1
      have HSV1 := Lib.hid hSv1
      have HS1 := Lib.hid hS1
      have HL1 := Lib.hid hl1
      have HCM := Lib.hid hcm
      have hG : W.drew.heap[g]? = some (.cells cur.toList.toArray 44 (0, 0)) := by rw [Array.toArray_toList]; exact hg1
      have HGd := Lib.hid hG
      have Hm := Lib.hid (show ps.length - i = Nat.min (ps.length + 1 - i) (ps.length - i) from by show ps.length - i = min (ps.length + 1 - i) (ps.length - i); omega)
      have Hnn := Lib.hid (show ((prs ps).drop (i * 2)).length = (ps.length - i) * 2 from by rw [List.length_drop, prs_len]; omega)
      have Hpos := Lib.hid (show 0 < ps.length - i → (if cap1 = i + 1 then some (⟨g, 0, none⟩ : Addr) else some ⟨g, (i + 1) * 2, none⟩) = some ⟨g, (i + 1) * 2, none⟩ ∧ ∃ ad, (if cap1 = i then some (⟨g, 0, none⟩ : Addr) else some ⟨g, i * 2, none⟩) = some ad ∧ ∀ j v, ((prs ps).drop (i * 2))[j]? = some v → W.drew.cell? (ad.add j) = some v from fun h0 => by
        refine ⟨if_neg (by omega), ⟨g, i * 2, none⟩, if_neg (by omega), fun j v hv => ?_⟩
        rw [List.getElem?_drop] at hv
        have hx : (prs (ps ++ [(0, 0)]))[i * 2 + j]? = some v := by rw [prs_app, List.getElem?_append_left (by have := (List.getElem?_eq_some_iff.1 hv).1; exact this)]; exact hv
        have hc := ho1.cells (g := g) rfl (i * 2 + j) v hx
        have e1 : (⟨g, 0, none⟩ : Addr).add (i * 2 + j) = ⟨g, i * 2 + j, none⟩ := by unfold Addr.add; split <;> simp_all
        have e2 : (⟨g, i * 2, none⟩ : Addr).add j = ⟨g, i * 2 + j, none⟩ := by unfold Addr.add; split <;> simp_all
        rw [e1] at hc
        rw [e2]
        exact hc)
      have Hfit := Lib.hid (show (i + 1) * 2 + ((prs ps).drop (i * 2)).length ≤ cur.toList.length from by rw [List.length_drop, prs_len, show cur.toList.length = cap1 * 2 from (Array.length_toList).trans hcs]; omega)
      have Hone := Lib.hid (show ∀ v ∈ (prs ps).drop (i * 2), v.oneCell' = true from fun v hv => prs_one ps v (List.mem_of_mem_drop hv))
      have HNC := Lib.hid hnc
      clear hb1 ho1 hS1 hSv1 hl1 hg1 htk hcs hnc hcm hG
      go_region_law (first | (refine step_copy_z rfl (.tmp 56) (.tmp 62) 25 25 rfl 44 2 Try.underlying25 szPair _ _ _ _ _ _ (by simp only [Act.eval, Act.put]; rfl) (by simp only [Act.eval, Act.put]; rfl) g ((i + 1) * 2) cur.toList 44 HGd.out ((prs ps).drop (i * 2)) (ps.length - i) Hm.out Hnn.out Hpos.out Hfit.out Hone.out ?_; intro w4 hg4 hf4))
      all_goals
        obtain ⟨X, x1, x2⟩ := iso_spliced (W := W) (w4 := w4) hle HB1.out HS1.out HSV1.out HL1.out HNC.out HCM.out HCS.out HTK.out hg4.out ((Fr.refl (fun k => k = g) W).drew.then_ hf4 (fun k hk => .inl hk))
        have HX := Lib.hid x1
        have HX2 := Lib.hid x2
        clear x1 x2 hg4 hf4
        go_wp2_with fail
      all_goals go_meet
      all_goals exact ⟨_, X, HX.out, HFW.out.then_ HX2.out (fun k hk => hk.imp id (fun h => h.1)), fun k hk => hk.imp id (fun h => h.1)⟩
    case rest =>
      obtain ⟨S3, X, o3, f3, g3⟩ := hcut
      have HF3 := Lib.hid f3
      have HG3 := Lib.hid g3
      have hlen : (ps.take i ++ X :: ps.drop i).length = ps.length + 1 := by simp; omega
      have hil : i < (ps.take i ++ X :: ps.drop i).length := by omega
      obtain ⟨v3, hb3, ho3, hS3, hSv3, hl3⟩ := o3
      rw [hlen] at ho3
      obtain ⟨g, cap3, rfl⟩ := own_some ho3 (by omega)
      have c3 := blk_cell hb3 0 rfl
      obtain ⟨p0, p1⟩ := own_pair ho3 hlen hil
      have fz0 := ho3.frozenAt (i * 2)
      have fz1 := ho3.frozenAt (i * 2 + 1)
      have hb5 : (i : Int) < ps.length + 1 := by omega
      have HR3 := Lib.hid (rw_put2 (j := i) (x := s) (y := at_) hb3 ho3 hS3 hSv3 hl3 hlen hil)
      have HL := Lib.hid (show (ps.take i ++ X :: ps.drop i).set i (s, at_) = ps.take i ++ (s, at_) :: ps.drop i from by
          have e : (ps.take i).length = i := by rw [List.length_take]; omega
          rw [List.set_append, if_neg (by omega), e, Nat.sub_self]; rfl)
      have Hlen := Lib.hid hlen
      clear hb3 ho3 hS3 hSv3 hl3 f3 g3 hlen
      go_wp2_with fail
      go_ret
      have h3 := HR3.out
      rw [HL.out] at h3
      exact ⟨rfl, S3, h3.1, ((F2.out.mono (fun _ h => h.elim)).then_ HF3.out (fun k hk => .inl hk)).then_ h3.2 (fun k hk => (HG3.out k hk).imp id (fun h => Nat.le_trans F2.out.size h)), fun k hk => (HG3.out k hk).imp id (fun h => Nat.le_trans F2.out.size h)⟩
end Go.Proofs.Ytjegnhcpepkpoaa
