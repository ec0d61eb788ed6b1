/- Package probe: grow, the walk. -/
import Derived.Test.YtjchjpmgbmeohaaDoorPrG
set_option linter.unusedSimpArgs false
set_option linter.unusedVariables false
namespace Go.Proofs.YtjchjpmgbmeohaaDoor
open Go.RowKit

theorem grown_world {w : World} {g m cap T n G : Nat} {u l : Int} (hb : w.heap[T]? = some (.cells #[.slice (some ⟨g, 0, none⟩) m cap, .int .i64 u, .int .i64 l] 135 (0, 0))) (hn : n ≤ 1000000) (hG : w.heap.size = G) :
    IsP (((w.alloc (.cells (pcs (List.replicate n PC.zero)).toArray 141)).setCell ⟨T, 0, none⟩ (.slice (some ⟨G, 0, none⟩) n n)).setCell ⟨T, 2, none⟩ (.int .i64 0)) (fun j => j = T ∨ j = G) T (List.replicate n PC.zero) u 0 ∧
    Fr (fun j => j = T) w (((w.alloc (.cells (pcs (List.replicate n PC.zero)).toArray 141)).setCell ⟨T, 0, none⟩ (.slice (some ⟨G, 0, none⟩) n n)).setCell ⟨T, 2, none⟩ (.int .i64 0)) := by
  subst hG
  have hT := blk_lt hb
  have ho := World.ownsRow_lit (base := 0) (e := 141) (size := 4) w (pcs (List.replicate n PC.zero)).toArray n (Nat.zero_le _) (by unfold maxLen; omega) (by simp [pcs_len])
  have hf := ((Fr.refl (fun j => j = T) (w.alloc (.cells (pcs (List.replicate n PC.zero)).toArray 141))).setCell (p := ⟨T, 0, none⟩) (.inl rfl) (.slice (some ⟨w.heap.size, 0, none⟩) n n)).setCell (p := ⟨T, 2, none⟩) (.inl rfl) (.int .i64 0)
  have hb2 := blk_set (blk_set (blk_alloc hb (.cells (pcs (List.replicate n PC.zero)).toArray 141)) 0 (.slice (some ⟨w.heap.size, 0, none⟩) n n)) 2 (.int .i64 0)
  refine ⟨⟨.slice (some ⟨w.heap.size, 0, none⟩) n n, by simpa using hb2, ?_, .inl rfl, fun k hk => ?_, fun k hk => ?_⟩, ((Fr.refl _ w).alloc _).then_ hf (fun _ h => .inl h)⟩
  · have h := own_fr ho hf (fun k hk e => by
      simp only [Value.ownBlock, Option.some.injEq] at hk
      omega)
    rw [List.length_replicate]
    simpa using h
  · simp only [Value.ownBlock, Option.some.injEq] at hk
    subst hk
    exact ⟨.inr rfl, by omega⟩
  · have e : ((w.alloc (.cells (pcs (List.replicate n PC.zero)).toArray 141)).setCell ⟨T, 0, none⟩ (.slice (some ⟨w.heap.size, 0, none⟩) n n)).heap.size = w.heap.size + 1 := by simp [World.setCell]
    have e2 : (((w.alloc (.cells (pcs (List.replicate n PC.zero)).toArray 141)).setCell ⟨T, 0, none⟩ (.slice (some ⟨w.heap.size, 0, none⟩) n n)).setCell ⟨T, 2, none⟩ (.int .i64 0)).heap.size = w.heap.size + 1 := by simp [World.setCell]
    rw [e2]
    rcases hk with rfl | rfl <;> omega
set_option maxRecDepth 4000 in
set_option maxHeartbeats 6400000 in
theorem grow_any (w : World) (S : Nat → Prop) (T : Nat) (cs : List PC) (h : IsT w S T cs) (hu : cnt 1 cs ≤ 100000) :
    Calls Tryd.prog 97 #[.pointer (some ⟨T, 0, none⟩)] w (GrowPost S T cs w) := by
  obtain ⟨ic, hic, hcz0, hcz1, hcz2⟩ := info_parts Tryd.infoCell
  obtain ⟨hn8, hn30⟩ := h.inv.len
  have HI := Lib.hid h.inv
  have HIs := Lib.hid h.is
  obtain ⟨u, hcu⟩ : ∃ u, cnt 1 cs = u := ⟨_, rfl⟩
  obtain ⟨l, hcl⟩ : ∃ l : Int, (cnt 2 cs : Int) = l := ⟨_, rfl⟩
  have HU := Lib.hid hcu
  obtain ⟨v, hb, ho, hST, hSv, hSl⟩ := h.is
  obtain ⟨g, cap, rfl⟩ := own_some ho (by omega)
  rw [hcu, hcl] at hb
  rw [hcu] at hu
  have HB := Lib.hid hb
  have HO := Lib.hid ho
  have HST := Lib.hid hST
  have HSg := Lib.hid (hSv g rfl)
  have HSl := Lib.hid hSl
  have HTl := Lib.hid (hSl T hST)
  have HGl := Lib.hid (hSl g (hSv g rfl).1)
  obtain ⟨n0, hn0⟩ : ∃ n0, cs.length = n0 := ⟨_, rfl⟩
  have HN := Lib.hid hn0
  rw [hn0] at hn8 hn30 hb
  have c0 := blk_cell hb 0 rfl
  have c1 := blk_cell hb 1 rfl
  have c2 := blk_cell hb 2 rfl
  have z0 := blk_free hb 0
  have z2 := blk_free hb 2
  clear hcu hcl hST hSv hSl ho h hn0 hb
  go_enter Tryd.func97, Tryd.ntmps97
  go_wp2_with fail
  go_loopw [3] (fun nv wr => ∃ (n e : Nat), 3 ≤ e ∧ e ≤ 30 ∧ n = 2 ^ e ∧ nv = .int .i64 n ∧ (n = 8 ∨ n < 6 * (u + 1)) ∧ 8 ≤ n ∧ wr = w) (fun nv _ => (3 * ((u : Int) + 1) - intOf nv).toNat)
  case atStart => exact ⟨8, 3, by omega, by omega, rfl, rfl, .inl rfl, by omega, rfl⟩
  case round =>
    obtain ⟨n, e, h3, h30, he, rfl, hn6, hn8', hwr⟩ := hrel
    obtain rfl := hwr.symm
    have HE := Lib.hid he
    have HN6 := Lib.hid hn6
    have hnb : n ≤ 1000000 := by omega
    clear he hn6
    have wi1 : IntKind.i64.wrap ((u : Int) + 1) = u + 1 := IntWalk.i64_in _ (by omega)
    have wi2 : IntKind.i64.wrap (3 * ((u : Int) + 1)) = 3 * (u + 1) := IntWalk.i64_in _ (by omega)
    have wi3 : IntKind.i64.wrap ((n : Int) * 2) = n * 2 := IntWalk.i64_in _ (by omega)
    by_cases hlt : (n : Int) < 3 * ((u : Int) + 1)
    · go_wp2_with fail
      go_roundw
      case rel =>
        refine ⟨n * 2, e + 1, by omega, ?_, by rw [HE.out, Nat.pow_succ], by go_num, by omega, by omega, trivial⟩
        apply Decidable.byContradiction
        intro hc
        have h31 : 2 ^ 30 ≤ 2 ^ e := Nat.pow_le_pow_right (by decide) (by omega)
        have : 2 ^ 30 = 1073741824 := rfl
        have := HE.out
        omega
      case measure => simp only [intOf]; omega
    · have hmk : ∀ w : World, (Instr.makeSlice 133 (.int .i64 n) (.int .i64 n)).run Tryd.prog w = .ok (.slice (some ⟨w.heap.size, 0, none⟩) n n) (w.alloc (.cells (pcs (List.replicate n PC.zero)).toArray 141)) := fun w => by
        have h := run_make (P := Tryd.prog) w 133 141 ic (.agg #[.int .u64 0, .int .u64 0, .int .i64 0, .int .u8 0]) Tryd.underlying133 hic hcz0 .i64 .i64 n n (by omega) (Int.le_refl _) (by rw [hcz2]; omega) (by omega)
        rw [hcz1] at h
        simpa [Value.cells, made_pcs] using h
      have hb1 := blk_alloc HB.out (.cells (pcs (List.replicate n PC.zero)).toArray 141)
      have c0' := blk_cell hb1 0 rfl
      have z0' := blk_free hb1 0
      have c2' := blk_cell hb1 2 rfl
      have z2' := blk_free hb1 2
      clear hb1
      go_wp2_with fail
      obtain ⟨G, hG⟩ : ∃ G, w.heap.size = G := ⟨_, rfl⟩
      have HG := Lib.hid hG
      have HGr := Lib.hid (grown_world (n := n) HB.out (by omega) hG)
      clear hG
      go_loopw [32] (fun iv wr => ∃ (k : Nat) (ds : List PC), k ≤ n0 ∧ iv = .int .i64 k ∧ ds.length = n ∧ Regrow cs k ds ∧ IsP wr (fun j => j = T ∨ j = G) T ds u 0 ∧ Fr (fun j => j = T) w wr) (fun iv _ => ((n0 : Int) - intOf iv).toNat)
      case atStart => exact ⟨0, List.replicate n PC.zero, Nat.zero_le _, rfl, List.length_replicate, regrow_zero HE.out h3 h30, by have e := HG.out; subst e; exact HGr.out.1, by have e := HG.out; subst e; exact HGr.out.2⟩
      case round =>
        obtain ⟨k, ds, hk, rfl, hdl, hre, his, hf⟩ := hrel
        have HRe := Lib.hid hre
        have HIs2 := Lib.hid his
        have HF := Lib.hid hf
        have HDl := Lib.hid hdl
        clear hre his hf hdl
        by_cases hkn : k = n0
        · subst hkn
          go_wp2_with fail
          go_end0
          have hend := regrow_end HRe.out (by rw [HN.out]; exact Nat.le_refl _)
          refine ⟨ds, rfl, ⟨?_, HRe.out.inv, ?_⟩, hend.2, hend.1, HRe.out.none2, ?_, ?_⟩
          · have h1 : cnt 1 ds = u := by rw [hend.1, HU.out]
            rw [h1, HRe.out.none2]
            refine HIs2.out.mono (fun j hj => ?_) (fun j hj => ?_)
            · rcases hj with e | e
              · exact .inl (by rw [e]; exact HST.out)
              · exact .inr ⟨by rw [e, HG.out]; exact Nat.le_refl _, HIs2.out.lt (.inr e)⟩
            · rcases hj with e | e
              · exact Nat.lt_of_lt_of_le (HSl.out j e) HF.out.size
              · exact e.2
          · rw [hend.1, HRe.out.none2, HU.out, HDl.out]; omega
          · rw [HU.out, HDl.out]; omega
          · exact HF.out.mono (fun j e => by rw [e]; exact HST.out)
        · have hki : (k : Int) < n0 := by omega
          have hkl : k < cs.length := by rw [HN.out]; omega
          obtain ⟨c, hce⟩ : ∃ c, cs[k] = c := ⟨_, rfl⟩
          have hget : cs[k]? = some c := by rw [List.getElem?_eq_getElem hkl, hce]
          have HGt := Lib.hid hget
          have hkk := HI.out.kinds c (hce ▸ List.getElem_mem hkl)
          have ho1 := own_fr HO.out HF.out (fun j hj e => by
            simp only [Value.ownBlock, Option.some.injEq] at hj
            exact HSg.out.2 (hj.trans e))
          obtain ⟨⟨chi, clo⟩, cat, ckd⟩ := c
          have p0 := own_pc ho1 rfl hkl 0 (by omega) (v := .int .u64 chi) (by rw [hce]; rfl)
          rw [Nat.add_zero] at p0
          have p1 := own_pc ho1 rfl hkl 1 (by omega) (v := .int .u64 clo) (by rw [hce]; rfl)
          have p2 := own_pc ho1 rfl hkl 2 (by omega) (v := .int .i64 cat) (by rw [hce]; rfl)
          have p3 := own_pc ho1 rfl hkl 3 (by omega) (v := .int .u8 ckd) (by rw [hce]; rfl)
          have Hc := Lib.hid (heap_alloc_new wr (.cells #[.int .u64 chi, .int .u64 clo, .int .i64 cat, .int .u8 ckd] 141))
          have FC := Lib.hid ((Fr.refl (fun _ => False) wr).alloc (.cells #[.int .u64 chi, .int .u64 clo, .int .i64 cat, .int .u8 ckd] 141))
          have wk : IntKind.i64.wrap ((k : Int) + 1) = k + 1 := IntWalk.i64_in _ (by omega)
          clear hget hce ho1
          by_cases hk1 : ckd = 1
          · subst hk1
            have HFi := Lib.hid (find_any _ T _ ds u 0 ⟨chi, clo⟩ (HIs2.out.fr FC.out (fun _ _ h => h)) HRe.out.inv (regrow_free HRe.out (by rw [HU.out, HDl.out]; omega)))
            go_wp2_with fail
            refine HFi.out.mono ?_
            rintro e2 w2 ⟨p, b, rfl, hfd, f2⟩
            have HRp := Lib.hid (regrow_put HRe.out HI.out HGt.out hfd)
            have HP := Lib.hid hfd.1
            have HIs3 := Lib.hid ((HIs2.out.fr FC.out (fun _ _ h => h)).fr f2 (fun _ _ h => h))
            have HF3 := Lib.hid (((HF.out.then_ FC.out (fun _ h => h.elim)).then_ f2 (fun _ h => h.elim)))
            have bC := f2.blk Hc.out (fun h => h)
            have d0 := blk_cell bC 0 rfl
            have d1 := blk_cell bC 1 rfl
            have d2 := blk_cell bC 2 rfl
            have d3 := blk_cell bC 3 rfl
            obtain ⟨v, hbT, hoT, -, -, -⟩ := HIs3.out
            obtain ⟨g2, cap2, rfl⟩ := own_some hoT (by rw [HDl.out]; omega)
            have HB3 := Lib.hid hbT
            have t0 := blk_cell hbT 0 rfl
            rw [HDl.out] at t0
            have hpI : (p : Int) < n := by have := hfd.1; rw [HDl.out] at this; omega
            clear hfd f2 bC hbT hoT
            go_upto_region 10 with fail
            go_still_tail 7, (by kernel_rfl)
            refine wpList_store_pc rfl (.tmp 52) (.tmp 51) rfl ⟨⟨chi, clo⟩, cat, 1⟩ rfl rfl HB3.out (Rw.drew HIs3.out) HP.out rfl ?_
            intro w3 hb3 h3 f3
            have HIs4 := Lib.hid h3
            have HF4 := Lib.hid f3
            clear h3 f3 hb3
            go_wp2_with fail
            go_roundw
            case rel => first | exact ⟨k + 1, ds.set p ⟨⟨chi, clo⟩, cat, 1⟩, by omega, by go_num, by rw [List.length_set]; exact HDl.out, HRp.out, HIs4.out, HF3.out.drew.then_ HF4.out (fun j hj => hj.elim .inl (fun e => .inr (by rw [e, HG.out]; exact Nat.le_refl _)))⟩ | ((repeat apply Exists.intro); refine (fun a b => ⟨b, a⟩ : ∀ {P Q : Prop}, P → Q → Q ∧ P) ?_ ?_; (first | rfl | exact ⟨rfl, rfl⟩ | exact ⟨rfl, rfl, rfl⟩); exact ⟨k + 1, ds.set p ⟨⟨chi, clo⟩, cat, 1⟩, by omega, by go_num, by rw [List.length_set]; exact HDl.out, HRp.out, HIs4.out, HF3.out.drew.then_ HF4.out (fun j hj => hj.elim .inl (fun e => .inr (by rw [e, HG.out]; exact Nat.le_refl _)))⟩)
            case measure => simp only [intOf]; omega
          · have hb1 : (ckd == 1) = false := by simpa using hk1
            go_wp2_with fail
            go_roundw
            case rel => exact ⟨k + 1, ds, by omega, by go_num, HDl.out, regrow_skip HRe.out HGt.out hk1, HIs2.out.fr FC.out (fun _ _ h => h), HF.out.then_ FC.out (fun _ h => h.elim)⟩
            case measure => simp only [intOf]; omega
end Go.Proofs.YtjchjpmgbmeohaaDoor
