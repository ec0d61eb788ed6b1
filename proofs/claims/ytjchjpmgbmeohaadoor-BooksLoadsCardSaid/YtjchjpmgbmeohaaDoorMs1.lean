/- Several texts in one, for the law BooksLoads: ClA, LdB, LdsA, LdsB. Each says what it shows; conditions: what each theorem names. -/
import Derived.Test.YtjchjpmgbmeohaaDoorMk10
import Derived.Lib.SliceRun
import Derived.Deep.CutRange
import Derived.Test.YtjchjpmgbmeohaaDoorMk12
import Derived.Test.YtjchjpmgbmeohaaDoorMk9
import Derived.Test.YtjchjpmgbmeohaaDoorMk8
import Derived.Test.YtjchjpmgbmeohaaDoorMk11
import Derived.Test.YtjchjpmgbmeohaaDoorMk6
import Derived.BigQuiet
/- Books: the log, cleared. -/
set_option linter.unusedSimpArgs false
set_option linter.unusedVariables false
namespace Go.Proofs.YtjchjpmgbmeohaaDoor
open Go.RowKit

theorem clear_none {P : Program} {t e ty : TypeId} (ht : P.underlying t = some (.slice e)) (a : Option Addr) (c : Nat) (w : World) : (Builtin.clear_ #[t] ty #[.slice a 0 c]).run P w = .ok (.tuple #[]) w := by
  cases a <;> simp [Builtin.clear_, run_underlying ht]
theorem clear_row {w : World} {a : Option Addr} {n cap : Nat} {vs : List Value} (h : w.ownsRow 0 1 1 (.slice a n cap) n vs) :
    ∃ W1 us, (∀ ty, (Builtin.clear_ #[88] ty #[.slice a n cap]).run Tryd.prog w = .ok (.tuple #[]) W1) ∧ W1.ownsRow 0 1 1 (.slice a n cap) n us ∧ Fr (fun k => (Value.slice a n cap).ownBlock = some k) w W1 ∧ W1.heap.size = w.heap.size := by
  by_cases hn : n = 0
  · subst hn
    exact ⟨w, vs, fun ty => clear_none Tryd.underlying88 a cap w, h, Fr.refl _ _, rfl⟩
  · obtain ⟨g, c, e⟩ := own_some h (by omega)
    simp only [Value.slice.injEq] at e
    obtain ⟨rfl, -, rfl⟩ := e
    have hlen : vs.length = n * 1 := h.1
    refine ⟨w.setCells g 0 (List.replicate n .nilFunc), _, fun ty => Lib.run_clear_slice w _ _ ty _ Tryd.underlying88 (fun w => by kernel_rfl) rfl rfl g 0 n cap (by omega) (fun j hj => ?_) (fun j hj => ?_), own_setCells (w := w) (vs := vs) _ 0 w vs h, ?_, setCells_size _ _ _ _⟩
    · rw [Nat.zero_add, h.cellAt j (by omega), List.getElem?_eq_getElem (by omega)]; rfl
    · rw [Nat.zero_add]; exact h.frozenAt j
    · exact (setCells_fr g _ 0 w).mono (fun k hk => by rw [hk]; rfl)
theorem clearL (w : World) (lab : Nat → Nat) (d : Dd) (r : Raw) (es : List Ent) (big : Nat) (h : Sta w lab d r es big) :
    Calls Tryd.prog 85 #[.pointer (some ⟨d.B, 0, none⟩)] w fun e w' => e = .returned (.tuple #[]) ∧ Sta w' lab d r [] big ∧ Fr (fun k => lab k = 1 ∨ k = d.B) w w' := by
  obtain ⟨lv, sv, qv, ps, hp, b⟩ := h.bb
  obtain ⟨a, cap, rfl, -, -⟩ := own_form b.log
  obtain ⟨W1, us, hcl, ho1, hf1, hs1⟩ := clear_row b.log
  have hB1 : ∀ k, (Value.slice a es.length cap).ownBlock = some k → k ≠ d.B := fun k hk e => by
    have h1 := b.logl k hk
    have h8 := h.labB
    rw [e, h8] at h1
    cases h1
  have hblk : W1.heap[d.B]? = _ := hf1.blk b.blk (fun hk => hB1 _ hk rfl)
  have c0 := blk_cell b.blk 0 rfl
  have c1 := blk_cell hblk 0 rfl
  have z1 := blk_free hblk 0
  have HE := Lib.hid h
  have HB := Lib.hid b
  have HF := Lib.hid hf1
  have HO := Lib.hid ho1
  have HK := Lib.hid hblk
  obtain ⟨n, hn⟩ : ∃ n, es.length = n := ⟨_, rfl⟩
  have HN := Lib.hid hn
  rw [hn] at hcl c0 c1
  clear h b hf1 ho1 hblk hn hB1 hs1
  go_enter Tryd.func85, Tryd.ntmps85
  go_wp2_with fail
  go_end0
  have hs := HF.out
  obtain ⟨f1, hS⟩ : Fr (fun k => lab k = 1 ∨ k = d.B) w W1 ∧ Rw W1 (fun k => lab k = 1 ∨ k = d.B) d.B 100 1 1 [.pointer (some ⟨d.A, 0, none⟩), .pointer (some ⟨d.K, 0, none⟩), .pointer (some ⟨d.I, 0, none⟩), .pointer (some ⟨d.N, 0, none⟩), sv, qv, .int .i64 r.clock, .int .i64 r.stamp] n us := by
    rw [HN.out] at hs
    refine ⟨hs.mono (fun k hk => .inl (HB.out.logl k (by rw [HN.out]; exact hk))), .slice a n cap, by rw [← HN.out]; exact HK.out, by rw [← HN.out]; exact HO.out, .inr rfl, fun k hk => ⟨.inl (HB.out.logl k (by rw [HN.out]; exact hk)), fun e => ?_⟩, fun k hk => Nat.lt_of_lt_of_le ?_ hs.size⟩
    · have h1 := HB.out.logl k (by rw [HN.out]; exact hk)
      have h8 := HE.out.labB
      rw [e, h8] at h1
      cases h1
    · rcases hk with hk | rfl
      · exact HE.out.lt k (by rw [hk]; decide)
      · exact HE.out.lt _ (by rw [HE.out.labB]; decide)
  obtain ⟨v, hb, ho, hS0, hSv, hl⟩ := hS
  have hv : v = .slice a n cap := by
    have h0 := HK.out
    rw [h0, HN.out] at hb
    simp only [Option.some.injEq, Obj.cells.injEq, and_true] at hb
    have := congrArg (fun x : Array Value => x[0]?) hb
    simpa using this.symm
  subst hv
  have hcut := (rw_cut hb ho hS0 hSv hl rfl (Nat.zero_le n)).1
  have f2 : Fr (fun k => lab k = 1 ∨ k = d.B) w (W1.setCell ⟨d.B, 0, none⟩ (.slice a 0 cap)) := f1.setCell (p := ⟨d.B, 0, none⟩) (.inl (.inr rfl)) _
  refine ⟨rfl, HE.out.relog HB.out f2 ⟨fun _ _ => rfl, fun k hk => Nat.lt_of_lt_of_le (HE.out.lt k hk) f2.size⟩ ?_ (fun e he => by cases he) (Nat.le_refl _) (by have := HB.out.hpb; simp; omega), f2⟩
  simpa using hcut

end Go.Proofs.YtjchjpmgbmeohaaDoor

/- Books: Load. -/
set_option linter.unusedSimpArgs false
set_option linter.unusedVariables false
namespace Go.Proofs.YtjchjpmgbmeohaaDoor
open Go.RowKit

theorem take_snocg {α : Type} {xs : List α} {j : Nat} {x : α} (h : xs[j]? = some x) : xs.take j ++ [x] = xs.take (j + 1) := by
  rw [List.take_add_one, h]; rfl
attribute [-go_sem] loadCells
set_option maxRecDepth 8000 in
set_option maxHeartbeats 25600000 in
theorem load_any (w : World) (xs : List Acc) (ks : List Kp) (aa ak : Option Addr) (ca ck : Nat) (c s : Int) (ha : w.ownsRow 0 26 14 (.slice aa xs.length ca) xs.length (xs.flatMap Acc.cells)) (hk : w.ownsRow 0 63 33 (.slice ak ks.length ck) ks.length (ks.flatMap Kp.cells)) :
    Calls Tryd.prog 36 #[.slice aa xs.length ca, .slice ak ks.length ck, .int .i64 c, .int .i64 s] w (LoadP w xs ks c s) := by
  have HNew := Lib.hid (newS w)
  obtain ⟨n, hn⟩ : ∃ n, xs.length = n := ⟨_, rfl⟩
  obtain ⟨nk, hnk⟩ : ∃ n, ks.length = n := ⟨_, rfl⟩
  rw [hn] at ha
  rw [hnk] at hk
  rw [hn, hnk]
  have HN := Lib.hid hn
  have HNK := Lib.hid hnk
  have HA := Lib.hid ha
  have HK := Lib.hid hk
  clear ha hk hn hnk
  go_enter Tryd.func36, Tryd.ntmps36
  go_wp2_with fail
  refine HNew.out.mono ?_
  rintro e w1 ⟨lab0, d, rfl, h0, hi0, f0⟩
  have HS0 := Lib.hid (LdS.mk h0 hi0 f0)
  clear h0 hi0 f0
  by_cases hq0 : (32 : Int) < n
  · go_wp2_with fail
    go_ret2
    exact .inl ⟨rfl, fun ok => by have := ok.1; rw [HN.out] at this; omega, HS0.out.f⟩
  by_cases hq144 : (96 : Int) < nk
  · go_wp2_with fail
    go_ret2
    exact .inl ⟨rfl, fun ok => by have := ok.2.1; rw [HNK.out] at this; omega, HS0.out.f⟩
  by_cases hq294 : c < 0
  · go_wp2_with fail
    go_ret2
    exact .inl ⟨rfl, fun ok => by have := ok.2.2.1; omega, HS0.out.f⟩
  by_cases hq414 : 1099511627776 < c
  · go_wp2_with fail
    go_ret2
    exact .inl ⟨rfl, fun ok => by have := ok.2.2.1; omega, HS0.out.f⟩
  by_cases hq546 : s < 0
  · go_wp2_with fail
    go_ret2
    exact .inl ⟨rfl, fun ok => by have := ok.2.2.2.1; omega, HS0.out.f⟩
  by_cases hq668 : 1099511627776 < s
  · go_wp2_with fail
    go_ret2
    exact .inl ⟨rfl, fun ok => by have := ok.2.2.2.1; omega, HS0.out.f⟩
  go_wp2_with fail
  go_loopw [48] (fun iv wr => ∃ j : Nat, j ≤ n ∧ iv = .int .i64 j ∧ ∃ lab r es big, LdS w wr lab d r es big ∧ LdG r ∧ r.accs = xs.take j ∧ r.kept = [] ∧ big ≤ 10 * j) (fun iv _ => ((n : Int) - intOf iv).toNat)
  case atStart => exact ⟨0, by omega, rfl, lab0, Raw.empty, [], 0, HS0.out, ldg_empty, rfl, rfl, by omega⟩
  case round =>
    obtain ⟨j, hj, rfl, lab, r, es, big, hl, hg, hacc, hke, hbig⟩ := hrel
    by_cases hjm : j < n
    · have hjI : (j : Int) < n := by omega
      have hjJ : (0 : Int) ≤ j := by omega
      obtain ⟨x, hx⟩ : ∃ x, xs[j]? = some x := ⟨_, List.getElem?_eq_getElem (by rw [HN.out]; exact hjm)⟩
      obtain ⟨g, rfl, -, hr⟩ := row_atf (f := Acc.cells) (sz := 14) (fun _ => rfl) (own_fr HA.out hl.f (fun _ _ h => h)) HN.out hx
      obtain ⟨C, hC⟩ : ∃ C, x.cells.toArray = C := ⟨_, rfl⟩
      have Cs : C.size = 14 := by rw [← hC]; rfl
      have HCo := Lib.hid (show C.all (·.oneCell') = true from by rw [← hC]; simp [Kp.cells, Tx.cells, Acc.cells, Value.oneCell'])
      have HCx := Lib.hid hC
      rw [hC] at hr
      have HR := Lib.hid (World.rangeAt_alloc hr (.cells #[.int .u64 0, .int .u64 0, .int .u64 0, .int .u64 0, .int .u64 0, .int .u64 0, .int .u64 0, .int .u64 0, .int .u64 0, .int .u64 0, .int .i64 0, .int .i64 0, .int .i64 0, .int .i64 0] 26))
      have HR0 := Lib.hid hr
      have HBz := Lib.hid (heap_alloc_new wr (.cells #[.int .u64 0, .int .u64 0, .int .u64 0, .int .u64 0, .int .u64 0, .int .u64 0, .int .u64 0, .int .u64 0, .int .u64 0, .int .u64 0, .int .i64 0, .int .i64 0, .int .i64 0, .int .i64 0] 26))
      have w1' : IntKind.i64.wrap ((j : Int) + 1) = j + 1 := IntWalk.i64_in _ (by omega)
      have HL := Lib.hid hl
      have HG := Lib.hid hg
      have HX := Lib.hid hx
      have HAc := Lib.hid hacc
      have HKe := Lib.hid hke
      have L0 := Lib.hid (hl.s.free (Nat.le_refl _))
      clear hr hx hC hl hg hacc hke
      go_upto_region 7 with (first | (refine wpList_load_mid rfl 26 (.tmp 50) rfl g (j * 14) rfl _ _ HR0.out Tryd.underlying26 rfl (by rw [Array.length_toList, Cs]; rfl) ?_) | (refine wpList_load_mid rfl 26 (.tmp 50) rfl g (j * 14) rfl _ _ HR.out Tryd.underlying26 rfl (by rw [Array.length_toList, Cs]; rfl) ?_) | ((refine wpList_store_row rfl 26 (.tmp 12) (.tmp 51) rfl wr.heap.size C rfl rfl HBz.out (by rw [Cs]; rfl) (by rw [Cs]; rfl) HCo.out ?_); intro w9 hb9 f9; have HB9 := Lib.hid hb9; have F9 := Lib.hid f9; clear hb9 f9) | fail)
      have G9 := Lib.hid (show Fr (fun _ => False) wr w9 from ((Fr.refl (fun _ => False) wr).alloc _).then_ F9.out (fun k hk => .inr (by omega)))
      have HL9 := Lib.hid (HL.out.fr G9.out)
      obtain ⟨gi, hgi⟩ : ∃ z : Int, (r.ids x.id).getD 0 = z := ⟨_, rfl⟩
      obtain ⟨gb, hgb⟩ : ∃ z : Bool, (r.ids x.id).isSome = z := ⟨_, rfl⟩
      have hget := fun W l (h : Sta W l d r es big) => idGetS W l d r es big x.id h
      rw [hgi, hgb] at hget
      have HGet := Lib.hid hget
      have HGb := Lib.hid hgb
      have hnm : ∀ W : World, W.heap[wr.heap.size]? = some (.cells C 26 (0, 0)) → (loadCells ⟨wr.heap.size, 0, none⟩ 2).run Tryd.prog W = .ok #[.int .u64 x.id.hi, .int .u64 x.id.lo] W := fun W h => by
        rw [← HCx.out] at h
        exact ld_nm (o := 0) (blk_cell' h 0 rfl) (blk_cell' h (0 + 1) rfl)
      have HNm := Lib.hid hnm
      have hld : ∀ W, Fr (fun _ => False) w9 W → W.cell? ⟨d.B, 3, none⟩ = some (Value.pointer (some ⟨d.I, 0, none⟩)) ∧ (loadCells ⟨wr.heap.size, 0, none⟩ 2).run Tryd.prog W = .ok #[.int .u64 x.id.hi, .int .u64 x.id.lo] W := fun W f => ⟨(HL9.out.s.fr f (fun _ h => h.elim)).cells.2.2.1, hnm W (f.blk HB9.out (fun h => h))⟩
      have HLd := Lib.hid hld
      clear hget hgi hgb hnm hld
      (try simp only [Act.put, List.setIfInBounds_toArray, List.set_cons_succ, List.set_cons_zero])
      go_cut [13, 14] from 52 to 76 (fun va vb w' => va = .int .i64 gi ∧ vb = .bool gb ∧ Fr (fun _ => False) w9 w')
      case first =>
        have FW0 := Lib.hid ((Fr.refl (fun _ => False) w9).drew)
        have HSd := Lib.hid (HL9.out.s.fr FW0.out (fun _ h => h.elim))
        go_region_held3 (fun w' => w'.cell? ⟨d.B, 3, none⟩ = some (Value.pointer (some ⟨d.I, 0, none⟩)) ∧ (loadCells ⟨wr.heap.size, 0, none⟩ 2).run Tryd.prog w' = .ok #[.int .u64 x.id.hi, .int .u64 x.id.lo] w')
          (first | exact HLd.out _ FW0.out | exact HLd.out _ FW1.out | go_keep)
          (first | (go_at_call 55; go_must (with_reducible refine (HGet.out _ _ HSd.out).mono ?_); rintro e w2 ⟨rfl, f2⟩; have FW1 := Lib.hid (FW0.out.then_ f2 (fun _ h => h.elim)); clear f2))
        all_goals
          go_wp2_with fail
          go_meet
          exact ⟨rfl, rfl, FW1.out⟩
      case rest =>
      obtain ⟨rfl, rfl, fc⟩ := hcut
      have HLc := Lib.hid (HL9.out.fr fc)
      have HBc := Lib.hid (fc.blk HB9.out (fun h => h))
      clear fc
      cases gb with
      | true =>
        go_wp2_with fail
        go_ret2
        exact .inl ⟨rfl, fun ok => ixr_dup (i := j) (by rw [← HAc.out]; exact HG.out.ids) HX.out HGb.out ok.2.2.2.2.1, HLc.out.f⟩
      | false =>
      have HNone := Lib.hid (show r.ids x.id = none from by have := HGb.out; cases hx : r.ids x.id with | none => rfl | some v => rw [hx] at this; cases this)
      have L0c := Lib.hid (show lab wr.heap.size = 0 ∨ lab wr.heap.size = 9 from .inl L0.out)
      have hjl : r.accs.length ≤ 100 := by rw [HAc.out, List.length_take, HN.out]; omega
      obtain ⟨nA, hnA⟩ : ∃ n : Nat, r.accs.length = n := ⟨_, rfl⟩
      have hnA1 : nA ≤ 100 := by rw [← hnA]; exact hjl
      have HnA := Lib.hid hnA
      have hadd := accAddS _ _ d r _ _ x (HLc.out.s.drew) (by rw [hnA]; omega) (by omega)
      rw [hnA, HCx.out] at hadd
      have HAdd := Lib.hid hadd
      have HPut := Lib.hid (fun W l r es big (h : Sta W l d r es big) (hb : big ≤ 100000) => idPutS W l d r es big x.id nA h hb)
      have HLd2 := Lib.hid (fun W l (r : Raw) es big (h : Sta W l d r es big) (hb : W.heap[wr.heap.size]? = some (.cells C 26 (0, 0))) => And.intro h.cells.1 (And.intro h.cells.2.2.1 (And.intro (HNm.out W hb) (ld_row (P := Tryd.prog) (W := W) wr.heap.size C (n := 14) Cs hb))))
      have HBd := Lib.hid (blk_drew HBc.out)
      have HSd := Lib.hid HLc.out.s.drew
      clear hnA hadd
      go_upto_region 10 with fail
      go_region_held3 (fun w' => w'.cell? ⟨d.B, 1, none⟩ = some (Value.pointer (some ⟨d.A, 0, none⟩)) ∧ w'.cell? ⟨d.B, 3, none⟩ = some (Value.pointer (some ⟨d.I, 0, none⟩)) ∧ (loadCells ⟨wr.heap.size, 0, none⟩ 2).run Tryd.prog w' = .ok #[.int .u64 x.id.hi, .int .u64 x.id.lo] w' ∧ (loadCells ⟨wr.heap.size, 0, none⟩ 14).run Tryd.prog w' = .ok C w')
        (first | exact HLd2.out _ _ _ _ _ HSd.out HBd.out | exact HLd2.out _ _ _ _ _ H4.out B4.out | exact HLd2.out _ _ _ _ _ H5.out B5.out | go_keep)
        (first
          | (go_at_call 61; go_must (with_reducible refine HAdd.out.mono ?_); rintro e w4 ⟨rfl, lab4, h4, p4⟩; have H4 := Lib.hid h4; have P4 := Lib.hid p4; have b4 := p4.blk HBd.out L0c.out; have B4 := Lib.hid b4.1; have L4 := Lib.hid b4.2; clear h4 p4 b4)
          | (go_at_call 57; go_must (with_reducible refine (HPut.out _ _ _ _ _ H4.out (by omega)).mono ?_); rintro e w5 ⟨rfl, lab5, h5, p5⟩; have H5 := Lib.hid h5; have P5 := Lib.hid p5; have b5 := p5.blk B4.out L4.out; have B5 := Lib.hid b5.1; have L5 := Lib.hid b5.2; clear h5 p5 b5))
      all_goals
        go_wp2_with fail
        go_roundw
        case rel =>
          obtain rfl := HnA.out
          exact ⟨j + 1, by omega, by go_num, lab5, _, _, _, ((HLc.out.fr (Fr.refl _ _).drew).step H4.out P4.out).step H5.out P5.out, HG.out.addA HNone.out, by show r.accs ++ [x] = _; rw [HAc.out, take_snocg HX.out], HKe.out, by omega⟩
        case measure => simp [intOf]; omega
    · obtain rfl : j = n := by omega
      have hjI : ¬ (j : Int) < j := by omega
      have HL1 := Lib.hid hl
      have HG1 := Lib.hid hg
      have hacc2 : r.accs = xs := by rw [hacc, ← HN.out, List.take_length]
      have HA1 := Lib.hid hacc2
      have HK1 := Lib.hid hke
      clear hl hg hacc hke hacc2
      go_wp2_with fail
      go_loopw [79] (fun iv wr => ∃ i : Nat, i ≤ nk ∧ iv = .int .i64 i ∧ ∃ lab r es big, LdS w wr lab d r es big ∧ LdG r ∧ r.accs = xs ∧ r.kept = ks.take i ∧ big ≤ 400 + 10 * i) (fun iv _ => ((nk : Int) - intOf iv).toNat)
      case atStart => exact ⟨0, by omega, rfl, lab, r, es, big, HL1.out, HG1.out, HA1.out, by rw [HK1.out]; rfl, by omega⟩
      case round =>
        clear HL1 HG1 HA1 HK1 hbig
        clear lab r es big
        obtain ⟨i, hi, rfl, lab, r, es, big, hl, hg, hacc, hke, hbig⟩ := hrel
        by_cases hjm : i < nk
        · have hjI : (i : Int) < nk := by omega
          have hjJ : (0 : Int) ≤ i := by omega
          obtain ⟨x, hx⟩ : ∃ x, ks[i]? = some x := ⟨_, List.getElem?_eq_getElem (by rw [HNK.out]; exact hjm)⟩
          obtain ⟨g, rfl, -, hr⟩ := row_atf (f := Kp.cells) (sz := 33) (fun _ => rfl) (own_fr HK.out hl.f (fun _ _ h => h)) HNK.out hx
          obtain ⟨C, hC⟩ : ∃ C, x.cells.toArray = C := ⟨_, rfl⟩
          have Cs : C.size = 33 := by rw [← hC]; rfl
          have HCo := Lib.hid (show C.all (·.oneCell') = true from by rw [← hC]; simp [Kp.cells, Tx.cells, Acc.cells, Value.oneCell'])
          have HCx := Lib.hid hC
          rw [hC] at hr
          have HR := Lib.hid (World.rangeAt_alloc hr (.cells #[.int .u64 0, .int .u64 0, .int .u64 0, .int .u64 0, .int .u64 0, .int .u64 0, .int .u64 0, .int .u64 0, .int .u64 0, .int .u64 0, .int .i64 0, .int .i64 0, .int .i64 0, .int .i64 0, .int .i64 0, .int .i64 0, .int .u64 0, .int .u64 0, .int .u64 0, .int .u64 0, .int .u64 0, .int .u64 0, .int .u64 0, .int .u64 0, .int .u64 0, .int .u64 0, .int .i64 0, .int .i64 0, .int .i64 0, .int .i64 0, .int .i64 0, .int .i64 0, .int .i64 0] 63))
          have HR0 := Lib.hid hr
          have HBz := Lib.hid (heap_alloc_new wr (.cells #[.int .u64 0, .int .u64 0, .int .u64 0, .int .u64 0, .int .u64 0, .int .u64 0, .int .u64 0, .int .u64 0, .int .u64 0, .int .u64 0, .int .i64 0, .int .i64 0, .int .i64 0, .int .i64 0, .int .i64 0, .int .i64 0, .int .u64 0, .int .u64 0, .int .u64 0, .int .u64 0, .int .u64 0, .int .u64 0, .int .u64 0, .int .u64 0, .int .u64 0, .int .u64 0, .int .i64 0, .int .i64 0, .int .i64 0, .int .i64 0, .int .i64 0, .int .i64 0, .int .i64 0] 63))
          have w1' : IntKind.i64.wrap ((i : Int) + 1) = i + 1 := IntWalk.i64_in _ (by omega)
          have HL := Lib.hid hl
          have HG := Lib.hid hg
          have HX := Lib.hid hx
          have HAc := Lib.hid hacc
          have HKe := Lib.hid hke
          have L0 := Lib.hid (hl.s.free (Nat.le_refl _))
          clear hr hx hC hl hg hacc hke
          go_upto_region 15 with (first | (refine wpList_load_mid rfl 63 (.tmp 81) rfl g (i * 33) rfl _ _ HR0.out Tryd.underlying63 rfl (by rw [Array.length_toList, Cs]; rfl) ?_) | (refine wpList_load_mid rfl 63 (.tmp 81) rfl g (i * 33) rfl _ _ HR.out Tryd.underlying63 rfl (by rw [Array.length_toList, Cs]; rfl) ?_) | ((refine wpList_store_row rfl 63 (.tmp 16) (.tmp 82) rfl wr.heap.size C rfl rfl HBz.out (by rw [Cs]; rfl) (by rw [Cs]; rfl) HCo.out ?_); intro w9 hb9 f9; have HB9 := Lib.hid hb9; have F9 := Lib.hid f9; clear hb9 f9) | fail)
          have G9 := Lib.hid (show Fr (fun _ => False) wr w9 from ((Fr.refl (fun _ => False) wr).alloc _).then_ F9.out (fun k hk => .inr (by omega)))
          have HL9 := Lib.hid (HL.out.fr G9.out)
          obtain ⟨gi, hgi⟩ : ∃ z : Int, (r.nms x.move.id).getD 0 = z := ⟨_, rfl⟩
          obtain ⟨gb, hgb⟩ : ∃ z : Bool, (r.nms x.move.id).isSome = z := ⟨_, rfl⟩
          have hget := fun W l (h : Sta W l d r es big) => nmGetS W l d r es big x.move.id h
          rw [hgi, hgb] at hget
          have HGet := Lib.hid hget
          have HGb := Lib.hid hgb
          have hnm : ∀ W : World, W.heap[wr.heap.size]? = some (.cells C 63 (0, 0)) → (loadCells ⟨wr.heap.size, 16, none⟩ 2).run Tryd.prog W = .ok #[.int .u64 x.move.id.hi, .int .u64 x.move.id.lo] W := fun W h => by
            rw [← HCx.out] at h
            exact ld_nm (o := 16) (blk_cell' h 16 rfl) (blk_cell' h (16 + 1) rfl)
          have HNm := Lib.hid hnm
          have hld : ∀ W, Fr (fun _ => False) w9 W → W.cell? ⟨d.B, 4, none⟩ = some (Value.pointer (some ⟨d.N, 0, none⟩)) ∧ (loadCells ⟨wr.heap.size, 16, none⟩ 2).run Tryd.prog W = .ok #[.int .u64 x.move.id.hi, .int .u64 x.move.id.lo] W := fun W f => ⟨(HL9.out.s.fr f (fun _ h => h.elim)).cells.2.2.2.1, hnm W (f.blk HB9.out (fun h => h))⟩
          have HLd := Lib.hid hld
          clear hget hgi hgb hnm hld
          (try simp only [Act.put, List.setIfInBounds_toArray, List.set_cons_succ, List.set_cons_zero])
          go_cut [17, 18] from 83 to 145 (fun va vb w' => va = .int .i64 gi ∧ vb = .bool gb ∧ Fr (fun _ => False) w9 w')
          case first =>
            have FW0 := Lib.hid ((Fr.refl (fun _ => False) w9).drew)
            have HSd := Lib.hid (HL9.out.s.fr FW0.out (fun _ h => h.elim))
            go_region_held3 (fun w' => w'.cell? ⟨d.B, 4, none⟩ = some (Value.pointer (some ⟨d.N, 0, none⟩)) ∧ (loadCells ⟨wr.heap.size, 16, none⟩ 2).run Tryd.prog w' = .ok #[.int .u64 x.move.id.hi, .int .u64 x.move.id.lo] w')
              (first | exact HLd.out _ FW0.out | exact HLd.out _ FW1.out | go_keep)
              (first | (go_at_call 55; go_must (with_reducible refine (HGet.out _ _ HSd.out).mono ?_); rintro e w2 ⟨rfl, f2⟩; have FW1 := Lib.hid (FW0.out.then_ f2 (fun _ h => h.elim)); clear f2))
            all_goals
              go_wp2_with fail
              go_meet
              exact ⟨rfl, rfl, FW1.out⟩
          case rest =>
          obtain ⟨rfl, rfl, fc⟩ := hcut
          have HLc := Lib.hid (HL9.out.fr fc)
          have HBc := Lib.hid (fc.blk HB9.out (fun h => h))
          clear fc
          cases gb with
          | true =>
            go_upto_region 16 with fail
            go_region
            all_goals
              go_wp2_with fail
              go_ret2
              exact .inl ⟨rfl, fun ok => ixr_dup (i := i) (by rw [← HKe.out]; exact HG.out.nms) HX.out HGb.out ok.2.2.2.2.2.1, HLc.out.f.drew⟩
          | false =>
          have HNone := Lib.hid (show r.nms x.move.id = none from by have := HGb.out; cases hx : r.nms x.move.id with | none => rfl | some v => rw [hx] at this; cases this)
          obtain ⟨ft, hft⟩ : ∃ z, x.fate = z := ⟨_, rfl⟩
          obtain ⟨sp, hsp⟩ : ∃ z, x.move.stamp = z := ⟨_, rfl⟩
          have hcell : ∀ W : World, W.heap[wr.heap.size]? = some (.cells C 63 (0, 0)) → W.cell? ⟨wr.heap.size, 32, none⟩ = some (.int .i64 ft) ∧ W.cell? ⟨wr.heap.size, 30, none⟩ = some (.int .i64 sp) := fun W h => by
            rw [← HCx.out] at h
            rw [← hft, ← hsp]
            exact ⟨blk_cell' h 32 rfl, blk_cell' h 30 rfl⟩
          have HCell := Lib.hid hcell
          have HFt := Lib.hid hft
          have HSp := Lib.hid hsp
          have HMem := Lib.hid (List.mem_of_getElem? HX.out)
          clear hcell hft hsp
          by_cases hf0 : ft < 0
          · go_upto_region 16 with fail
            obtain ⟨c32, -⟩ := HCell.out wc.drew (blk_drew HBc.out)
            go_region
            all_goals
              go_wp2_with fail
              go_ret2
              exact .inl ⟨rfl, fun ok => absurd (ok.2.2.2.2.2.2.2 x HMem.out).1 (by rw [HFt.out]; omega), HLc.out.f.drew⟩
          by_cases hf4 : 4 < ft
          · go_upto_region 16 with fail
            obtain ⟨c32, -⟩ := HCell.out wc.drew (blk_drew HBc.out)
            go_region
            all_goals
              go_wp2_with fail
              go_ret2
              exact .inl ⟨rfl, fun ok => absurd (ok.2.2.2.2.2.2.2 x HMem.out).2 (by rw [HFt.out]; omega), HLc.out.f.drew⟩
          obtain ⟨nK, hnK⟩ : ∃ n : Nat, r.kept.length = n := ⟨_, rfl⟩
          obtain ⟨bs, hbs⟩ : ∃ z : Bool, (r.sts sp).isNone = z := ⟨_, rfl⟩
          have hnK0 : nK ≤ 100 := by rw [← hnK, HKe.out, List.length_take, HNK.out]; omega
          have HSd := Lib.hid HLc.out.s.drew
          have HBd := Lib.hid (blk_drew HBc.out)
          have hlen := kepLenS _ _ d _ _ _ HSd.out
          rw [hnK] at hlen
          have HLen := Lib.hid hlen
          have hput := stsPutS _ _ d _ _ _ sp nK HSd.out (by omega)
          rw [hbs] at hput
          have HPs := Lib.hid hput
          have HBs := Lib.hid hbs
          have HnK := Lib.hid hnK
          have HLd3 := Lib.hid (fun W l (r : Raw) es big (h : Sta W l d r es big) (hb : W.heap[wr.heap.size]? = some (.cells C 63 (0, 0))) => And.intro h.cells.2.1 (HCell.out W hb))
          clear hlen hput hbs hnK
          go_upto_region 16 with fail
          go_cut [119] from 94 to 145 (fun v w' => ∃ lab', v = .bool (!bs) ∧ LdS w w' lab' d { r with sts := upd r.sts sp (some (nK : Int)) } es (big + 1) ∧ w'.heap[wr.heap.size]? = some (.cells C 63 (0, 0)) ∧ (lab' wr.heap.size = 0 ∨ lab' wr.heap.size = 9))
          case first =>
            go_region_held3 (fun w' => w'.cell? ⟨d.B, 2, none⟩ = some (Value.pointer (some ⟨d.K, 0, none⟩)) ∧ w'.cell? ⟨wr.heap.size, 32, none⟩ = some (Value.int .i64 ft) ∧ w'.cell? ⟨wr.heap.size, 30, none⟩ = some (Value.int .i64 sp))
              (first | exact HLd3.out _ _ _ _ _ HSd.out HBd.out | exact HLd3.out _ _ _ _ _ H4.out B4.out | go_keep)
              (first
                | (go_at_call 62; go_must (with_reducible refine HLen.out.mono ?_); rintro e w3 ⟨rfl, rfl⟩)
                | (go_at_call 64; go_must (with_reducible refine HPs.out.mono ?_); rintro e w4 ⟨rfl, lab4, h4, p4⟩; have H4 := Lib.hid h4; have P4 := Lib.hid p4; have b4 := p4.blk HBd.out (.inl L0.out); have B4 := Lib.hid b4.1; have L4 := Lib.hid b4.2; clear h4 p4 b4))
            all_goals
              go_wp2_with fail
              go_meet
              exact ⟨lab4, rfl, (HLc.out.fr (Fr.refl _ _).drew).step H4.out P4.out, B4.out, L4.out⟩
          case rest =>
          obtain ⟨lab4, rfl, h4, b4, l4⟩ := hcut
          have HLs := Lib.hid h4
          have HBs4 := Lib.hid b4
          have L0c := Lib.hid l4
          clear h4 b4 l4
          cases bs with
          | false =>
            go_wp2_with fail
            go_ret2
            exact .inl ⟨rfl, fun ok => ixr_dup (i := i) (by rw [← HKe.out]; exact HG.out.sts) HX.out (by rw [HSp.out]; cases hq : r.sts sp with | none => have := HBs.out; rw [hq] at this; cases this | some v => rfl) ok.2.2.2.2.2.2.1, HLs.out.f⟩
          | true =>
          have HSt0 := Lib.hid (show r.sts x.move.stamp = none from by rw [HSp.out]; have := HBs.out; cases hq : r.sts sp with | none => rfl | some v => rw [hq] at this; cases this)
          have hjl : r.kept.length ≤ 100 := by rw [HKe.out, List.length_take, HNK.out]; omega
          obtain ⟨nA, hnA⟩ : ∃ n : Nat, r.kept.length = n := ⟨_, rfl⟩
          have hnA1 : nA ≤ 100 := by rw [← hnA]; exact hjl
          have HnA := Lib.hid hnA
          have hadd := kepAddS _ _ d _ _ _ x (HLs.out.s.drew) (by show r.kept.length ≤ _; rw [hnA]; omega) (by omega)
          rw [show ({ r with sts := upd r.sts sp (some (nK : Int)) } : Raw).kept.length = nA from hnA, HCx.out] at hadd
          have HAdd := Lib.hid hadd
          have HPut := Lib.hid (fun W l r es big (h : Sta W l d r es big) (hb : big ≤ 100000) => nmPutS W l d r es big x.move.id nA h hb)
          have HLd2 := Lib.hid (fun W l (r : Raw) es big (h : Sta W l d r es big) (hb : W.heap[wr.heap.size]? = some (.cells C 63 (0, 0))) => And.intro h.cells.2.1 (And.intro h.cells.2.2.2.1 (And.intro (HNm.out W hb) (ld_row (P := Tryd.prog) (W := W) wr.heap.size C (n := 33) Cs hb))))
          have HBd := Lib.hid (blk_drew HBs4.out)
          have HSd := Lib.hid HLs.out.s.drew
          clear hnA hadd
          go_upto_region 18 with fail
          go_cut [] from 120 to 145 (fun w' => ∃ lab' es', LdS w w' lab' d { r with kept := r.kept ++ [x], sts := upd r.sts sp (some (nK : Int)), nms := upd r.nms x.move.id (some (nA : Int)) } es' (big + 1 + 1 + 1) ∧ w'.heap[wr.heap.size]? = some (.cells C 63 (0, 0)))
          case first =>
            go_region_held3 (fun w' => w'.cell? ⟨d.B, 2, none⟩ = some (Value.pointer (some ⟨d.K, 0, none⟩)) ∧ w'.cell? ⟨d.B, 4, none⟩ = some (Value.pointer (some ⟨d.N, 0, none⟩)) ∧ (loadCells ⟨wr.heap.size, 16, none⟩ 2).run Tryd.prog w' = .ok #[.int .u64 x.move.id.hi, .int .u64 x.move.id.lo] w' ∧ (loadCells ⟨wr.heap.size, 0, none⟩ 33).run Tryd.prog w' = .ok C w')
              (first | exact HLd2.out _ _ _ _ _ HSd.out HBd.out | exact HLd2.out _ _ _ _ _ H4.out B4.out | exact HLd2.out _ _ _ _ _ H5.out B5.out | go_keep)
              (first
                | (go_at_call 63; go_must (with_reducible refine HAdd.out.mono ?_); rintro e w4 ⟨rfl, lab4, h4, p4⟩; have H4 := Lib.hid h4; have P4 := Lib.hid p4; have b4 := p4.blk HBd.out L0c.out; have B4 := Lib.hid b4.1; have L4 := Lib.hid b4.2; clear h4 p4 b4)
                | (go_at_call 57; go_must (with_reducible refine (HPut.out _ _ _ _ _ H4.out (by omega)).mono ?_); rintro e w5 ⟨rfl, lab5, h5, p5⟩; have H5 := Lib.hid h5; have P5 := Lib.hid p5; have b5 := p5.blk B4.out L4.out; have B5 := Lib.hid b5.1; have L5 := Lib.hid b5.2; clear h5 p5 b5))
            all_goals
              go_wp2_with fail
              go_meet
              exact ⟨lab5, _, ((HLs.out.fr (Fr.refl _ _).drew).step H4.out P4.out).step H5.out P5.out, B5.out⟩
          case rest =>
          obtain ⟨lab5, es5, h5, b5⟩ := hcut
          have HL5 := Lib.hid h5
          have HB5 := Lib.hid b5
          clear h5 b5
          obtain ⟨bd, hbd⟩ : ∃ z, dueB x = z := ⟨_, rfl⟩
          obtain ⟨it, hit⟩ : ∃ z, x.itm = z := ⟨_, rfl⟩
          have hdue := fun W => due_any W x
          rw [hbd, hit, HCx.out] at hdue
          have HDue := Lib.hid hdue
          have HBd2 := Lib.hid hbd
          have HIt := Lib.hid hit
          have HEn := Lib.hid (show r.ends it.stamp = none from by rw [← hit]; exact HG.out.noEnd HSt0.out)
          clear hdue hbd hit
          obtain ⟨w5, hw5⟩ : ∃ W, W = wc := ⟨_, rfl⟩
          subst hw5
          go_wp2_with (first | ((with_reducible refine wpList_load_row_w ?lw 63 (.tmp 16) rfl wr.heap.size rfl 63 _ _ _ HB5.out Tryd.underlying63 rfl ?hi ?_); (case lw => rfl); (case hi => (rw [Cs]; rfl))) | fail)
          refine (HDue.out _).mono ?_
          rintro e w6 ⟨rfl, f6⟩
          have HBi := Lib.hid (heap_alloc_new w6 (.cells #[.int .i64 0, .int .i64 0, .int .u64 0, .int .u64 0] 113))
          have HL6 := Lib.hid (HL5.out.fr f6)
          clear f6
          go_upto_region 20 with (first | ((refine wpList_store_row rfl 113 (.tmp 19) (.tmp 137) rfl w6.heap.size #[.int .i64 it.due, .int .i64 it.stamp, .int .u64 it.id.hi, .int .u64 it.id.lo] rfl rfl HBi.out rfl rfl (by simp [Value.oneCell']) ?_); intro w7 hb7 f7; have HB7 := Lib.hid hb7; have F7 := Lib.hid f7; clear hb7 f7) | fail)
          have G7 := Lib.hid (show Fr (fun _ => False) w6 w7 from ((Fr.refl (fun _ => False) w6).alloc _).then_ F7.out (fun k hk => .inr (by omega)))
          have HL7 := Lib.hid (HL6.out.fr G7.out)
          cases bd with
          | false =>
            go_wp2_with fail
            go_roundw
            case rel =>
              obtain rfl := HnA.out
              obtain rfl := HSp.out
              obtain rfl := HnK.out
              exact ⟨i + 1, by omega, by go_num, lab5, _, es5, _, HL7.out, HG.out.addK HNone.out HSt0.out ⟨by rw [HFt.out]; omega, by rw [HFt.out]; omega⟩ (.inl ⟨HBd2.out, rfl⟩), HAc.out, by show r.kept ++ [x] = _; rw [HKe.out, take_snocg HX.out], by omega⟩
            case measure => simp [intOf]; omega
          | true =>
            go_upto_region 21 with fail
            have li := ld_row (P := Tryd.prog) (W := w7.drew) w6.heap.size #[.int .i64 it.due, .int .i64 it.stamp, .int .u64 it.id.hi, .int .u64 it.id.lo] (n := 4) rfl (blk_drew HB7.out)
            have HPe := Lib.hid (ensPutS _ _ d _ _ _ it HL7.out.s.drew (by omega) HEn.out)
            go_region_held3 (fun w' => (loadCells ⟨w6.heap.size, 0, none⟩ 4).run Tryd.prog w' = .ok #[.int .i64 it.due, .int .i64 it.stamp, .int .u64 it.id.hi, .int .u64 it.id.lo] w')
              (first | exact li | exact li8 | go_keep)
              (first
                | (go_at_call 68; go_must (with_reducible refine HPe.out.mono ?_); rintro e w8 ⟨rfl, lab8, h8, p8⟩; have H8 := Lib.hid h8; have P8 := Lib.hid p8; have li8 := ld_row (P := Tryd.prog) (W := w8) w6.heap.size #[.int .i64 it.due, .int .i64 it.stamp, .int .u64 it.id.hi, .int .u64 it.id.lo] (n := 4) rfl (p8.blk (blk_drew HB7.out) (.inl (HL6.out.s.free (Nat.le_refl _)))).1; clear h8 p8))
            all_goals
              go_wp2_with fail
              go_roundw
              case rel =>
                obtain rfl := HnA.out
                obtain rfl := HSp.out
                obtain rfl := HnK.out
                obtain rfl := HIt.out
                exact ⟨i + 1, by omega, by go_num, lab8, _, _, _, (HL7.out.fr (Fr.refl _ _).drew).step H8.out P8.out, HG.out.addK HNone.out HSt0.out ⟨by rw [HFt.out]; omega, by rw [HFt.out]; omega⟩ (.inr ⟨HBd2.out, rfl⟩), HAc.out, by show r.kept ++ [x] = _; rw [HKe.out, take_snocg HX.out], by omega⟩
              case measure => simp [intOf]; omega
        · obtain rfl : i = nk := by omega
          have hiI : ¬ (i : Int) < i := by omega
          have HAn := Lib.hid (show r.accs = xs from hacc)
          have HKn := Lib.hid (show r.kept = ks from by rw [hke, ← HNK.out, List.take_length])
          have HG := Lib.hid hg
          obtain ⟨lv, sv, qv, ps, hp, sb⟩ := hl.s.bb
          have z7 := blk_free sb.blk 7
          have c7 := hl.s.cells.2.2.2.2
          obtain ⟨hs7, f7⟩ := hl.s.reclock c
          obtain ⟨hs8, f8⟩ := hs7.restamp s
          obtain ⟨lv', sv', qv', ps', hp', sb'⟩ := hs7.bb
          have z8 := blk_free sb'.blk 8
          have c8 := blk_cell sb'.blk 8 rfl
          have c7 := blk_cell sb.blk 7 rfl
          have HLz := Lib.hid ((hl.change hs7 f7 (fun k hk => by rw [hk, hl.s.labB]; decide)).change hs8 f8 (fun k hk => by rw [hk, hl.s.labB]; decide))
          have HCl := Lib.hid (clearL _ _ d _ _ _ hs8)
          have HB8 := Lib.hid hl.s.labB
          clear hl hg hacc hke sb sb' hs7 hs8 f7 f8
          go_wp2_with fail
          refine HCl.out.mono ?_
          rintro e w9 ⟨rfl, h9, f9⟩
          have HL9 := Lib.hid ((HLz.out.change h9 f9 (fun k hk => by
            rcases hk with hk | rfl
            · rw [hk]; decide
            · rw [HB8.out]; decide)).more (big2 := 2000) (by omega))
          clear h9 f9
          go_wp2_with fail
          go_ret2
          exact .inr ⟨lab, d, _, rfl, HL9.out, HAn.out, HKn.out, rfl, rfl, ⟨HG.out.ids, HG.out.nms, HG.out.sts, HG.out.ends, HG.out.fat⟩, by have h1 := HN.out; have h2 := HNK.out; omega⟩
end Go.Proofs.YtjchjpmgbmeohaaDoor

/- BooksLoads: a state that was loaded, beside the document's copy; what is refused. -/
set_option linter.unusedSimpArgs false
set_option linter.unusedVariables false
namespace Go.Proofs.YtjchjpmgbmeohaaDoor
open Go.RowKit

theorem LdS.old {w0 w w' : World} {lab : Nat → Nat} {d : Dd} {r : Raw} {es : List Ent} {big : Nat} (h : LdS w w' lab d r es big) (f : Fr (fun _ => False) w0 w) : LdS w0 w' lab d r es big := ⟨h.s, fun k hk => Nat.le_trans f.size (h.hi k hk), f.then_ h.f (fun _ h => h.elim)⟩
theorem box_bt {w0 w5 w6 : World} {lab : Nat → Nat} {d : Dd} {r : Raw} {big M : Nat} (h : LdS w0 w5 lab d r [] big) (f : Fr (fun _ => False) w5 w6) (hm : MS w6 (fun k => w5.heap.size ≤ k ∧ k < w6.heap.size) M r.rm) :
    Bt (fun _ => False) w0 (w6.alloc (.cells #[.pointer (some ⟨d.B, 0, none⟩), .pointer (some ⟨M, 0, none⟩), .slice none 0 0, .slice none 0 0] 61)) w6.heap.size d M r [] big r.rm [] := by
  have f1 := (Fr.refl (fun _ => False) w6).alloc (.cells #[.pointer (some ⟨d.B, 0, none⟩), .pointer (some ⟨M, 0, none⟩), .slice none 0 0, .slice none 0 0] 61)
  have f2 := f.then_ f1 (fun _ h => h.elim)
  have s0 := h.f.size
  have s1 := f.size
  have e2 : ∀ k, w5.heap.size ≤ k → k < w6.heap.size → (if k = w6.heap.size then 1 else if w5.heap.size ≤ k ∧ k < w6.heap.size then 2 else 0) = 2 := fun k h1 h2 => by rw [if_neg (by omega), if_pos ⟨h1, h2⟩]
  have q2 : ∀ k, (if k = w6.heap.size then 1 else if w5.heap.size ≤ k ∧ k < w6.heap.size then 2 else 0) = 2 → w5.heap.size ≤ k ∧ k < w6.heap.size := fun k hk => by
    by_cases e : k = w6.heap.size
    · rw [if_pos e] at hk; cases hk
    · rw [if_neg e] at hk
      by_cases e2 : w5.heap.size ≤ k ∧ k < w6.heap.size
      · exact e2
      · rw [if_neg e2] at hk; cases hk
  refine ⟨lab, (fun k => if k = w6.heap.size then 1 else if w5.heap.size ≤ k ∧ k < w6.heap.size then 2 else 0), .slice none 0 0, .slice none 0 0, 2, [], ⟨h.s.fr f2 (fun _ h => h.elim), heap_alloc_new w6 _, World.ownsRow_nil _ _ _ _, World.ownsRow_nil _ _ _ _, rfl, (hm.fr f1 (fun _ _ h => h)).mono (fun k hk => e2 k hk.1 hk.2) (fun k hk => by have := (q2 k hk).2; rw [World.size_alloc]; omega), fun i p x hp => (by simp at hp), by simp, fun j hj => by simp at hj; omega, by simp, fun k hk => (by cases hk), fun k hk => (by cases hk), fun k hk => (by cases hk), fun k hk => ?_, h.hi, h.f.then_ f2 (fun _ h => h.elim), fun k hk => hk.elim⟩⟩
  have hk : (if k = w6.heap.size then 1 else if w5.heap.size ≤ k ∧ k < w6.heap.size then 2 else 0) ≠ 0 := hk
  have hkk : w5.heap.size ≤ k ∧ k ≤ w6.heap.size := by
    by_cases e : k = w6.heap.size
    · omega
    · rw [if_neg e] at hk
      by_cases e2 : w5.heap.size ≤ k ∧ k < w6.heap.size
      · omega
      · rw [if_neg e2] at hk; exact absurd rfl hk
  exact ⟨h.s.free (by omega), by omega, by rw [World.size_alloc]; omega⟩
theorem load_good (W : World) (r : Raw) (g : Good r) (ga gk : Option Addr) (ca ck : Nat) (oa : W.ownsRow 0 26 14 (.slice ga r.accs.length ca) r.accs.length (r.accs.flatMap Acc.cells)) (ok : W.ownsRow 0 63 33 (.slice gk r.kept.length ck) r.kept.length (r.kept.flatMap Kp.cells)) :
    Calls Tryd.prog 36 #[.slice ga r.accs.length ca, .slice gk r.kept.length ck, .int .i64 r.clock, .int .i64 r.stamp] W fun e w' => ∃ lab d, e = .returned (.tuple #[.pointer (some ⟨d.B, 0, none⟩), .int .i64 0]) ∧ LdS W w' lab d r [] 2000 := by
  refine (load_any W r.accs r.kept ga gk ca ck r.clock r.stamp oa ok).mono fun e w' h => ?_
  rcases h with ⟨-, hno, -⟩ | ⟨lab, d, r2, rfl, hl, ha, hk, hc, hs, hg, hz⟩
  · exact absurd (good_ok g (by have := g.lim.2.2; have := g.na; have := g.nk; omega)) hno
  · obtain rfl := ldg_same hg g ha hk hc hs
    exact ⟨lab, d, rfl, hl⟩
theorem load_bad (W : World) : Calls Tryd.prog 36 #[.slice none 0 0, .slice none 0 0, .int .i64 (-1), .int .i64 0] W fun e w' => e = .returned (.tuple #[.pointer none, .int .i64 1]) ∧ Fr (fun _ => False) W w' := by
  refine (load_any W [] [] none none 0 0 (-1) 0 (World.ownsRow_nil _ _ _ _) (World.ownsRow_nil _ _ _ _)).mono fun e w' h => ?_
  rcases h with ⟨rfl, -, f⟩ | ⟨lab, d, r2, -, -, -, -, -, -, -, hz⟩
  · exact ⟨rfl, f⟩
  · omega
theorem load_twoA (W : World) (xs : List Acc) (n : Nat) (hn : xs.length = n) (g : Option Addr) (c : Nat) (oa : W.ownsRow 0 26 14 (.slice g (n + n) c) (n + n) (xs.flatMap Acc.cells ++ xs.flatMap Acc.cells)) :
    Calls Tryd.prog 36 #[.slice g (n + n) c, .slice none 0 0, .int .i64 0, .int .i64 0] W fun e w' => ∃ p, e = .returned (.tuple #[p, .int .i64 (if n = 0 then 0 else 1)]) ∧ Fr (fun _ => False) W w' := by
  subst hn
  rw [← List.flatMap_append, ← List.length_append] at oa
  rw [← List.length_append]
  refine (load_any W (xs ++ xs) [] g none c 0 0 0 oa (World.ownsRow_nil _ _ _ _)).mono fun e w' h => ?_
  rcases h with ⟨rfl, hno, f⟩ | ⟨lab, d, r2, rfl, hl, ha, hk, hc, hs, hg, hz⟩
  · refine ⟨.pointer none, ?_, f⟩
    rw [if_neg (fun h0 => hno ?_)]
    obtain rfl := List.eq_nil_of_length_eq_zero h0
    exact ⟨by simp, by simp, by omega, by omega, fun i j x y h => by simp at h, fun i j x y h => by simp at h, fun i j x y h => by simp at h, fun k hk => by cases hk⟩
  · have hx0 : xs = [] := dist_twice (f := fun a : Acc => a.id) (by rw [← ha]; exact ixr_dist hg.ids)
    subst hx0
    exact ⟨_, rfl, hl.f⟩
theorem load_twoK (W : World) (xs : List Kp) (n : Nat) (hn : xs.length = n) (g : Option Addr) (c : Nat) (oa : W.ownsRow 0 63 33 (.slice g (n + n) c) (n + n) (xs.flatMap Kp.cells ++ xs.flatMap Kp.cells)) :
    Calls Tryd.prog 36 #[.slice none 0 0, .slice g (n + n) c, .int .i64 0, .int .i64 0] W fun e w' => ∃ p, e = .returned (.tuple #[p, .int .i64 (if n = 0 then 0 else 1)]) ∧ Fr (fun _ => False) W w' := by
  subst hn
  rw [← List.flatMap_append, ← List.length_append] at oa
  rw [← List.length_append]
  refine (load_any W [] (xs ++ xs) none g 0 c 0 0 (World.ownsRow_nil _ _ _ _) oa).mono fun e w' h => ?_
  rcases h with ⟨rfl, hno, f⟩ | ⟨lab, d, r2, rfl, hl, ha, hk, hc, hs, hg, hz⟩
  · refine ⟨.pointer none, ?_, f⟩
    rw [if_neg (fun h0 => hno ?_)]
    obtain rfl := List.eq_nil_of_length_eq_zero h0
    exact ⟨by simp, by simp, by omega, by omega, fun i j x y h => by simp at h, fun i j x y h => by simp at h, fun i j x y h => by simp at h, fun k hk => by cases hk⟩
  · have hx0 : xs = [] := dist_twice (f := fun a : Kp => a.move.id) (by rw [← hk]; exact ixr_dist hg.nms)
    subst hx0
    exact ⟨_, rfl, hl.f⟩
end Go.Proofs.YtjchjpmgbmeohaaDoor

/- BooksLoads. -/
set_option linter.unusedSimpArgs false
set_option linter.unusedVariables false
namespace Go.Proofs.YtjchjpmgbmeohaaDoor
open Go.RowKit

attribute [-go_sem] loadCells
set_option maxRecDepth 8000 in
set_option maxHeartbeats 25600000 in
theorem loads_any (w : World) (hm : Most w) (a a2 : Option Addr) (cap cap2 : Nat) (cs cs2 : List Cl) (hs : Scr w a cs) (hn : cs.length ≤ 140737488355328) (hs2 : Scr w a2 cs2) (hn2 : cs2.length ≤ 140737488355328) :
    Calls Tryd.prog 7 #[.slice a cs.length cap, .slice a2 cs2.length cap2] w fun e w' => e = .returned (.bool true) ∧ Fr (fun _ => False) w w' := by
  have HAl := Lib.hid (alive15_any w hm)
  have HGr := Lib.hid (fun W (f : Fr (fun _ => False) w W) => great_any W a cap cs (hs.fr f) hn)
  have HGr2 := Lib.hid (fun W (f : Fr (fun _ => False) w W) => great_any W a2 cap2 cs2 (hs2.fr f) hn2)
  have HSt := Lib.hid (fun W => start_any W)
  have HS := Lib.hid hs
  have HS2 := Lib.hid hs2
  obtain ⟨n, hnl⟩ : ∃ n, cs.length = n := ⟨_, rfl⟩
  have HN := Lib.hid hnl
  rw [hnl] at HGr
  rw [hnl]
  obtain ⟨n2, hnl2⟩ : ∃ n, cs2.length = n := ⟨_, rfl⟩
  have HN2 := Lib.hid hnl2
  rw [hnl2] at HGr2
  rw [hnl2]
  clear hs hnl hn hs2 hnl2 hn2
  go_enter Tryd.func7, Tryd.ntmps7
  go_wp2_with fail
  refine HAl.out.mono ?_
  rintro e w1 ⟨rfl, f1⟩
  have F1 := Lib.hid f1
  clear f1
  go_wp2_with fail
  refine (HGr.out w1 F1.out).mono ?_
  rintro e w2 ⟨⟨gr, rfl, hgr⟩, f2⟩
  have F2 := Lib.hid (F1.out.then_ f2 (fun _ h => h.elim))
  clear f2
  cases gr with
  | true =>
    clear hgr
    go_wp2_with fail
    go_ret
    exact ⟨rfl, F2.out⟩
  | false =>
  have hn : n ≤ 200 := hgr rfl
  clear hgr
  go_wp2_with fail
  refine (HGr2.out w2 F2.out).mono ?_
  rintro e w3 ⟨⟨gr, rfl, hgr⟩, f3⟩
  have F3 := Lib.hid (F2.out.then_ f3 (fun _ h => h.elim))
  clear f3
  cases gr with
  | true =>
    clear hgr
    go_wp2_with fail
    go_ret
    exact ⟨rfl, F3.out⟩
  | false =>
  have hn2 : n2 ≤ 200 := hgr rfl
  clear hgr
  go_wp2_with fail
  refine (HSt.out w3).mono ?_
  rintro e w4 ⟨b, d, M0, rfl, h4⟩
  have H4 := Lib.hid h4
  clear h4
  go_wp2_with fail
  go_loopw [33] (fun iv wr => ∃ j : Nat, j ≤ n ∧ iv = .int .i64 j ∧ ∃ M r es ms, Bt (fun _ => False) w3 wr b d M r es (8 * j) r.rm ms ∧ Good r ∧ MkOk r es ms ∧ ms.length ≤ j) (fun iv _ => ((n : Int) - intOf iv).toNat)
  case atStart => exact ⟨0, by omega, rfl, M0, Raw.empty, [], [], H4.out, good_empty, trivial, Nat.le_refl _⟩
  case round =>
    obtain ⟨j, hj, rfl, M, r, es, ms, hb, hg, hmk, hml⟩ := hrel
    have HBt := Lib.hid hb
    have HG := Lib.hid hg
    have HMk := Lib.hid hmk
    by_cases hjm : j < n
    · as_aux_lemma =>
        have hjI : (j : Int) < n := by omega
        have hjJ : (0 : Int) ≤ j := by omega
        obtain ⟨g, off, rfl, hr⟩ := scr_at (HS.out.fr (F3.out.then_ hb.old0 (fun _ h => h.elim))) (show j < cs.length from by rw [HN.out]; exact hjm)
        obtain ⟨x, hx⟩ : ∃ x, cs[j]'(by rw [HN.out]; exact hjm) = x := ⟨_, rfl⟩
        rw [hx] at hr
        have HR := Lib.hid (World.rangeAt_alloc hr (.cells #[.int .i64 0, .int .u64 0, .int .u64 0, .int .u64 0, .int .u64 0, .int .u64 0, .int .u64 0, .int .u64 0, .int .u64 0, .int .u64 0, .int .u64 0, .int .i64 0, .int .i64 0, .int .i64 0, .int .i64 0, .int .u64 0, .int .u64 0, .int .u64 0, .int .u64 0, .int .u64 0, .int .u64 0, .int .u64 0, .int .u64 0, .int .u64 0, .int .u64 0, .int .i64 0, .int .i64 0, .int .i64 0, .int .i64 0, .int .i64 0, .int .i64 0, .int .u64 0, .int .u64 0, .int .u64 0, .int .u64 0, .int .u64 0, .int .u64 0, .int .u64 0, .int .u64 0, .int .u64 0, .int .u64 0, .int .i64 0, .int .i64 0, .int .i64 0, .int .i64 0, .int .i64 0, .int .i64 0, .bool false, .int .u64 0, .int .u64 0, .int .i64 0] 53))
        have HR0 := Lib.hid hr
        have HBz := Lib.hid (heap_alloc_new wr (.cells #[.int .i64 0, .int .u64 0, .int .u64 0, .int .u64 0, .int .u64 0, .int .u64 0, .int .u64 0, .int .u64 0, .int .u64 0, .int .u64 0, .int .u64 0, .int .i64 0, .int .i64 0, .int .i64 0, .int .i64 0, .int .u64 0, .int .u64 0, .int .u64 0, .int .u64 0, .int .u64 0, .int .u64 0, .int .u64 0, .int .u64 0, .int .u64 0, .int .u64 0, .int .i64 0, .int .i64 0, .int .i64 0, .int .i64 0, .int .i64 0, .int .i64 0, .int .u64 0, .int .u64 0, .int .u64 0, .int .u64 0, .int .u64 0, .int .u64 0, .int .u64 0, .int .u64 0, .int .u64 0, .int .u64 0, .int .i64 0, .int .i64 0, .int .i64 0, .int .i64 0, .int .i64 0, .int .i64 0, .bool false, .int .u64 0, .int .u64 0, .int .i64 0] 53))
        have w1' : IntKind.i64.wrap ((j : Int) + 1) = j + 1 := IntWalk.i64_in _ (by omega)
        clear hr hx
        clear hb hg hmk
        go_upto_region 9 with (first | (refine wpList_load_mid rfl 53 (.tmp 35) rfl g (off + j * 51) rfl _ _ HR0.out Tryd.underlying53 rfl rfl ?_) | (refine wpList_load_mid rfl 53 (.tmp 35) rfl g (off + j * 51) rfl _ _ HR.out Tryd.underlying53 rfl rfl ?_) | ((refine wpList_store_row rfl 53 (.tmp 7) (.tmp 36) rfl wr.heap.size x.cells.toArray rfl rfl HBz.out rfl rfl (cl_one x) ?_); intro w9 hb9 f9; have HB9 := Lib.hid hb9; have F9 := Lib.hid f9; clear hb9 f9) | fail)
        have G9 := Lib.hid (((Fr.refl (fun _ => False) wr).alloc (.cells #[.int .i64 0, .int .u64 0, .int .u64 0, .int .u64 0, .int .u64 0, .int .u64 0, .int .u64 0, .int .u64 0, .int .u64 0, .int .u64 0, .int .u64 0, .int .i64 0, .int .i64 0, .int .i64 0, .int .i64 0, .int .u64 0, .int .u64 0, .int .u64 0, .int .u64 0, .int .u64 0, .int .u64 0, .int .u64 0, .int .u64 0, .int .u64 0, .int .u64 0, .int .i64 0, .int .i64 0, .int .i64 0, .int .i64 0, .int .i64 0, .int .i64 0, .int .u64 0, .int .u64 0, .int .u64 0, .int .u64 0, .int .u64 0, .int .u64 0, .int .u64 0, .int .u64 0, .int .u64 0, .int .u64 0, .int .i64 0, .int .i64 0, .int .i64 0, .int .i64 0, .int .i64 0, .int .i64 0, .bool false, .int .u64 0, .int .u64 0, .int .i64 0] 53)).then_ F9.out (fun k hk => .inr (by omega)))
        have HBt9 := Lib.hid (HBt.out.frF G9.out)
        have HDo := Lib.hid (does_any HBt9.out HG.out HMk.out (by omega) (by omega) x)
        go_wp2_with (first | ((with_reducible refine wpList_load_row_w ?lw 53 _ rfl wr.heap.size rfl 53 _ _ _ HB9.out Tryd.underlying53 rfl rfl ?_); (case lw => rfl)) | fail)
        refine HDo.out.mono ?_
        rintro e w10 ⟨rfl, M', r', es', ms', h', g', mk', -, -, hl'⟩
        have H10 := Lib.hid h'
        have G10 := Lib.hid g'
        have MK10 := Lib.hid mk'
        clear h' g' mk'
        go_wp2_with fail
        go_roundw
        case rel => exact ⟨j + 1, by omega, by go_num, M', r', es', ms', H10.out.more (by omega), G10.out, MK10.out, by omega⟩
        case measure => (simp [intOf]; omega)
    · obtain rfl : j = n := by omega
      have hjI : ¬ (j : Int) < j := by omega
      obtain ⟨wa, hwa⟩ : ∃ W, W = wr := ⟨_, rfl⟩
      subst hwa
      obtain ⟨b0, b1⟩ := hb.cells
      have HB0 := Lib.hid b0
      have HB1 := Lib.hid b1
      have HF3 := Lib.hid (F3.out.then_ hb.old0 (fun _ h => h.elim))
      have HAc := Lib.hid (fun W (f : Fr (fun _ => False) wa W) => accountsA (hb.frF f).alv (by have := hg.na; omega))
      have HKe := Lib.hid (fun W (f : Fr (fun _ => False) wa W) => keepsA (hb.frF f).alv (by have := hg.nk; omega))
      have HCl := Lib.hid (fun W (f : Fr (fun _ => False) wa W) => clockA (hb.frF f).alv)
      have HSm := Lib.hid (fun W (f : Fr (fun _ => False) wa W) => stampA (hb.frF f).alv)
      clear hb hg hmk b1
      go_upto_region 11 with fail
      go_cut [8, 9] from 41 (fun v1 v2 w' => ∃ d2 lab2, v1 = .pointer (some ⟨d2.B, 0, none⟩) ∧ v2 = .int .i64 0 ∧ LdS wa w' lab2 d2 r [] 2000)
      case first =>
        have F0 := Lib.hid ((Fr.refl (fun _ => False) wa).drew)
        go_region_held3 (fun w' => w'.cell? ⟨b, 0, none⟩ = some (Value.pointer (some ⟨d.B, 0, none⟩)))
          (first | exact b0 | exact q0 | go_keep)
          (first
            | (go_at_call 19; go_must (with_reducible refine (HAc.out _ F0.out).mono ?_); rintro e w2' ⟨ga, ca, rfl, oa, -, f2⟩; have FX2 := Lib.hid (F0.out.then_ f2 (fun _ h => h.elim)); have OA := Lib.hid oa; have q0 := FX2.out.cell HB0.out (fun h => h); clear f2 oa)
            | (go_at_call 20; go_must (with_reducible refine (HKe.out _ FX2.out).mono ?_); rintro e w3' ⟨gk, ck2, rfl, ok, -, f3⟩; have FX3 := Lib.hid (FX2.out.then_ f3 (fun _ h => h.elim)); have OA3 := Lib.hid (own_fr OA.out f3 (fun _ _ h => h)); have OK := Lib.hid ok; have q0 := FX3.out.cell HB0.out (fun h => h); clear f3 ok)
            | (go_at_call 37; go_must (with_reducible refine (HCl.out _ FX3.out).mono ?_); rintro e w4' ⟨rfl, f4⟩; have FX4 := Lib.hid (FX3.out.then_ f4 (fun _ h => h.elim)); have OA4 := Lib.hid (own_fr OA3.out f4 (fun _ _ h => h)); have OK4 := Lib.hid (own_fr OK.out f4 (fun _ _ h => h)); have q0 := FX4.out.cell HB0.out (fun h => h); clear f4)
            | (go_at_call 21; go_must (with_reducible refine (HSm.out _ FX4.out).mono ?_); rintro e w5' ⟨rfl, f5⟩; have FX5 := Lib.hid (FX4.out.then_ f5 (fun _ h => h.elim)); have OA5 := Lib.hid (own_fr OA4.out f5 (fun _ _ h => h)); have OK5 := Lib.hid (own_fr OK4.out f5 (fun _ _ h => h)); have q0 := FX5.out.cell HB0.out (fun h => h); clear f5)
            | (go_at_call 36; go_must (with_reducible refine (load_good _ r HG.out ga gk ca ck2 OA5.out OK5.out).mono ?_); rintro e w6' ⟨lab2, d2, rfl, hl⟩; have FX6 := Lib.hid (FX5.out.then_ hl.f (fun _ h => h.elim)); have HLd := Lib.hid (hl.old FX5.out); have q0 := FX6.out.cell HB0.out (fun h => h); clear hl))
        all_goals
          go_wp2_with fail
          go_meet
          exact ⟨d2, lab2, rfl, rfl, HLd.out⟩
      case rest =>
      obtain ⟨d2, lab2, rfl, rfl, hl⟩ := hcut
      have HL2 := Lib.hid hl
      have b1 := hl.f.cell HB1.out (fun h => h)
      have HCp := Lib.hid (bmCopy (HBt.out.frF hl.f) HG.out)
      clear hl b0
      obtain ⟨w6, hw6⟩ : ∃ W, W = wc := ⟨_, rfl⟩
      subst hw6
      go_wp2_with fail
      refine HCp.out.mono ?_
      rintro e w7 ⟨M2, rfl, hms, f7⟩
      have HBx := Lib.hid (box_bt HL2.out f7 hms)
      clear hms f7 b1
      go_wp2_with fail
      refine (same_any HBx.out HG.out).mono ?_
      rintro e w8 ⟨rfl, f8⟩
      have HBx8 := Lib.hid (HBx.out.frF f8)
      clear f8
      go_wp2_with fail
      go_loopw [80] (fun iv wr => ∃ i : Nat, i ≤ n2 ∧ iv = .int .i64 i ∧ ∃ M' r' es', Bt (fun _ => False) wa wr w7.heap.size d2 M' r' es' (2000 + 8 * i) r'.rm [] ∧ Good r' ∧ MkOk r' es' []) (fun iv _ => ((n2 : Int) - intOf iv).toNat)
      case atStart => exact ⟨0, by omega, rfl, M2, r, [], HBx8.out, HG.out, trivial⟩
      case round =>
        obtain ⟨i, hi, rfl, M', r', es', hb', hg', hmk'⟩ := hrel
        have HBt' := Lib.hid hb'
        have HG' := Lib.hid hg'
        have HMk' := Lib.hid hmk'
        have HFr := Lib.hid (HF3.out.then_ hb'.old0 (fun _ h => h.elim))
        by_cases him : i < n2
        · as_aux_lemma =>
            have hiI : (i : Int) < n2 := by omega
            have hiJ : (0 : Int) ≤ i := by omega
            obtain ⟨g, off, rfl, hr⟩ := scr_at (HS2.out.fr HFr.out) (show i < cs2.length from by rw [HN2.out]; exact him)
            obtain ⟨x, hx⟩ : ∃ x, cs2[i]'(by rw [HN2.out]; exact him) = x := ⟨_, rfl⟩
            rw [hx] at hr
            have HR := Lib.hid (World.rangeAt_alloc hr (.cells #[.int .i64 0, .int .u64 0, .int .u64 0, .int .u64 0, .int .u64 0, .int .u64 0, .int .u64 0, .int .u64 0, .int .u64 0, .int .u64 0, .int .u64 0, .int .i64 0, .int .i64 0, .int .i64 0, .int .i64 0, .int .u64 0, .int .u64 0, .int .u64 0, .int .u64 0, .int .u64 0, .int .u64 0, .int .u64 0, .int .u64 0, .int .u64 0, .int .u64 0, .int .i64 0, .int .i64 0, .int .i64 0, .int .i64 0, .int .i64 0, .int .i64 0, .int .u64 0, .int .u64 0, .int .u64 0, .int .u64 0, .int .u64 0, .int .u64 0, .int .u64 0, .int .u64 0, .int .u64 0, .int .u64 0, .int .i64 0, .int .i64 0, .int .i64 0, .int .i64 0, .int .i64 0, .int .i64 0, .bool false, .int .u64 0, .int .u64 0, .int .i64 0] 53))
            have HR0 := Lib.hid hr
            have HBz := Lib.hid (heap_alloc_new wr (.cells #[.int .i64 0, .int .u64 0, .int .u64 0, .int .u64 0, .int .u64 0, .int .u64 0, .int .u64 0, .int .u64 0, .int .u64 0, .int .u64 0, .int .u64 0, .int .i64 0, .int .i64 0, .int .i64 0, .int .i64 0, .int .u64 0, .int .u64 0, .int .u64 0, .int .u64 0, .int .u64 0, .int .u64 0, .int .u64 0, .int .u64 0, .int .u64 0, .int .u64 0, .int .i64 0, .int .i64 0, .int .i64 0, .int .i64 0, .int .i64 0, .int .i64 0, .int .u64 0, .int .u64 0, .int .u64 0, .int .u64 0, .int .u64 0, .int .u64 0, .int .u64 0, .int .u64 0, .int .u64 0, .int .u64 0, .int .i64 0, .int .i64 0, .int .i64 0, .int .i64 0, .int .i64 0, .int .i64 0, .bool false, .int .u64 0, .int .u64 0, .int .i64 0] 53))
            have w1' : IntKind.i64.wrap ((i : Int) + 1) = i + 1 := IntWalk.i64_in _ (by omega)
            clear hr hx
            clear hb' hg' hmk'
            go_upto_region 20 with (first | (refine wpList_load_mid rfl 53 (.tmp 82) rfl g (off + i * 51) rfl _ _ HR0.out Tryd.underlying53 rfl rfl ?_) | (refine wpList_load_mid rfl 53 (.tmp 82) rfl g (off + i * 51) rfl _ _ HR.out Tryd.underlying53 rfl rfl ?_) | ((refine wpList_store_row rfl 53 (.tmp 12) (.tmp 83) rfl wr.heap.size x.cells.toArray rfl rfl HBz.out rfl rfl (cl_one x) ?_); intro w9 hb9 f9; have HB9 := Lib.hid hb9; have F9 := Lib.hid f9; clear hb9 f9) | fail)
            have G9 := Lib.hid (((Fr.refl (fun _ => False) wr).alloc (.cells #[.int .i64 0, .int .u64 0, .int .u64 0, .int .u64 0, .int .u64 0, .int .u64 0, .int .u64 0, .int .u64 0, .int .u64 0, .int .u64 0, .int .u64 0, .int .i64 0, .int .i64 0, .int .i64 0, .int .i64 0, .int .u64 0, .int .u64 0, .int .u64 0, .int .u64 0, .int .u64 0, .int .u64 0, .int .u64 0, .int .u64 0, .int .u64 0, .int .u64 0, .int .i64 0, .int .i64 0, .int .i64 0, .int .i64 0, .int .i64 0, .int .i64 0, .int .u64 0, .int .u64 0, .int .u64 0, .int .u64 0, .int .u64 0, .int .u64 0, .int .u64 0, .int .u64 0, .int .u64 0, .int .u64 0, .int .i64 0, .int .i64 0, .int .i64 0, .int .i64 0, .int .i64 0, .int .i64 0, .bool false, .int .u64 0, .int .u64 0, .int .i64 0] 53)).then_ F9.out (fun k hk => .inr (by omega)))
            have HBt9 := Lib.hid (HBt'.out.frF G9.out)
            obtain ⟨kd0, hkd⟩ : ∃ k, x.kind = k := ⟨_, rfl⟩
            have HKd := Lib.hid hkd
            have x0 : w9.cell? ⟨wr.heap.size, 0, none⟩ = some (.int .i64 kd0) := by rw [← hkd]; exact blk_cell HB9.out 0 rfl
            clear hkd
            by_cases hk5 : kd0 < 5
            · have HDo := Lib.hid (does_any HBt9.out HG'.out HMk'.out (by omega) (by simp) x)
              go_wp2_with (first | ((with_reducible refine wpList_load_row_w ?lw 53 _ rfl wr.heap.size rfl 53 _ _ _ HB9.out Tryd.underlying53 rfl rfl ?_); (case lw => rfl)) | fail)
              refine HDo.out.mono ?_
              rintro e w10 ⟨rfl, M3, r3, es3, ms3, h3, g3, mk3, hb3, f3, -⟩
              obtain ⟨e3, -⟩ := hb3 (by rw [HKd.out]; exact hk5)
              rw [e3] at h3 mk3
              have H10 := Lib.hid h3
              have G10' := Lib.hid g3
              have MK10 := Lib.hid mk3
              clear h3 g3 mk3 hb3 f3 e3 x0
              go_wp2_with fail
              refine (same_any H10.out G10'.out).mono ?_
              rintro e w11 ⟨rfl, f5⟩
              have H11 := Lib.hid (H10.out.frF f5)
              clear f5
              obtain ⟨b0, b1⟩ := H11.out.cells
              obtain ⟨Q2, hQ2⟩ := H11.out.cur
              have HMS := Lib.hid hQ2
              obtain ⟨av, kv, hbM, -, hkr, -⟩ := hQ2
              have hkr : w11.ownsRow 0 63 33 kv r3.kept.length (r3.kept.flatMap Kp.cells) := hkr
              obtain ⟨ak, capk, rfl, -, -⟩ := own_form hkr
              have HMc1 := Lib.hid (show w11.cell? ⟨M3, 1, none⟩ = some (.slice ak r3.kept.length capk) from blk_cell hbM 1 rfl)
              have HKr := Lib.hid hkr
              obtain ⟨xd, isd, hfr, hdu⟩ := btDue H11.out G10'.out (by omega)
              obtain ⟨D, hD⟩ : ∃ C, ((dueO r3 xd isd).getD Kp.zero).cells.toArray = C := ⟨_, rfl⟩
              have Ds : D.size = 33 := by rw [← hD]; rfl
              have HDo2 := Lib.hid (show D.all (·.oneCell') = true from by rw [← hD]; simp [Kp.cells, Tx.cells, Value.oneCell'])
              obtain ⟨bd, hbd⟩ : ∃ z, (dueO r3 xd isd).isSome = z := ⟨_, rfl⟩
              rw [hD, hbd] at hdu
              have HDu := Lib.hid hdu
              have HFi := Lib.hid hfr
              have HD := Lib.hid hD
              have HBd := Lib.hid hbd
              have HB1 := Lib.hid b1
              clear hfr hdu hD hbd hbM hkr
              go_wp2_with fail
              refine HDu.out.mono ?_
              rintro e w12 ⟨rfl, f9⟩
              have HBz := Lib.hid (heap_alloc_new w12 (.cells #[.int .u64 0, .int .u64 0, .int .u64 0, .int .u64 0, .int .u64 0, .int .u64 0, .int .u64 0, .int .u64 0, .int .u64 0, .int .u64 0, .int .i64 0, .int .i64 0, .int .i64 0, .int .i64 0, .int .i64 0, .int .i64 0, .int .u64 0, .int .u64 0, .int .u64 0, .int .u64 0, .int .u64 0, .int .u64 0, .int .u64 0, .int .u64 0, .int .u64 0, .int .u64 0, .int .i64 0, .int .i64 0, .int .i64 0, .int .i64 0, .int .i64 0, .int .i64 0, .int .i64 0] 63))
              have FF := Lib.hid f9
              clear f9 b0 b1
              have b1 := ((FF.out.alloc (.cells #[.int .u64 0, .int .u64 0, .int .u64 0, .int .u64 0, .int .u64 0, .int .u64 0, .int .u64 0, .int .u64 0, .int .u64 0, .int .u64 0, .int .i64 0, .int .i64 0, .int .i64 0, .int .i64 0, .int .i64 0, .int .i64 0, .int .u64 0, .int .u64 0, .int .u64 0, .int .u64 0, .int .u64 0, .int .u64 0, .int .u64 0, .int .u64 0, .int .u64 0, .int .u64 0, .int .i64 0, .int .i64 0, .int .i64 0, .int .i64 0, .int .i64 0, .int .i64 0, .int .i64 0] 63))).cell HB1.out (fun h => h)
              have Hb1 := Lib.hid (fun w9 (f : Fr (fun k => k = w12.heap.size) (w12.alloc (.cells #[.int .u64 0, .int .u64 0, .int .u64 0, .int .u64 0, .int .u64 0, .int .u64 0, .int .u64 0, .int .u64 0, .int .u64 0, .int .u64 0, .int .i64 0, .int .i64 0, .int .i64 0, .int .i64 0, .int .i64 0, .int .i64 0, .int .u64 0, .int .u64 0, .int .u64 0, .int .u64 0, .int .u64 0, .int .u64 0, .int .u64 0, .int .u64 0, .int .u64 0, .int .u64 0, .int .i64 0, .int .i64 0, .int .i64 0, .int .i64 0, .int .i64 0, .int .i64 0, .int .i64 0] 63)) w9) => f.cell b1 (fun h => absurd h (Nat.ne_of_lt (cell_lt' (FF.out.cell HB1.out (fun h => h))))))
              clear b1
              go_wp2_with (first | ((refine wpList_store_row rfl 63 (.tmp 13) (.tmp 104) rfl w12.heap.size D rfl rfl HBz.out (by rw [Ds]; rfl) (by rw [Ds]; rfl) HDo2.out ?_); intro w13 hb10 f10; have HX14 := Lib.hid hb10; have F10 := Lib.hid f10; have b1 := Hb1.out w13 f10; clear hb10 f10) | fail)
              have G10 := Lib.hid (show Fr (fun _ => False) w12 w13 from ((Fr.refl (fun _ => False) w12).alloc _).then_ F10.out (fun k hk => .inr (by omega)))
              have FG := Lib.hid (FF.out.then_ G10.out (fun _ h => h.elim))
              refine (rmDue (HMS.out.fr FG.out (fun _ _ h => h)) G10'.out HFi.out).mono ?_
              rintro e w14 ⟨⟨id2, rfl, hid⟩, f11⟩
              have HId := Lib.hid hid
              have FH := Lib.hid (FG.out.then_ f11 (fun _ h => h.elim))
              obtain ⟨g14, hg14⟩ : ∃ g, w12.heap.size = g := ⟨_, rfl⟩
              rw [hg14] at HX14
              have HX14 := Lib.hid (f11.blk HX14.out (fun h => h))
              have b1 := f11.cell b1 (fun h => h)
              clear hid f11
              obtain ⟨nK, hnK⟩ : ∃ n, r3.kept.length = n := ⟨_, rfl⟩
              have hkz := own_fr HKr.out FH.out (fun _ _ h => h)
              have m1 := FH.out.cell HMc1.out (fun h => h)
              rw [hnK] at hkz m1
              have HNK2 := Lib.hid hnK
              have HKz := Lib.hid hkz
              clear hkz hnK
              go_upto_region 24 with fail
              have HBzz := Lib.hid (H11.out.frF FH.out)
              rcases HId.out with ⟨hd0, hid⟩ | ⟨jd, kd, hd1, hid, hdj⟩
              · obtain rfl : bd = false := by rw [← HBd.out, hd0]; rfl
                subst hid
                clear hd0
                go_big_quiet (fail)
                go_wp2_with fail
                go_roundw
                case rel => exact ⟨i + 1, by omega, by go_num, M3, r3, es3, (HBzz.out.frF ((Fr.refl (fun _ => False) w14).drewN _)).more (by omega), G10'.out, MK10.out⟩
                case measure => (simp [intOf]; omega)
              · obtain rfl : bd = true := by rw [← HBd.out, hd1]; rfl
                subst hid
                obtain ⟨gk, rfl, hjd, hrd⟩ := row_atf (f := Kp.cells) (sz := 33) (fun _ => rfl) HKz.out HNK2.out hdj
                have hDk : kd.cells.toArray = D := by have := HD.out; rw [hd1] at this; exact this
                rw [hDk] at hrd
                have HRd := Lib.hid hrd
                have hed : ∀ W, (Op.equalIn 10000 63 (.agg D) (.agg D)).run Tryd.prog W = .ok true W := fun W => by rw [← hDk]; exact eqm_Kp kd W
                have hd00 : (0 : Int) ≤ jd := by omega
                have lb := fun n => ld_row (P := Tryd.prog) (W := w14.drewN n) g14 D (n := 33) Ds (show (w14.drewN n).heap[g14]? = _ from HX14.out)
                have lb2 := fun n => ld_range (P := Tryd.prog) (W := w14.drewN n) (g := gk) (o := jd * 33) D (fun jz v hv => HRd.out jz v hv) Ds
                clear hrd hDk hd1 hdj
                go_big_quiet (fail)
                go_wp2_with fail
                go_roundw
                case rel => exact ⟨i + 1, by omega, by go_num, M3, r3, es3, (HBzz.out.frF ((Fr.refl (fun _ => False) w14).drewN _)).more (by omega), G10'.out, MK10.out⟩
                case measure => (simp [intOf]; omega)
            · clear HB9
              obtain ⟨b0, b1⟩ := HBt9.out.cells
              obtain ⟨Q2, hQ2⟩ := HBt9.out.cur
              have HMS := Lib.hid hQ2
              obtain ⟨av, kv, hbM, -, hkr, -⟩ := hQ2
              have hkr : w9.ownsRow 0 63 33 kv r'.kept.length (r'.kept.flatMap Kp.cells) := hkr
              obtain ⟨ak, capk, rfl, -, -⟩ := own_form hkr
              have HMc1 := Lib.hid (show w9.cell? ⟨M', 1, none⟩ = some (.slice ak r'.kept.length capk) from blk_cell hbM 1 rfl)
              have HKr := Lib.hid hkr
              obtain ⟨xd, isd, hfr, hdu⟩ := btDue HBt9.out HG'.out (by omega)
              obtain ⟨D, hD⟩ : ∃ C, ((dueO r' xd isd).getD Kp.zero).cells.toArray = C := ⟨_, rfl⟩
              have Ds : D.size = 33 := by rw [← hD]; rfl
              have HDo2 := Lib.hid (show D.all (·.oneCell') = true from by rw [← hD]; simp [Kp.cells, Tx.cells, Value.oneCell'])
              obtain ⟨bd, hbd⟩ : ∃ z, (dueO r' xd isd).isSome = z := ⟨_, rfl⟩
              rw [hD, hbd] at hdu
              have HDu := Lib.hid hdu
              have HFi := Lib.hid hfr
              have HD := Lib.hid hD
              have HBd := Lib.hid hbd
              have HB1 := Lib.hid b1
              clear hfr hdu hD hbd hbM hkr
              go_wp2_with fail
              refine HDu.out.mono ?_
              rintro e w12 ⟨rfl, f9⟩
              have HBz := Lib.hid (heap_alloc_new w12 (.cells #[.int .u64 0, .int .u64 0, .int .u64 0, .int .u64 0, .int .u64 0, .int .u64 0, .int .u64 0, .int .u64 0, .int .u64 0, .int .u64 0, .int .i64 0, .int .i64 0, .int .i64 0, .int .i64 0, .int .i64 0, .int .i64 0, .int .u64 0, .int .u64 0, .int .u64 0, .int .u64 0, .int .u64 0, .int .u64 0, .int .u64 0, .int .u64 0, .int .u64 0, .int .u64 0, .int .i64 0, .int .i64 0, .int .i64 0, .int .i64 0, .int .i64 0, .int .i64 0, .int .i64 0] 63))
              have FF := Lib.hid f9
              clear f9 b0 b1
              have b1 := ((FF.out.alloc (.cells #[.int .u64 0, .int .u64 0, .int .u64 0, .int .u64 0, .int .u64 0, .int .u64 0, .int .u64 0, .int .u64 0, .int .u64 0, .int .u64 0, .int .i64 0, .int .i64 0, .int .i64 0, .int .i64 0, .int .i64 0, .int .i64 0, .int .u64 0, .int .u64 0, .int .u64 0, .int .u64 0, .int .u64 0, .int .u64 0, .int .u64 0, .int .u64 0, .int .u64 0, .int .u64 0, .int .i64 0, .int .i64 0, .int .i64 0, .int .i64 0, .int .i64 0, .int .i64 0, .int .i64 0] 63))).cell HB1.out (fun h => h)
              have Hb1 := Lib.hid (fun w9 (f : Fr (fun k => k = w12.heap.size) (w12.alloc (.cells #[.int .u64 0, .int .u64 0, .int .u64 0, .int .u64 0, .int .u64 0, .int .u64 0, .int .u64 0, .int .u64 0, .int .u64 0, .int .u64 0, .int .i64 0, .int .i64 0, .int .i64 0, .int .i64 0, .int .i64 0, .int .i64 0, .int .u64 0, .int .u64 0, .int .u64 0, .int .u64 0, .int .u64 0, .int .u64 0, .int .u64 0, .int .u64 0, .int .u64 0, .int .u64 0, .int .i64 0, .int .i64 0, .int .i64 0, .int .i64 0, .int .i64 0, .int .i64 0, .int .i64 0] 63)) w9) => f.cell b1 (fun h => absurd h (Nat.ne_of_lt (cell_lt' (FF.out.cell HB1.out (fun h => h))))))
              clear b1
              go_wp2_with (first | ((refine wpList_store_row rfl 63 (.tmp 13) (.tmp 104) rfl w12.heap.size D rfl rfl HBz.out (by rw [Ds]; rfl) (by rw [Ds]; rfl) HDo2.out ?_); intro w13 hb10 f10; have HX14 := Lib.hid hb10; have F10 := Lib.hid f10; have b1 := Hb1.out w13 f10; clear hb10 f10) | fail)
              have G10 := Lib.hid (show Fr (fun _ => False) w12 w13 from ((Fr.refl (fun _ => False) w12).alloc _).then_ F10.out (fun k hk => .inr (by omega)))
              have FG := Lib.hid (FF.out.then_ G10.out (fun _ h => h.elim))
              refine (rmDue (HMS.out.fr FG.out (fun _ _ h => h)) HG'.out HFi.out).mono ?_
              rintro e w14 ⟨⟨id2, rfl, hid⟩, f11⟩
              have HId := Lib.hid hid
              have FH := Lib.hid (FG.out.then_ f11 (fun _ h => h.elim))
              obtain ⟨g14, hg14⟩ : ∃ g, w12.heap.size = g := ⟨_, rfl⟩
              rw [hg14] at HX14
              have HX14 := Lib.hid (f11.blk HX14.out (fun h => h))
              have b1 := f11.cell b1 (fun h => h)
              clear hid f11
              obtain ⟨nK, hnK⟩ : ∃ n, r'.kept.length = n := ⟨_, rfl⟩
              have hkz := own_fr HKr.out FH.out (fun _ _ h => h)
              have m1 := FH.out.cell HMc1.out (fun h => h)
              rw [hnK] at hkz m1
              have HNK2 := Lib.hid hnK
              have HKz := Lib.hid hkz
              clear hkz hnK
              go_upto_region 24 with fail
              have HBzz := Lib.hid (HBt9.out.frF FH.out)
              rcases HId.out with ⟨hd0, hid⟩ | ⟨jd, kd, hd1, hid, hdj⟩
              · obtain rfl : bd = false := by rw [← HBd.out, hd0]; rfl
                subst hid
                clear hd0
                go_big_quiet (fail)
                go_wp2_with fail
                go_roundw
                case rel => exact ⟨i + 1, by omega, by go_num, M', r', es', (HBzz.out.frF ((Fr.refl (fun _ => False) w14).drewN _)).more (by omega), HG'.out, HMk'.out⟩
                case measure => (simp [intOf]; omega)
              · obtain rfl : bd = true := by rw [← HBd.out, hd1]; rfl
                subst hid
                obtain ⟨gk, rfl, hjd, hrd⟩ := row_atf (f := Kp.cells) (sz := 33) (fun _ => rfl) HKz.out HNK2.out hdj
                have hDk : kd.cells.toArray = D := by have := HD.out; rw [hd1] at this; exact this
                rw [hDk] at hrd
                have HRd := Lib.hid hrd
                have hed : ∀ W, (Op.equalIn 10000 63 (.agg D) (.agg D)).run Tryd.prog W = .ok true W := fun W => by rw [← hDk]; exact eqm_Kp kd W
                have hd00 : (0 : Int) ≤ jd := by omega
                have lb := fun n => ld_row (P := Tryd.prog) (W := w14.drewN n) g14 D (n := 33) Ds (show (w14.drewN n).heap[g14]? = _ from HX14.out)
                have lb2 := fun n => ld_range (P := Tryd.prog) (W := w14.drewN n) (g := gk) (o := jd * 33) D (fun jz v hv => HRd.out jz v hv) Ds
                clear hrd hDk hd1 hdj
                go_big_quiet (fail)
                go_wp2_with fail
                go_roundw
                case rel => exact ⟨i + 1, by omega, by go_num, M', r', es', (HBzz.out.frF ((Fr.refl (fun _ => False) w14).drewN _)).more (by omega), HG'.out, HMk'.out⟩
                case measure => (simp [intOf]; omega)
        · obtain rfl : i = n2 := by omega
          have hiI : ¬ (i : Int) < i := by omega
          have FE := Lib.hid hb'.old0
          clear hb' hg' hmk' HBt' HG' HMk'
          as_aux_lemma =>
            obtain ⟨we, hwe⟩ : ∃ W, W = wr := ⟨_, rfl⟩
            subst hwe
            go_wp2_with fail
            refine (load_bad _).mono ?_
            rintro e wc1 ⟨rfl, f9⟩
            have FY := Lib.hid (FE.out.then_ f9 (fun _ h => h.elim))
            obtain ⟨nA, hnA⟩ : ∃ n, r.accs.length = n := ⟨_, rfl⟩
            obtain ⟨nK, hnK⟩ : ∃ n, r.kept.length = n := ⟨_, rfl⟩
            have hnA1 : nA ≤ 32 := by rw [← hnA]; exact HG.out.na
            have hnK1 : nK ≤ 96 := by rw [← hnK]; exact HG.out.nk
            have HNA := Lib.hid hnA
            have HNK := Lib.hid hnK
            have hac := HAc.out
            rw [hnA] at hac
            have HAc2 := Lib.hid hac
            have hke := HKe.out
            rw [hnK] at hke
            have HKe2 := Lib.hid hke
            obtain ⟨cnA, hcA⟩ : ∃ z : Int, (if nA = 0 then 0 else 1) = z := ⟨_, rfl⟩
            obtain ⟨cnK, hcK⟩ : ∃ z : Int, (if nK = 0 then 0 else 1) = z := ⟨_, rfl⟩
            have hltA : ∀ W g c, W.ownsRow 0 26 14 (.slice g (nA + nA) c) (nA + nA) (r.accs.flatMap Acc.cells ++ r.accs.flatMap Acc.cells) → Calls Tryd.prog 36 #[.slice g (nA + nA) c, .slice none 0 0, .int .i64 0, .int .i64 0] W fun e w' => ∃ p, e = .returned (.tuple #[p, .int .i64 cnA]) ∧ Fr (fun _ => False) W w' := fun W g c o => by rw [← hcA]; exact load_twoA W r.accs nA hnA g c o
            have hltK : ∀ W g c, W.ownsRow 0 63 33 (.slice g (nK + nK) c) (nK + nK) (r.kept.flatMap Kp.cells ++ r.kept.flatMap Kp.cells) → Calls Tryd.prog 36 #[.slice none 0 0, .slice g (nK + nK) c, .int .i64 0, .int .i64 0] W fun e w' => ∃ p, e = .returned (.tuple #[p, .int .i64 cnK]) ∧ Fr (fun _ => False) W w' := fun W g c o => by rw [← hcK]; exact load_twoK W r.kept nK hnK g c o
            have Hload_twoA := Lib.hid hltA
            have Hload_twoK := Lib.hid hltK
            have HcA := Lib.hid hcA
            have HcK := Lib.hid hcK
            clear f9 hnA hnK hac hke hltA hltK hcA hcK
            go_upto_region 28 with fail
            have q := FY.out.cell HB0.out (fun h => h)
            obtain ⟨i1, hi1, h01, h11, h21⟩ := info_parts Tryd.infoAcc
            obtain ⟨wb, hwb⟩ : ∃ W, W = wc1 := ⟨_, rfl⟩
            subst hwb
            go_cut [18, 19] from 137 (fun v1 v2 w' => v2 = .int .i64 cnA ∧ Fr (fun _ => False) wb w')
            case first =>
              have FX0 := Lib.hid ((Fr.refl (fun _ => False) wb).drew)
              have HOnes := Lib.hid (show ∀ u ∈ r.accs.flatMap Acc.cells, u.oneCell' = true from fun u hu => by
                obtain ⟨x, -, hx⟩ := List.mem_flatMap.1 hu
                exact acc_one x u hx)
              go_region_held3 (fun w' => w'.cell? ⟨b, 0, none⟩ = some (Value.pointer (some ⟨d.B, 0, none⟩)))
                (first | exact q | exact q0 | go_keep)
                (first
                  | (go_at_call 19; (with_reducible refine (HAc2.out _ (FY.out.then_ FX0.out (fun _ h => h.elim))).mono ?_); rintro e w2 ⟨ga, ca, rfl, oa, na, f2⟩; have FX1 := Lib.hid (FX0.out.then_ f2 (fun _ h => h.elim)); have OA := Lib.hid oa; have NA := Lib.hid na; have q0 := (FY.out.then_ FX1.out (fun _ h => h.elim)).cell HB0.out (fun h => h); clear f2 oa na)
                  | (go_at_call 19; (with_reducible refine (HAc2.out _ (FY.out.then_ FX1.out (fun _ h => h.elim))).mono ?_); rintro e w3 ⟨gb, cb, rfl, ob, nb, f3⟩; have FX2 := Lib.hid (FX1.out.then_ f3 (fun _ h => h.elim)); have OA2 := Lib.hid (own_fr OA.out f3 (fun _ _ h => h)); have OB := Lib.hid ob; have q0 := (FY.out.then_ FX2.out (fun _ h => h.elim)).cell HB0.out (fun h => h); clear f3 ob nb)
                  | ((refine step_append_src w3 rfl (.tmp 142) (.tmp 147) 42 42 rfl 26 i1 (.agg #[.int .u64 0, .int .u64 0, .int .u64 0, .int .u64 0, .int .u64 0, .int .u64 0, .int .u64 0, .int .u64 0, .int .u64 0, .int .u64 0, .int .i64 0, .int .i64 0, .int .i64 0, .int .i64 0]) 14 112 Tryd.underlying42 hi1 h01 h11 h21 rfl (by decide) (.slice ga nA ca) nA _ (by simp only [Act.eval, Act.put]; rfl) OA2.out _ nA _ (by simp only [Act.eval, Act.put]; rfl) (src_own Tryd.underlying42 OB.out HOnes.out) (by omega) (by omega) ?_); intro g4 c4 w4 o4 f4 t4; have FX3 := Lib.hid (FX2.out.then_ f4 (fun k hk => .inr (by have := NA.out k hk; have := FX0.out.size; omega))); have O4 := Lib.hid o4; have q0 := (FY.out.then_ FX3.out (fun _ h => h.elim)).cell HB0.out (fun h => h); clear o4 f4 t4)
                  | (go_at_call 36; go_must (with_reducible refine (Hload_twoA.out w4 g4 c4 O4.out).mono ?_); rintro e w5 ⟨pp, rfl, f5⟩; have FX4 := Lib.hid (FX3.out.then_ f5 (fun _ h => h.elim)); have q0 := (FY.out.then_ FX4.out (fun _ h => h.elim)).cell HB0.out (fun h => h); clear f5))
              all_goals
                go_wp2_with fail
                go_meet
                exact ⟨rfl, FX4.out⟩
            case rest =>
            obtain ⟨rfl, fa⟩ := hcut
            have FZ := Lib.hid (FY.out.then_ fa (fun _ h => h.elim))
            clear fa q
            obtain ⟨wc2, hwc⟩ : ∃ W, W = wc := ⟨_, rfl⟩
            subst hwc
            go_upto_region 29 with fail
            have q := FZ.out.cell HB0.out (fun h => h)
            obtain ⟨i2, hi2, h02, h12, h22⟩ := info_parts Tryd.infoKep
            obtain ⟨wb, hwb⟩ : ∃ W, W = wc2 := ⟨_, rfl⟩
            subst hwb
            go_cut [20, 21] from 152 (fun v1 v2 w' => v2 = .int .i64 cnK ∧ Fr (fun _ => False) wb w')
            case first =>
              have FX0 := Lib.hid ((Fr.refl (fun _ => False) wb).drew)
              have HOnes := Lib.hid (show ∀ u ∈ r.kept.flatMap Kp.cells, u.oneCell' = true from fun u hu => by
                obtain ⟨x, -, hx⟩ := List.mem_flatMap.1 hu
                exact kp_one x u hx)
              go_region_held3 (fun w' => w'.cell? ⟨b, 0, none⟩ = some (Value.pointer (some ⟨d.B, 0, none⟩)))
                (first | exact q | exact q0 | go_keep)
                (first
                  | (go_at_call 20; (with_reducible refine (HKe2.out _ (FZ.out.then_ FX0.out (fun _ h => h.elim))).mono ?_); rintro e w2 ⟨ga, ca, rfl, oa, na, f2⟩; have FX1 := Lib.hid (FX0.out.then_ f2 (fun _ h => h.elim)); have OA := Lib.hid oa; have NA := Lib.hid na; have q0 := (FZ.out.then_ FX1.out (fun _ h => h.elim)).cell HB0.out (fun h => h); clear f2 oa na)
                  | (go_at_call 20; (with_reducible refine (HKe2.out _ (FZ.out.then_ FX1.out (fun _ h => h.elim))).mono ?_); rintro e w3 ⟨gb, cb, rfl, ob, nb, f3⟩; have FX2 := Lib.hid (FX1.out.then_ f3 (fun _ h => h.elim)); have OA2 := Lib.hid (own_fr OA.out f3 (fun _ _ h => h)); have OB := Lib.hid ob; have q0 := (FZ.out.then_ FX2.out (fun _ h => h.elim)).cell HB0.out (fun h => h); clear f3 ob nb)
                  | ((refine step_append_src w3 rfl (.tmp 157) (.tmp 162) 44 44 rfl 63 i2 (.agg #[.int .u64 0, .int .u64 0, .int .u64 0, .int .u64 0, .int .u64 0, .int .u64 0, .int .u64 0, .int .u64 0, .int .u64 0, .int .u64 0, .int .i64 0, .int .i64 0, .int .i64 0, .int .i64 0, .int .i64 0, .int .i64 0, .int .u64 0, .int .u64 0, .int .u64 0, .int .u64 0, .int .u64 0, .int .u64 0, .int .u64 0, .int .u64 0, .int .u64 0, .int .u64 0, .int .i64 0, .int .i64 0, .int .i64 0, .int .i64 0, .int .i64 0, .int .i64 0, .int .i64 0]) 33 264 Tryd.underlying44 hi2 h02 h12 h22 rfl (by decide) (.slice ga nK ca) nK _ (by simp only [Act.eval, Act.put]; rfl) OA2.out _ nK _ (by simp only [Act.eval, Act.put]; rfl) (src_own Tryd.underlying44 OB.out HOnes.out) (by omega) (by omega) ?_); intro g4 c4 w4 o4 f4 t4; have FX3 := Lib.hid (FX2.out.then_ f4 (fun k hk => .inr (by have := NA.out k hk; have := FX0.out.size; omega))); have O4 := Lib.hid o4; have q0 := (FZ.out.then_ FX3.out (fun _ h => h.elim)).cell HB0.out (fun h => h); clear o4 f4 t4)
                  | (go_at_call 36; go_must (with_reducible refine (Hload_twoK.out w4 g4 c4 O4.out).mono ?_); rintro e w5 ⟨pp, rfl, f5⟩; have FX4 := Lib.hid (FX3.out.then_ f5 (fun _ h => h.elim)); have q0 := (FZ.out.then_ FX4.out (fun _ h => h.elim)).cell HB0.out (fun h => h); clear f5))
              all_goals
                go_wp2_with fail
                go_meet
                exact ⟨rfl, FX4.out⟩
            case rest =>
            obtain ⟨rfl, fa⟩ := hcut
            have FQ := Lib.hid (FZ.out.then_ fa (fun _ h => h.elim))
            clear fa q
            have b1 := FQ.out.cell HB1.out (fun h => h)
            obtain ⟨Q2, av, kv, hbM, har, hkr, -⟩ := (HBt.out.frF FQ.out).cur
            obtain ⟨aa, capa, rfl, -, -⟩ := own_form har
            obtain ⟨ak, capk, rfl, -, -⟩ := own_form hkr
            have m0 : wc.cell? ⟨M, 0, none⟩ = some (.slice aa r.accs.length capa) := blk_cell hbM 0 rfl
            have m1 : wc.cell? ⟨M, 1, none⟩ = some (.slice ak r.kept.length capk) := blk_cell hbM 1 rfl
            rw [HNA.out] at m0
            rw [HNK.out] at m1
            clear hbM har hkr
            have FR := Lib.hid (HF3.out.then_ FQ.out (fun _ h => h.elim))
            by_cases za : nA = 0
            · obtain rfl : cnA = 0 := by rw [← HcA.out, if_pos za]
              subst za
              by_cases zk : nK = 0
              · obtain rfl : cnK = 0 := by rw [← HcK.out, if_pos zk]
                subst zk
                go_wp2_with fail
                go_ret
                exact ⟨by first | rfl | (simp; done) | (simp; omega), FR.out⟩
              · obtain rfl : cnK = 1 := by rw [← HcK.out, if_neg zk]
                have zk1 : (0 : Int) < nK := by omega
                go_wp2_with fail
                go_ret
                exact ⟨by first | rfl | (simp; done) | (simp; omega), FR.out⟩
            · obtain rfl : cnA = 1 := by rw [← HcA.out, if_neg za]
              have za1 : (0 : Int) < nA := by omega
              by_cases zk : nK = 0
              · obtain rfl : cnK = 0 := by rw [← HcK.out, if_pos zk]
                subst zk
                go_wp2_with fail
                go_ret
                exact ⟨by first | rfl | (simp; done) | (simp; omega), FR.out⟩
              · obtain rfl : cnK = 1 := by rw [← HcK.out, if_neg zk]
                have zk1 : (0 : Int) < nK := by omega
                go_wp2_with fail
                go_ret
                exact ⟨by first | rfl | (simp; done) | (simp; omega), FR.out⟩
end Go.Proofs.YtjchjpmgbmeohaaDoor
