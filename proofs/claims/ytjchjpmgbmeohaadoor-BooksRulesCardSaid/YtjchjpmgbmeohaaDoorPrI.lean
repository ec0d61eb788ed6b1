/- Package probe: Put. -/
import Derived.Test.YtjchjpmgbmeohaaDoorPrH
import Derived.BigQuiet
import Derived.Deep.QuietTactic
import Derived.Deep.Cut
set_option linter.unusedSimpArgs false
set_option linter.unusedVariables false
namespace Go.Proofs.YtjchjpmgbmeohaaDoor
open Go.RowKit

theorem pcs_at {cs : List PC} {p : Nat} {c : PC} (hc : cs[p]? = some c) (a : Int) : (pcs cs).set (p * 4 + 2) (.int .i64 a) = pcs (cs.set p ⟨c.key, a, c.kind⟩) := by
  have hp := (List.getElem?_eq_some_iff.1 hc).1
  have hcp : cs[p] = c := by rw [List.getElem?_eq_getElem hp] at hc; exact Option.some.inj hc
  apply List.ext_getElem?
  intro j
  by_cases hj : j < cs.length * 4
  · have hq : j / 4 < cs.length := by omega
    have hr : j % 4 < 4 := Nat.mod_lt _ (by decide)
    have e1 : (pcs (cs.set p ⟨c.key, a, c.kind⟩))[j]? = (PC.cells ((cs.set p ⟨c.key, a, c.kind⟩)[j / 4]'(by simpa using hq)))[j % 4]? := by
      have h := pcs_get (cs.set p ⟨c.key, a, c.kind⟩) (i := j / 4) (by simpa using hq) (j % 4) hr
      rwa [show j / 4 * 4 + j % 4 = j by omega] at h
    have e2 : (pcs cs)[j]? = (PC.cells cs[j / 4])[j % 4]? := by
      have h := pcs_get cs hq (j % 4) hr
      rwa [show j / 4 * 4 + j % 4 = j by omega] at h
    rw [e1, List.getElem_set]
    by_cases h1 : j = p * 4 + 2
    · rw [if_pos (by omega), show j % 4 = 2 by omega, h1, List.getElem?_set_self (by rw [pcs_len]; omega)]
      rfl
    · rw [List.getElem?_set_ne (fun e => h1 e.symm), e2]
      by_cases h2 : p = j / 4
      · rw [if_pos h2]
        have h3 : cs[j / 4] = c := by simp only [← h2]; exact hcp
        rw [h3]
        obtain ⟨r, hr2⟩ : ∃ r, j % 4 = r := ⟨_, rfl⟩
        have hne : r ≠ 2 := by omega
        rw [hr2]
        rw [hr2] at hr
        rcases r with _ | _ | _ | _ | r
        · rfl
        · rfl
        · exact (hne rfl).elim
        · rfl
        · omega
      · rw [if_neg h2]
  · rw [List.getElem?_eq_none (by rw [List.length_set, pcs_len]; omega), List.getElem?_eq_none (by rw [pcs_len, List.length_set]; omega)]
theorem IsP.at_ {w : World} {S : Nat → Prop} {T g cap p : Nat} {cs : List PC} {u l : Int} {c : PC} (hb : w.heap[T]? = some (.cells #[.slice (some ⟨g, 0, none⟩) cs.length cap, .int .i64 u, .int .i64 l] 135 (0, 0))) (h : IsP w S T cs u l) (hc : cs[p]? = some c) (a : Int) :
    IsP (w.setCell ⟨g, p * 4 + 2, none⟩ (.int .i64 a)) S T (cs.set p ⟨c.key, a, c.kind⟩) u l ∧ Fr S w (w.setCell ⟨g, p * 4 + 2, none⟩ (.int .i64 a)) := by
  obtain ⟨v, hb2, ho, hS, hSv, hl⟩ := h
  rw [hb] at hb2
  simp only [Option.some.injEq, Obj.cells.injEq, and_true] at hb2
  have hv : v = .slice (some ⟨g, 0, none⟩) cs.length cap := by
    have h0 := congrArg (fun a : Array Value => a[0]?) hb2
    simpa using h0.symm
  subst hv
  have h := rw_put (j := p * 4 + 2) (u := .int .i64 a) hb ho hS hSv hl
  rw [pcs_at hc] at h
  refine ⟨?_, h.2⟩
  have h1 := h.1
  unfold IsP
  rw [List.length_set]
  exact h1
theorem IsT.gro {w w' : World} {S S2 : Nat → Prop} {T : Nat} {cs : List PC} (h : IsT w S T cs) (hf : Fr S2 w w') (hd : ∀ k, S k → ¬ S2 k) : IsT w' (Gro S w w') T cs := by
  have h2 := h.fr hf hd
  refine ⟨Rw.mono h2.is (fun k hk => .inl hk) (fun k hk => ?_), h.inv, h.room⟩
  rcases hk with hk | hk
  · exact Rw.lt h2.is hk
  · exact hk.2
theorem IsT.mono {w : World} {S S2 : Nat → Prop} {T : Nat} {cs : List PC} (h : IsT w S T cs) (hs : ∀ k, S k → S2 k) (hl : ∀ k, S2 k → k < w.heap.size) : IsT w S2 T cs := ⟨Rw.mono h.is hs hl, h.inv, h.room⟩
def PutPost (S : Nat → Prop) (T : Nat) (cs : List PC) (x : Nm) (a : Int) (w : World) (e : Ending) (w' : World) : Prop :=
  ∃ (b : Bool) (cs' : List PC), e = .returned (.bool b) ∧ (b = true ↔ ¬ IsIn cs x) ∧ IsT w' (Gro S w w') T cs' ∧ (∀ y c, Has cs' y c ↔ (Has cs y c ∧ y ≠ x) ∨ (y = x ∧ c = a)) ∧ cnt 1 cs' = cnt 1 cs + (if b = true then 1 else 0) ∧ Fr S w w'
theorem isin_of_has {cs ds : List PC} (h : ∀ y a, Has ds y a ↔ Has cs y a) (x : Nm) : IsIn ds x ↔ IsIn cs x := by
  have f : ∀ es : List PC, IsIn es x ↔ ∃ a, Has es x a := fun es => ⟨fun ⟨p, c, h1, h2, h3⟩ => ⟨c.at_, p, c, h1, h2, h3, rfl⟩, fun ⟨_, hh⟩ => has_in hh⟩
  rw [f, f]
  exact ⟨fun ⟨a, ha⟩ => ⟨a, (h x a).1 ha⟩, fun ⟨a, ha⟩ => ⟨a, (h x a).2 ha⟩⟩
set_option maxRecDepth 4000 in
set_option maxHeartbeats 6400000 in
theorem put_any (w : World) (S : Nat → Prop) (T : Nat) (cs : List PC) (x : Nm) (a : Int) (h : IsT w S T cs) (hu : cnt 1 cs ≤ 100000) :
    Calls Tryd.prog 57 #[.pointer (some ⟨T, 0, none⟩), .agg #[.int .u64 x.hi, .int .u64 x.lo], .int .i64 a] w (PutPost S T cs x a w) := by
  have HSlt := Lib.hid (fun k (hk : S k) => Rw.lt h.is hk)
  have HTl := Lib.hid (Rw.lt h.is (Rw.at_ h.is))
  have FA := Lib.hid ((Fr.refl (fun _ => False) w).alloc (.cells #[.int .u64 x.hi, .int .u64 x.lo] 24))
  have Bx := Lib.hid (heap_alloc_new w (.cells #[.int .u64 x.hi, .int .u64 x.lo] 24))
  have HTg := Lib.hid (h.gro FA.out (fun _ _ h => h))
  have HG := Lib.hid (fun N => grow_any ((w.alloc (.cells #[.int .u64 x.hi, .int .u64 x.lo] 24)).drewN N) S T cs (h.fr (FA.out.drewN N) (fun _ _ h => h)) hu)
  obtain ⟨hn8, hn30⟩ := h.inv.len
  have HR := Lib.hid h.room
  obtain ⟨v, hb, ho, -, -, -⟩ := h.is
  obtain ⟨g, cap, rfl⟩ := own_some ho (by omega)
  obtain ⟨u, hcu⟩ : ∃ u : Int, (cnt 1 cs : Int) = u := ⟨_, rfl⟩
  obtain ⟨l, hcl⟩ : ∃ l : Int, (cnt 2 cs : Int) = l := ⟨_, rfl⟩
  obtain ⟨n, hcn⟩ : ∃ n, cs.length = n := ⟨_, rfl⟩
  rw [hcu, hcl, hcn] at hb
  have hb1 := FA.out.blk hb (fun h => h)
  have c0 := blk_cell hb1 0 rfl
  have c1 := blk_cell hb1 1 rfl
  have c2 := blk_cell hb1 2 rfl
  have HU := Lib.hid hcu
  have HL := Lib.hid hcl
  have HN := Lib.hid hcn
  have hu0 : 0 ≤ u := by omega
  have hl0 : 0 ≤ l := by omega
  have hul : 4 * (u + l) ≤ 3 * (n : Int) := by have := HR.out; omega
  rw [hcn] at hn8 hn30
  have hn31 : (n : Int) ≤ 1073741824 := by omega
  have HU1 := Lib.hid hu
  clear h hb ho hcu hcl hcn hb1 hu
  have w1 : IntKind.i64.wrap (u + l) = u + l := IntWalk.i64_in _ (by omega)
  have w2 : IntKind.i64.wrap (u + l + 1) = u + l + 1 := IntWalk.i64_in _ (by omega)
  have w3 : IntKind.i64.wrap (4 * (u + l + 1)) = 4 * (u + l + 1) := IntWalk.i64_in _ (by omega)
  have w4 : IntKind.i64.wrap (3 * (n : Int)) = 3 * n := IntWalk.i64_in _ (by omega)
  go_enter Tryd.func57, Tryd.ntmps57
  go_upto_region 3 with fail
  go_quiet (fail)
  go_upto_if 28 with fail
  go_cut [] from 9 (fun w' => ∃ cs2, IsT w' (Gro S w w') T cs2 ∧ (∀ y b, Has cs2 y b ↔ Has cs y b) ∧ cnt 1 cs2 = cnt 1 cs ∧ 4 * (cnt 1 cs2 + cnt 2 cs2 + 1) ≤ 3 * cs2.length ∧ Fr S w w' ∧ w'.heap[w.heap.size]? = some (.cells #[.int .u64 x.hi, .int .u64 x.lo] 24 (0, 0)))
  case first =>
    by_cases hgr : 3 * (n : Int) < 4 * (u + l + 1)
    · go_wp2_with fail
      refine (HG.out _).mono ?_
      rintro e w2 ⟨cs2, rfl, h2, hh, h1, hc2, h3, f2⟩
      have HT2 := Lib.hid h2
      have HH := Lib.hid hh
      have H1 := Lib.hid h1
      have H2 := Lib.hid hc2
      have H3 := Lib.hid h3
      have F2 := Lib.hid f2
      clear h2 hh h1 hc2 h3 f2
      go_wp2_with fail
      go_meet
      have hsz := FA.out.size
      have hF : Fr S w w2 := ((FA.out.mono (fun _ h => h.elim)).drewN _).then_ F2.out (fun _ h => .inl h)
      refine ⟨cs2, HT2.out.mono (fun k hk => ?_) (fun k hk => ?_), HH.out, H1.out, ?_, hF, F2.out.blk Bx.out (fun h => ?_)⟩
      · rcases hk with hk | hk
        · exact .inl hk
        · exact .inr ⟨Nat.le_trans hsz hk.1, hk.2⟩
      · rcases hk with hk | hk
        · exact Nat.lt_of_lt_of_le (HSlt.out k hk) hF.size
        · exact hk.2
      · have := H1.out; have := H2.out; have := H3.out; omega
      · exact absurd (HSlt.out _ h) (Nat.lt_irrefl _)
    · go_wp2_with fail
      go_meet
      refine ⟨cs, HTg.out.fr ((Fr.refl (fun _ => False) _).drewN _) (fun _ _ h => h), fun _ _ => Iff.rfl, rfl, ?_, (FA.out.mono (fun _ h => h.elim)).drewN _, Bx.out⟩
      have := HU.out; have := HL.out; have := HN.out; omega
  case rest =>
    obtain ⟨ds, ht, hh, h1, h3, hf, hbx⟩ := hcut
    have HH := Lib.hid hh
    have H1 := Lib.hid h1
    have H3 := Lib.hid h3
    have HF := Lib.hid hf
    have HBx := Lib.hid hbx
    obtain ⟨S2, hS2⟩ : ∃ S2, Gro S w wc = S2 := ⟨_, rfl⟩
    rw [hS2] at ht
    have HS2 := Lib.hid (show ∀ k, S2 k → S k ∨ w.heap.size ≤ k from fun k hk => by rw [← hS2] at hk; exact hk.elim .inl (fun h => .inr h.1))
    have HS3 := Lib.hid (show ∀ k, S k → S2 k from fun k hk => by rw [← hS2]; exact .inl hk)
    clear hS2
    have HTc := Lib.hid ht
    obtain ⟨m8, m30⟩ := ht.inv.len
    have x0 := blk_cell hbx 0 rfl
    have x1 := blk_cell hbx 1 rfl
    have HFi := Lib.hid (ht.find x)
    clear ht hh h1 h3 hf hbx c0 c1 c2
    go_wp2_with fail
    refine HFi.out.mono ?_
    rintro e w2 ⟨p, b, rfl, hfd, f2⟩
    have HFd := Lib.hid hfd
    have F2 := Lib.hid (HF.out.then_ f2 (fun _ h => h.elim))
    have HT2 := Lib.hid (HTc.out.fr f2 (fun _ _ h => h))
    have HBx2 := Lib.hid (f2.blk HBx.out (fun h => h))
    have hp := hfd.1
    have HP := Lib.hid hp
    have hget : ds[p]? = some ds[p] := List.getElem?_eq_getElem hp
    obtain ⟨u2, hu2⟩ : ∃ u2 : Int, (cnt 1 ds : Int) = u2 := ⟨_, rfl⟩
    obtain ⟨l2, hl2⟩ : ∃ l2 : Int, (cnt 2 ds : Int) = l2 := ⟨_, rfl⟩
    have his : IsP w2 (S2) T ds u2 l2 := by rw [← hu2, ← hl2]; exact HT2.out.is
    have HIs := Lib.hid his
    have HU2 := Lib.hid hu2
    have HL2 := Lib.hid hl2
    have hv1 : 0 ≤ u2 := by omega
    have hv2 : 0 ≤ l2 := by omega
    have hv3 : u2 ≤ 100000 := by have := H1.out; have := HU1.out; omega
    have hv4 : l2 ≤ 1073741824 := by have := H3.out; omega
    obtain ⟨v, hb, ho, -, -, -⟩ := his
    obtain ⟨g2, cap2, rfl⟩ := own_some ho (by omega)
    have HB := Lib.hid hb
    have t0 := blk_cell hb 0 rfl
    have t1 := blk_cell hb 1 rfl
    have t2 := blk_cell hb 2 rfl
    have z1 := blk_free hb 1
    have z2 := blk_free hb 2
    have hpI : (p : Int) < ds.length := by omega
    obtain ⟨c, hce⟩ : ∃ c, ds[p] = c := ⟨_, rfl⟩
    have p2 := own_pc ho rfl hp 2 (by omega) (v := .int .i64 c.at_) (by have h := hce; subst h; rfl)
    have p3 := own_pc ho rfl hp 3 (by omega) (v := .int .u8 c.kind) (by have h := hce; subst h; rfl)
    have zp := ho.frozenAt (p * 4 + 2)
    rw [hce] at hget
    have HGt := Lib.hid hget
    have hkk := HTc.out.inv.kinds c (hce ▸ List.getElem_mem hp)
    have HIn := Lib.hid (isin_of_has HH.out x)
    clear hfd f2 hp hget hce hb ho hu2 hl2
    cases b with
    | true =>
      obtain ⟨key, at0, kind⟩ := c
      have hc3 : kind = 1 ∧ key = x := by
        rcases HFd.out.2 with ⟨_, d, h1, h2, h3⟩ | ⟨h, _⟩
        · rw [HGt.out] at h1
          obtain rfl := Option.some.inj h1
          exact ⟨h2, h3⟩
        · cases h
      obtain ⟨rfl, rfl⟩ := hc3
      clear hkk
      go_wp2_with fail
      go_ret
      have h5 := IsP.at_ HB.out HIs.out HGt.out a
      have k1 := cnt_set 1 (d := ⟨key, a, 1⟩) HGt.out
      have k2 := cnt_set 2 (d := ⟨key, a, 1⟩) HGt.out
      simp only [if_true] at k1
      simp only [show ¬ (1 : Int) = 2 by decide, if_false] at k2
      have k1' : cnt 1 (ds.set p ⟨key, a, 1⟩) = cnt 1 ds := by omega
      have k2' : cnt 2 (ds.set p ⟨key, a, 1⟩) = cnt 2 ds := by omega
      have hF := F2.out.then_ h5.2 HS2.out
      refine ⟨false, ds.set p ⟨key, a, 1⟩, rfl, ⟨fun h => Bool.noConfusion h, fun h => absurd (HIn.out.1 ⟨p, _, HGt.out, rfl, rfl⟩) h⟩, ⟨?_, HTc.out.inv.again HGt.out rfl a, by rw [k1', k2', List.length_set]; exact HTc.out.room⟩, fun y d => ?_, by rw [k1', H1.out]; rfl, hF⟩
      · rw [k1', k2', HU2.out, HL2.out]
        refine Rw.mono h5.1 (fun k hk => ?_) (fun k hk => ?_)
        · rcases HS2.out k hk with hk2 | hk2
          · exact .inl hk2
          · exact .inr ⟨hk2, Rw.lt h5.1 hk⟩
        · rcases hk with hk | hk
          · exact Nat.lt_of_lt_of_le (HSlt.out k hk) hF.size
          · exact hk.2
      · rw [has_again HTc.out.inv HGt.out rfl, HH.out]
    | false =>
      have hnk : c.kind ≠ 1 ∧ ¬ IsIn ds x ∧ Reach ds (home ds.length x) p := by
        rcases HFd.out.2 with ⟨h, _⟩ | ⟨_, h1, h2, h3⟩
        · cases h
        · exact ⟨by rw [knd_at HGt.out] at h1; exact h1, h2, h3⟩
      have HNk := Lib.hid hnk
      have k1 := cnt_set 1 (d := ⟨x, a, 1⟩) HGt.out
      have k2 := cnt_set 2 (d := ⟨x, a, 1⟩) HGt.out
      rw [if_pos rfl, if_neg hnk.1] at k1
      rw [if_neg (show ¬ (1 : Int) = 2 by decide)] at k2
      have K1 := Lib.hid k1
      have K2 := Lib.hid k2
      obtain ⟨kind, hkd⟩ : ∃ kind, c.kind = kind := ⟨_, rfl⟩
      rw [hkd] at p3 hkk
      have HKd := Lib.hid hkd
      have hk02 : kind = 0 ∨ kind = 2 := by have := hnk.1; omega
      clear hnk k1 k2 hkd hkk
      go_upto_if 54 with fail
      go_cut [] from 9 (fun w' => IsP w' (S2) T ds u2 (cnt 2 (ds.set p ⟨x, a, 1⟩) : Nat) ∧ Fr S2 w2 w' ∧ w'.heap[w.heap.size]? = some (.cells #[.int .u64 x.hi, .int .u64 x.lo] 24 (0, 0)))
      case first =>
        rcases hk02 with rfl | rfl
        · go_wp2_with fail
          go_meet
          have e : ((cnt 2 (ds.set p ⟨x, a, 1⟩) : Nat) : Int) = l2 := by have := K2.out; rw [HKd.out] at this; simp at this; have := HL2.out; omega
          rw [e]
          exact ⟨HIs.out, Fr.refl _ _, HBx2.out⟩
        · go_wp2_with fail
          go_meet
          have e : ((cnt 2 (ds.set p ⟨x, a, 1⟩) : Nat) : Int) = l2 - 1 := by have := K2.out; rw [HKd.out] at this; simp at this; have := HL2.out; omega
          rw [e]
          exact ⟨(HIs.out.set2 (l2 - 1)).1, (HIs.out.set2 (l2 - 1)).2, blk_far2 HBx2.out (fun e => absurd HTl.out (by rw [← e]; exact Nat.lt_irrefl _)) _⟩
      case rest =>
        obtain ⟨his3, f3, hbx3⟩ := hcut
        have HF3 := Lib.hid (F2.out.then_ f3 HS2.out)
        obtain ⟨l3, hl3⟩ : ∃ l3 : Int, ((cnt 2 (ds.set p ⟨x, a, 1⟩) : Nat) : Int) = l3 := ⟨_, rfl⟩
        rw [hl3] at his3
        have HL3 := Lib.hid hl3
        have HIs3 := Lib.hid his3
        obtain ⟨v, hb, ho, -, -, -⟩ := his3
        obtain ⟨g3, cap3, rfl⟩ := own_some ho (by omega)
        have HB3 := Lib.hid hb
        have s0 := blk_cell hb 0 rfl
        have y0 := blk_cell hbx3 0 rfl
        have y1 := blk_cell hbx3 1 rfl
        clear f3 hbx3 hl3 hb ho x0 x1 t0 t1 t2 z1 z2 p2 p3 zp
        go_upto_region 11 with fail
        go_still_tail 9, (by kernel_rfl)
        refine wpList_store_pc rfl (.tmp 70) (.tmp 69) rfl ⟨x, a, 1⟩ rfl rfl HB3.out (Rw.drew HIs3.out) HP.out rfl ?_
        intro w4 hb4 h4 f4
        have HIs4 := Lib.hid h4
        have HF4 := Lib.hid (HF3.out.drew.then_ f4 HS2.out)
        have q1 := blk_cell hb4 1 rfl
        have q1z := blk_free hb4 1
        clear h4 f4 hb4
        go_wp2_with fail
        go_ret
        have h5 := HIs4.out.set1 (u2 + 1)
        have hF := HF4.out.then_ h5.2 HS2.out
        have k1 := K1.out
        have k2 := K2.out
        have k1' : cnt 1 (ds.set p ⟨x, a, 1⟩) = cnt 1 ds + 1 := by omega
        have k2' : cnt 2 (ds.set p ⟨x, a, 1⟩) ≤ cnt 2 ds := by split at k2 <;> omega
        refine ⟨true, ds.set p ⟨x, a, 1⟩, rfl, ⟨fun _ h => HNk.out.2.1 (HIn.out.2 h), fun _ => rfl⟩, ⟨?_, HTc.out.inv.put HGt.out HNk.out.1 a HNk.out.2.1 HNk.out.2.2, ?_⟩, fun y d => ?_, by rw [k1', H1.out]; rfl, hF⟩
        · have e1 : ((cnt 1 (ds.set p ⟨x, a, 1⟩) : Nat) : Int) = u2 + 1 := by rw [k1']; have := HU2.out; omega
          rw [e1, HL3.out]
          refine Rw.mono h5.1 (fun k hk => ?_) (fun k hk => ?_)
          · rcases HS2.out k hk with hk2 | hk2
            · exact .inl hk2
            · exact .inr ⟨hk2, Rw.lt h5.1 hk⟩
          · rcases hk with hk | hk
            · exact Nat.lt_of_lt_of_le (HSlt.out k hk) hF.size
            · exact hk.2
        · rw [k1', List.length_set]; have := H3.out; omega
        · rw [has_put HGt.out HNk.out.1 HNk.out.2.1, HH.out]
          refine ⟨fun h => h.elim (fun h => .inl ⟨h, fun e => HNk.out.2.1 (e ▸ has_in ((HH.out y d).2 h))⟩) .inr, fun h => h.elim (fun h => .inl h.1) .inr⟩
end Go.Proofs.YtjchjpmgbmeohaaDoor
