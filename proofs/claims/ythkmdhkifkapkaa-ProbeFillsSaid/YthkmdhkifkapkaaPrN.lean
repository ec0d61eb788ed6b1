/- Law 11: calls; the walk of ProbeApart. -/
import Derived.Test.YthkmdhkifkapkaaPrJ
set_option linter.unusedSimpArgs false
set_option linter.unusedVariables false
namespace Go.Proofs.Ythkmdhkifkapkaa
open Go.RowKit

structure PK where
  kind : Int
  key : Nm
  at_ : Int
def PK.cells (c : PK) : List Value := [.int .i64 c.kind, .int .u64 c.key.hi, .int .u64 c.key.lo, .int .i64 c.at_]
theorem Row.pk {w : World} {a : Option Addr} {l : List PK} (h : Row w a (l.flatMap PK.cells)) {i : Nat} (hi : i < l.length) :
    ∃ b off, a = some ⟨b, off, none⟩ ∧ b < w.heap.size ∧ w.cell? ⟨b, off + i * 4, none⟩ = some (.int .i64 l[i].kind) ∧ w.cell? ⟨b, off + i * 4 + 1, none⟩ = some (.int .u64 l[i].key.hi) ∧ w.cell? ⟨b, off + i * 4 + 2, none⟩ = some (.int .u64 l[i].key.lo) ∧ w.cell? ⟨b, off + i * 4 + 3, none⟩ = some (.int .i64 l[i].at_) := by
  have g : ∀ j u, j < 4 → (PK.cells l[i])[j]? = some u → ∃ b off, a = some ⟨b, off, none⟩ ∧ w.cell? ⟨b, off + i * 4 + j, none⟩ = some u := fun j u hj hu => by
    obtain ⟨b, off, e, hc⟩ := h (i * 4 + j) u ((flat_get (f := PK.cells) (n := 4) (fun _ => rfl) l i hi j hj).trans hu)
    exact ⟨b, off, e, by rw [Nat.add_assoc]; exact hc⟩
  obtain ⟨b, off, e, c0⟩ := g 0 _ (by omega) rfl
  subst e
  have g2 : ∀ j u, j < 4 → (PK.cells l[i])[j]? = some u → w.cell? ⟨b, off + i * 4 + j, none⟩ = some u := fun j u hj hu => by
    obtain ⟨b', off', e, hc⟩ := g j u hj hu
    simp only [Option.some.injEq, Addr.mk.injEq] at e
    obtain ⟨rfl, rfl, _⟩ := e
    exact hc
  exact ⟨b, off, rfl, World.block_lt_of_cell? w _ c0, c0, g2 1 _ (by omega) rfl, g2 2 _ (by omega) rfl, g2 3 _ (by omega) rfl⟩

/-- Where a name is, as the law keeps it. -/
def At (cs : List PC) (key : Nm) (want : Int) (has : Bool) : Prop := (has = true ∧ Has cs key want) ∨ (has = false ∧ want = 0 ∧ ¬ IsIn cs key)
theorem at_put_eq {cs cs' : List PC} {x : Nm} {a : Int} (hh : ∀ y c, Has cs' y c ↔ (Has cs y c ∧ y ≠ x) ∨ (y = x ∧ c = a)) : At cs' x a true := .inl ⟨rfl, (hh x a).2 (.inr ⟨rfl, rfl⟩)⟩
theorem isin_iff (cs : List PC) (x : Nm) : IsIn cs x ↔ ∃ a, Has cs x a := ⟨fun ⟨p, c, h1, h2, h3⟩ => ⟨c.at_, p, c, h1, h2, h3, rfl⟩, fun ⟨_, hh⟩ => has_in hh⟩
theorem at_put_ne {cs cs' : List PC} {x key : Nm} {a want : Int} {has : Bool} (h : At cs key want has) (hh : ∀ y c, Has cs' y c ↔ (Has cs y c ∧ y ≠ x) ∨ (y = x ∧ c = a)) (hn : x ≠ key) : At cs' key want has := by
  rcases h with ⟨h1, h2⟩ | ⟨h1, h2, h3⟩
  · exact .inl ⟨h1, (hh key want).2 (.inl ⟨h2, fun e => hn e.symm⟩)⟩
  · refine .inr ⟨h1, h2, fun h => ?_⟩
    obtain ⟨b, hb⟩ := (isin_iff _ _).1 h
    rcases (hh key b).1 hb with ⟨h4, _⟩ | ⟨h4, _⟩
    · exact h3 (has_in h4)
    · exact hn h4.symm
theorem at_drop_eq {cs cs' : List PC} {x : Nm} (hh : ∀ y c, Has cs' y c ↔ Has cs y c ∧ y ≠ x) : At cs' x 0 false := by
  refine .inr ⟨rfl, rfl, fun h => ?_⟩
  obtain ⟨b, hb⟩ := (isin_iff _ _).1 h
  exact ((hh x b).1 hb).2 rfl
theorem at_drop_ne {cs cs' : List PC} {x key : Nm} {want : Int} {has : Bool} (h : At cs key want has) (hh : ∀ y c, Has cs' y c ↔ Has cs y c ∧ y ≠ x) (hn : x ≠ key) : At cs' key want has := by
  rcases h with ⟨h1, h2⟩ | ⟨h1, h2, h3⟩
  · exact .inl ⟨h1, (hh key want).2 ⟨h2, fun e => hn e.symm⟩⟩
  · refine .inr ⟨h1, h2, fun h => ?_⟩
    obtain ⟨b, hb⟩ := (isin_iff _ _).1 h
    exact h3 (has_in ((hh key b).1 hb).1)
theorem nm_ne {a b : Nm} (h : ((a.hi == b.hi) && (a.lo == b.lo)) = false) : a ≠ b := by
  rintro rfl
  simp at h
theorem nm_eq {a b : Nm} (h1 : (a.hi == b.hi) = true) (h2 : (a.lo == b.lo) = true) : a = b := by
  cases a; cases b
  simp only [beq_iff_eq] at h1 h2
  rw [h1, h2]
theorem at_get {hm : Nat → Nm → Nat} {cs : List PC} {key : Nm} {want a : Int} {has b : Bool} (hi : PInv hm cs) (h : At cs key want has) (hg : (b = true ∧ Has cs key a) ∨ (b = false ∧ a = 0 ∧ ¬ IsIn cs key)) : want = a ∧ has = b := by
  rcases h with ⟨rfl, h2⟩ | ⟨rfl, rfl, h3⟩ <;> rcases hg with ⟨rfl, g⟩ | ⟨rfl, g1, g2⟩
  · exact ⟨has_one hi h2 g, rfl⟩
  · exact (g2 (has_in h2)).elim
  · exact (h3 (has_in g)).elim
  · exact ⟨g1.symm, rfl⟩
set_option maxRecDepth 4000 in
set_option maxHeartbeats 6400000 in
theorem apart_any (w : World) (a : Option Addr) (cap : Nat) (cs : List PK) (key : Nm) (hr : Row w a (cs.flatMap PK.cells)) :
    Calls Try.prog 3 #[.slice a cs.length cap, .agg #[.int .u64 key.hi, .int .u64 key.lo]] w fun r w' => r = .returned (.bool true) ∧ Fr (fun _ => False) w w' := by
  have HR := Lib.hid hr
  have Bx := Lib.hid (heap_alloc_new w (.cells #[.int .u64 key.hi, .int .u64 key.lo] 25))
  have FA := Lib.hid ((Fr.refl (fun _ => False) w).alloc (.cells #[.int .u64 key.hi, .int .u64 key.lo] 25))
  have HZ := Lib.hid (show (w.alloc (.cells #[.int .u64 key.hi, .int .u64 key.lo] 25)).heap.size = w.heap.size + 1 from Array.size_push ..)
  obtain ⟨n, hnn⟩ : ∃ n, cs.length = n := ⟨_, rfl⟩
  rw [hnn]
  have HN := Lib.hid hnn
  clear hr hnn
  go_enter Try.func3, Try.ntmps3
  go_wp2_with fail
  refine (alive11_any _).mono ?_
  rintro e w1 ⟨rfl, f1⟩
  have F1 := Lib.hid (FA.out.then_ f1 (fun _ h => h.elim))
  have Bx1 := Lib.hid (f1.blk Bx.out (fun h => h))
  have HZ1 := Lib.hid (show w.heap.size + 1 ≤ w1.heap.size from by have := f1.size; have := HZ.out; omega)
  clear f1
  by_cases hbig : (400 : Int) < n
  · go_wp2_with fail
    go_ret
    exact ⟨rfl, F1.out⟩
  have hn4 : n ≤ 400 := by omega
  go_wp2_with fail
  refine (new_any _).mono ?_
  rintro e w2 ⟨T, S, rfl, ht, hS, f2⟩
  have HT := Lib.hid ht
  have HS := Lib.hid (show ∀ j, S j → w.heap.size + 1 ≤ j from fun j hj => Nat.le_trans HZ1.out (hS j hj))
  have F2 := Lib.hid (F1.out.then_ f2 (fun _ h => h.elim))
  have Bx2 := Lib.hid (f2.blk Bx1.out (fun h => h))
  clear ht hS f2
  go_wp2_with fail
  go_loopw [20, 6, 7] (fun i wv hv wr => ∃ (k : Nat) (want : Int) (has : Bool) (S : Nat → Prop) (ps : List PC), k ≤ n ∧ i = .int .i64 k ∧ wv = .int .i64 want ∧ hv = .bool has ∧ IsT wr S T ps ∧ cnt 1 ps ≤ k ∧ At ps key want has ∧ (∀ j, S j → w.heap.size + 1 ≤ j) ∧ Fr (fun _ => False) w wr ∧ wr.heap[w.heap.size]? = some (.cells #[.int .u64 key.hi, .int .u64 key.lo] 25 (0, 0))) (fun i _ _ _ => ((n : Int) - intOf i).toNat)
  case atStart => exact ⟨0, 0, false, S, empty8, Nat.zero_le _, rfl, rfl, rfl, HT.out, by rw [empty8_cnt 1 (by decide)]; exact Nat.le_refl _, .inr ⟨rfl, rfl, empty8_in key⟩, HS.out, F2.out, Bx2.out⟩
  case round =>
    obtain ⟨k, want, has, S, ps, hk, rfl, rfl, rfl, ht, hcn, hat, hS, hf, hbx⟩ := hrel
    have HF := Lib.hid hf
    by_cases hlt : k < n
    · have hltI : (k : Int) < n := by omega
      obtain ⟨b, off, rfl, hbk, x0, x1, x2, x3⟩ := (HR.out.fr hf (fun _ _ h => h)).pk (i := k) (by rw [HN.out]; exact hlt)
      obtain ⟨c, hce⟩ : ∃ c, cs[k]'(by rw [HN.out]; exact hlt) = c := ⟨_, rfl⟩
      rw [hce] at x0 x1 x2 x3
      obtain ⟨kd, ⟨chi, clo⟩, cat⟩ := c
      have x0 : wr.cell? ⟨b, off + k * 4, none⟩ = some (.int .i64 kd) := x0
      have x1 : wr.cell? ⟨b, off + k * 4 + 1, none⟩ = some (.int .u64 chi) := x1
      have x2 : wr.cell? ⟨b, off + k * 4 + 2, none⟩ = some (.int .u64 clo) := x2
      have x3 : wr.cell? ⟨b, off + k * 4 + 3, none⟩ = some (.int .i64 cat) := x3
      have w1 : IntKind.i64.wrap ((k : Int) + 1) = k + 1 := IntWalk.i64_in _ (by omega)
      have FAc := Lib.hid ((Fr.refl (fun _ => False) wr).alloc (.cells #[.int .i64 kd, .int .u64 chi, .int .u64 clo, .int .i64 cat] 30))
      have Hbc := Lib.hid (heap_alloc_new wr (.cells #[.int .i64 kd, .int .u64 chi, .int .u64 clo, .int .i64 cat] 30))
      have Hbx := Lib.hid (blk_alloc hbx (.cells #[.int .i64 kd, .int .u64 chi, .int .u64 clo, .int .i64 cat] 30))
      have HTc := Lib.hid (ht.fr FAc.out (fun _ _ h => h))
      have HNs := Lib.hid (show ¬ S wr.heap.size from fun h => by have := Rw.lt ht.is h; omega)
      have HSr := Lib.hid hS
      have HAt := Lib.hid hat
      have HCn := Lib.hid hcn
      have HWr := Lib.hid (show w.heap.size + 1 ≤ wr.heap.size from blk_lt hbx)
      have he := eqm_Num
      have q0 := blk_cell Hbc.out 0 rfl; have q1 := blk_cell Hbc.out 1 rfl; have q2 := blk_cell Hbc.out 2 rfl; have q3 := blk_cell Hbc.out 3 rfl
      have y0 := blk_cell Hbx.out 0 rfl; have y1 := blk_cell Hbx.out 1 rfl
      clear ht hcn hat hS hf hbx hce
      go_upto_region 10 with fail
      cases k0 : (kd == 0)
      rotate_left
      · have ek : kd = 0 := by simpa using k0
        subst ek
        go_wp2_with fail
        refine (put_any _ S T ps ⟨chi, clo⟩ cat HTc.out (by have := HCn.out; omega)).mono ?_
        rintro e w3 ⟨pb, ps2, rfl, -, ht, hh, hc, f3⟩
        have HS3 := Lib.hid (show ∀ j, Gro S (wr.alloc (.cells #[.int .i64 0, .int .u64 chi, .int .u64 clo, .int .i64 cat] 30)) w3 j → w.heap.size + 1 ≤ j from fun j hj => hj.elim (HSr.out j) (fun h => by have := h.1; have := FAc.out.size; have := HWr.out; omega))
        have HC3 := Lib.hid (show cnt 1 ps2 ≤ k + 1 from by have := HCn.out; rw [hc]; split <;> omega)
        have HT3 := Lib.hid ht
        have HH3 := Lib.hid hh
        have F3 := Lib.hid ((HF.out.then_ FAc.out (fun _ h => h.elim)).then_ f3 (fun j hj => .inr (Nat.le_of_lt (HSr.out j hj))))
        have Bc3 := Lib.hid (f3.blk Hbc.out HNs.out)
        have Bx3 := Lib.hid (f3.blk Hbx.out (fun h => Nat.not_succ_le_self _ (HSr.out _ h)))
        have q0 := blk_cell Bc3.out 0 rfl; have q1 := blk_cell Bc3.out 1 rfl; have q2 := blk_cell Bc3.out 2 rfl; have q3 := blk_cell Bc3.out 3 rfl; have y0 := blk_cell Bx3.out 0 rfl; have y1 := blk_cell Bx3.out 1 rfl
        clear ht hh hc f3
        by_cases hq : (⟨chi, clo⟩ : Nm) = key
        · have b1 : (chi == key.hi) = true := by rw [← hq]; exact beq_self_eq_true _
          have b2 : (clo == key.lo) = true := by rw [← hq]; exact beq_self_eq_true _
          have HA := Lib.hid (show At ps2 key cat true from by rw [← hq]; exact at_put_eq HH3.out)
          clear hq
          go_wp2_with fail
          refine (get_any _ _ T ps2 key HT3.out).mono ?_
          rintro e w4 ⟨ga, gb, rfl, hg, f4⟩
          obtain ⟨rfl, rfl⟩ := at_get HT3.out.inv HA.out hg
          have HT4 := Lib.hid (HT3.out.fr f4 (fun _ _ h => h))
          have F4 := Lib.hid ((F3.out).then_ f4 (fun _ h => h.elim))
          have Bx4 := Lib.hid (f4.blk Bx3.out (fun h => h))
          clear hg f4
          go_wp2_with fail
          go_roundw
          case rel => exact ⟨k + 1, _, _, (Gro S (wr.alloc (.cells #[.int .i64 0, .int .u64 chi, .int .u64 clo, .int .i64 cat] 30)) w3), ps2, by omega, by go_num, rfl, rfl, HT4.out, HC3.out, HA.out, HS3.out, F4.out, Bx4.out⟩
          case measure => simp [intOf]; omega
        · have HQ := Lib.hid hq
          have HA := Lib.hid (at_put_ne HAt.out HH3.out hq)
          clear hq
          cases b1 : (chi == key.hi)
          all_goals
            cases b2 : (clo == key.lo)
          all_goals first
            | exact (HQ.out (nm_eq (a := ⟨chi, clo⟩) b1 b2)).elim
            | (go_wp2_with fail
               refine (get_any _ _ T ps2 key HT3.out).mono ?_
               rintro e w4 ⟨ga, gb, rfl, hg, f4⟩
               obtain ⟨rfl, rfl⟩ := at_get HT3.out.inv HA.out hg
               have HT4 := Lib.hid (HT3.out.fr f4 (fun _ _ h => h))
               have F4 := Lib.hid ((F3.out).then_ f4 (fun _ h => h.elim))
               have Bx4 := Lib.hid (f4.blk Bx3.out (fun h => h))
               clear hg f4
               go_wp2_with fail
               go_roundw
               case rel => exact ⟨k + 1, _, _, (Gro S (wr.alloc (.cells #[.int .i64 0, .int .u64 chi, .int .u64 clo, .int .i64 cat] 30)) w3), ps2, by omega, by go_num, rfl, rfl, HT4.out, HC3.out, HA.out, HS3.out, F4.out, Bx4.out⟩
               case measure => simp [intOf]; omega)
      cases k1 : (kd == 1)
      rotate_left
      · have ek : kd = 1 := by simpa using k1
        subst ek
        go_wp2_with fail
        refine (drop_any _ S T ps ⟨chi, clo⟩ HTc.out).mono ?_
        rintro e w3 ⟨pb, ps2, rfl, -, ht, hh, hc, -, f3⟩
        have HS3 := Lib.hid HSr.out
        have HC3 := Lib.hid (show cnt 1 ps2 ≤ k + 1 from by have := HCn.out; omega)
        have HT3 := Lib.hid ht
        have HH3 := Lib.hid hh
        have F3 := Lib.hid ((HF.out.then_ FAc.out (fun _ h => h.elim)).then_ f3 (fun j hj => .inr (Nat.le_of_lt (HSr.out j hj))))
        have Bc3 := Lib.hid (f3.blk Hbc.out HNs.out)
        have Bx3 := Lib.hid (f3.blk Hbx.out (fun h => Nat.not_succ_le_self _ (HSr.out _ h)))
        have q0 := blk_cell Bc3.out 0 rfl; have q1 := blk_cell Bc3.out 1 rfl; have q2 := blk_cell Bc3.out 2 rfl; have q3 := blk_cell Bc3.out 3 rfl; have y0 := blk_cell Bx3.out 0 rfl; have y1 := blk_cell Bx3.out 1 rfl
        clear ht hh hc f3
        by_cases hq : (⟨chi, clo⟩ : Nm) = key
        · have b1 : (chi == key.hi) = true := by rw [← hq]; exact beq_self_eq_true _
          have b2 : (clo == key.lo) = true := by rw [← hq]; exact beq_self_eq_true _
          have HA := Lib.hid (show At ps2 key 0 false from by rw [← hq]; exact at_drop_eq HH3.out)
          clear hq
          go_wp2_with fail
          refine (get_any _ _ T ps2 key HT3.out).mono ?_
          rintro e w4 ⟨ga, gb, rfl, hg, f4⟩
          obtain ⟨rfl, rfl⟩ := at_get HT3.out.inv HA.out hg
          have HT4 := Lib.hid (HT3.out.fr f4 (fun _ _ h => h))
          have F4 := Lib.hid ((F3.out).then_ f4 (fun _ h => h.elim))
          have Bx4 := Lib.hid (f4.blk Bx3.out (fun h => h))
          clear hg f4
          go_wp2_with fail
          go_roundw
          case rel => exact ⟨k + 1, _, _, S, ps2, by omega, by go_num, rfl, rfl, HT4.out, HC3.out, HA.out, HS3.out, F4.out, Bx4.out⟩
          case measure => simp [intOf]; omega
        · have HQ := Lib.hid hq
          have HA := Lib.hid (at_drop_ne HAt.out HH3.out hq)
          clear hq
          cases b1 : (chi == key.hi)
          all_goals
            cases b2 : (clo == key.lo)
          all_goals first
            | exact (HQ.out (nm_eq (a := ⟨chi, clo⟩) b1 b2)).elim
            | (go_wp2_with fail
               refine (get_any _ _ T ps2 key HT3.out).mono ?_
               rintro e w4 ⟨ga, gb, rfl, hg, f4⟩
               obtain ⟨rfl, rfl⟩ := at_get HT3.out.inv HA.out hg
               have HT4 := Lib.hid (HT3.out.fr f4 (fun _ _ h => h))
               have F4 := Lib.hid ((F3.out).then_ f4 (fun _ h => h.elim))
               have Bx4 := Lib.hid (f4.blk Bx3.out (fun h => h))
               clear hg f4
               go_wp2_with fail
               go_roundw
               case rel => exact ⟨k + 1, _, _, S, ps2, by omega, by go_num, rfl, rfl, HT4.out, HC3.out, HA.out, HS3.out, F4.out, Bx4.out⟩
               case measure => simp [intOf]; omega)
      cases b1 : (chi == key.hi)
      all_goals
        cases b2 : (clo == key.lo)
      all_goals
        go_wp2_with fail
        refine (get_any _ _ T ps key HTc.out).mono ?_
        rintro e w4 ⟨ga, gb, rfl, hg, f4⟩
        obtain ⟨rfl, rfl⟩ := at_get HTc.out.inv HAt.out hg
        have HT4 := Lib.hid (HTc.out.fr f4 (fun _ _ h => h))
        have F4 := Lib.hid ((HF.out.then_ FAc.out (fun _ h => h.elim)).then_ f4 (fun _ h => h.elim))
        have Bx4 := Lib.hid (f4.blk Hbx.out (fun h => h))
        clear hg f4
        go_wp2_with fail
        go_roundw
        case rel => exact ⟨k + 1, _, _, S, ps, by omega, by go_num, rfl, rfl, HT4.out, by have := HCn.out; omega, HAt.out, HSr.out, F4.out, Bx4.out⟩
        case measure => simp [intOf]; omega
    · have hltI : ¬ (k : Int) < n := by omega
      clear ht hcn hat hS hf hbx
      go_wp2_with fail
      go_ret
      exact ⟨rfl, HF.out⟩
end Go.Proofs.Ythkmdhkifkapkaa
