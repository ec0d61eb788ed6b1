/- Several texts in one, for the law BooksBack: RfC, RfD, RfE, BkTime, BkUa. Each says what it shows; conditions: what each theorem names. -/
import Derived.Test.YtjchjpmgbmeohaaDoorMk8
import Derived.Test.YtjchjpmgbmeohaaDoorMk6
import Derived.Test.YtjchjpmgbmeohaaDoorMk5
import Derived.Deep.RegionHeld3
import Derived.Deep.QuietTactic
/- The document's state: Turn, End. -/
set_option linter.unusedSimpArgs false
set_option linter.unusedVariables false
namespace Go.Proofs.YtjchjpmgbmeohaaDoor
open Go.RowKit

theorem flat_set1 {α : Type} {f : α → List Value} {n : Nat} (hf : ∀ x, (f x).length = n) (l : List α) {p j : Nat} (hp : p < l.length) (hj : j < n) (d : α) {v : Value} (hd : f d = (f l[p]).set j v) : (l.flatMap f).set (p * n + j) v = (l.set p d).flatMap f := by
  have e1 : l = l.take p ++ l[p] :: l.drop (p + 1) := by rw [← List.drop_eq_getElem_cons hp, List.take_append_drop]
  have e2 : l.flatMap f = (l.take p).flatMap f ++ f l[p] ++ (l.drop (p + 1)).flatMap f := by
    conv => lhs; rw [e1]
    rw [List.flatMap_append, List.flatMap_cons, List.append_assoc]
  have e3 : p * n = ((l.take p).flatMap f).length := by rw [flat_len hf, List.length_take, Nat.min_eq_left (Nat.le_of_lt hp)]
  rw [e2, e3, List.append_assoc, List.set_append_right _ _ (by omega), List.set_append_left _ _ (by rw [hf]; omega), show ((l.take p).flatMap f).length + j - ((l.take p).flatMap f).length = j by omega, ← hd, List.set_eq_take_append_cons_drop, if_pos hp, List.flatMap_append, List.flatMap_cons]
/-- What the document's Turn makes. -/
inductive MTurn (m : RM) (a : Acc) : Int → RM → Prop
  | none (h : ∀ x ∈ m.accs, x.id ≠ a.id) : MTurn m a 5 m
  | done (k : Nat) (old : Acc) (h : m.accs[k]? = some old) (h2 : old.id = a.id) : MTurn m a 0 { m with accs := m.accs.set k { a with stamp := old.stamp } }
attribute [-go_sem] loadCells
set_option maxRecDepth 4000 in
set_option maxHeartbeats 6400000 in
theorem mTurn (w : World) (T : Nat → Prop) (M : Nat) (m : RM) (a : Acc) (h : MS w T M m) (hn : m.accs.length ≤ 100000) :
    Calls Tryd.prog 74 #[.pointer (some ⟨M, 0, none⟩), .agg #[.int .u64 a.id.hi, .int .u64 a.id.lo, .int .u64 a.dp.hi, .int .u64 a.dp.lo, .int .u64 a.dq.hi, .int .u64 a.dq.lo, .int .u64 a.cp.hi, .int .u64 a.cp.lo, .int .u64 a.cq.hi, .int .u64 a.cq.lo, .int .i64 a.ledger, .int .i64 a.code, .int .i64 a.flags, .int .i64 a.stamp]] w (MAns (MTurn m a) w T M) := by
  have HS := Lib.hid (h.fr ((Fr.refl (fun _ => False) w).alloc (.cells #[.int .u64 a.id.hi, .int .u64 a.id.lo, .int .u64 a.dp.hi, .int .u64 a.dp.lo, .int .u64 a.dq.hi, .int .u64 a.dq.lo, .int .u64 a.cp.hi, .int .u64 a.cp.lo, .int .u64 a.cq.hi, .int .u64 a.cq.lo, .int .i64 a.ledger, .int .i64 a.code, .int .i64 a.flags, .int .i64 a.stamp] 26)) (fun _ _ h => h))
  have HB := Lib.hid (heap_alloc_new w (.cells #[.int .u64 a.id.hi, .int .u64 a.id.lo, .int .u64 a.dp.hi, .int .u64 a.dp.lo, .int .u64 a.dq.hi, .int .u64 a.dq.lo, .int .u64 a.cp.hi, .int .u64 a.cp.lo, .int .u64 a.cq.hi, .int .u64 a.cq.lo, .int .i64 a.ledger, .int .i64 a.code, .int .i64 a.flags, .int .i64 a.stamp] 26))
  have F0 := Lib.hid ((Fr.refl (fun _ => False) w).alloc (.cells #[.int .u64 a.id.hi, .int .u64 a.id.lo, .int .u64 a.dp.hi, .int .u64 a.dp.lo, .int .u64 a.dq.hi, .int .u64 a.dq.lo, .int .u64 a.cp.hi, .int .u64 a.cp.lo, .int .u64 a.cq.hi, .int .u64 a.cq.lo, .int .i64 a.ledger, .int .i64 a.code, .int .i64 a.flags, .int .i64 a.stamp] 26))
  have HTl := Lib.hid (show ∀ k, T k → k < w.heap.size from fun k hk => h.lt hk)
  have HH := Lib.hid h
  have HN := Lib.hid hn
  have HAc := Lib.hid (mAcct (w.alloc (.cells #[.int .u64 a.id.hi, .int .u64 a.id.lo, .int .u64 a.dp.hi, .int .u64 a.dp.lo, .int .u64 a.dq.hi, .int .u64 a.dq.lo, .int .u64 a.cp.hi, .int .u64 a.cp.lo, .int .u64 a.cq.hi, .int .u64 a.cq.lo, .int .i64 a.ledger, .int .i64 a.code, .int .i64 a.flags, .int .i64 a.stamp] 26)) T M m a.id HS.out hn)
  have lm := ld_nm (P := Tryd.prog) (W := w.alloc (.cells #[.int .u64 a.id.hi, .int .u64 a.id.lo, .int .u64 a.dp.hi, .int .u64 a.dp.lo, .int .u64 a.dq.hi, .int .u64 a.dq.lo, .int .u64 a.cp.hi, .int .u64 a.cp.lo, .int .u64 a.cq.hi, .int .u64 a.cq.lo, .int .i64 a.ledger, .int .i64 a.code, .int .i64 a.flags, .int .i64 a.stamp] 26)) (blk_cell HB.out 0 rfl) (blk_cell HB.out 1 rfl)
  clear h hn
  go_enter Tryd.func74, Tryd.ntmps74
  go_wp2_with fail
  refine HAc.out.mono ?_
  rintro e w2 ⟨⟨i, rfl, hi⟩, f2⟩
  have F2 := Lib.hid (F0.out.then_ f2 (fun _ h => h.elim))
  have HS2 := Lib.hid (HS.out.fr f2 (fun _ _ h => h))
  have B2 := Lib.hid (f2.blk HB.out (fun h => h))
  rcases hi with ⟨rfl, hno⟩ | ⟨k, old, rfl, hx, hxe⟩
  · have HNo := Lib.hid hno
    clear hno f2
    go_wp2_with fail
    go_ret
    exact ⟨5, m, rfl, .none HNo.out, HH.out.gro F2.out, F2.out.mono (fun _ h => h.elim)⟩
  have hkl := (List.getElem?_eq_some_iff.1 hx).1
  have HX := Lib.hid hx
  have HE := Lib.hid hxe
  have HKl := Lib.hid hkl
  have hkI : ¬ (k : Int) < 0 := by omega
  have hkJ : (0 : Int) ≤ k := by omega
  have hkN : (k : Int) < m.accs.length := by omega
  obtain ⟨av, kv, hb, ha, hk, hM, hA, hK, hd, hl⟩ := HS2.out
  obtain ⟨g, cap, rfl⟩ := own_some ha (by omega)
  have Hb := Lib.hid hb
  have Ha := Lib.hid ha
  have HAll := Lib.hid (And.intro hk (And.intro hM (And.intro hA (And.intro hK (And.intro hd hl)))))
  have Hkl2 := Lib.hid (show k * 14 + 13 < m.accs.length * 14 from by omega)
  have HgT := Lib.hid (hA g rfl)
  clear hx hxe f2 hkl hb ha hk hM hA hK hd hl lm
  go_upto_region 4 with fail
  go_cut [] from 6 (fun w' => w'.heap[w.heap.size]? = some (.cells ({ a with stamp := old.stamp } : Acc).cells.toArray 26 (0, 0)) ∧ Fr (fun k => k = w.heap.size) w2 w')
  case first =>
    have c0 := blk_cell Hb.out 0 rfl
    have g13 : w2.cell? ⟨g, k * 14 + 13, none⟩ = some (.int .i64 old.stamp) := by
      rw [Ha.out.cellAt (k * 14 + 13) Hkl2.out, flat_get (f := Acc.cells) (n := 14) (fun _ => rfl) m.accs k HKl.out 13 (by omega)]
      have h := HX.out
      rw [List.getElem?_eq_getElem HKl.out] at h
      rw [Option.some.inj h]; rfl
    have a13 := blk_cell B2.out 13 rfl
    have z13 := blk_free B2.out 13
    go_wp2_with fail
    go_meet
    exact ⟨blk_set B2.out 13 (.int .i64 old.stamp), (Fr.refl (fun k => k = w.heap.size) w2).set1 _⟩
  case rest =>
  obtain ⟨b3, f3⟩ := hcut
  obtain ⟨w3, hw3⟩ : ∃ W, W = wc := ⟨_, rfl⟩
  subst hw3
  have B3 := Lib.hid b3
  have hTw : ∀ k, T k → ¬ k = w.heap.size := fun k hk e => by have := HTl.out k hk; omega
  have HS3 := Lib.hid (HS2.out.fr f3 hTw)
  have Hb3 := Lib.hid (f3.blk Hb.out (hTw _ HAll.out.2.1))
  have Ha3 := Lib.hid (own_fr Ha.out f3 (fun k hk => hTw k (HAll.out.2.2.1 k hk).1))
  have Hk3 := Lib.hid (own_fr HAll.out.1 f3 (fun k hk => hTw k (HAll.out.2.2.2.1 k hk).1))
  have Hl3 := Lib.hid (show ∀ k, T k → k < w3.heap.size from fun k hk => Nat.lt_of_lt_of_le (HAll.out.2.2.2.2.2 k hk) f3.size)
  have F3 := Lib.hid (F2.out.then_ f3 (fun k hk => .inr (by omega)))
  obtain ⟨a1, ha1⟩ : ∃ x : Acc, { a with stamp := old.stamp } = x := ⟨_, rfl⟩
  rw [ha1] at b3 B3
  have HA1 := Lib.hid ha1
  obtain ⟨C, hC⟩ : ∃ C, a1.cells.toArray = C := ⟨_, rfl⟩
  have hCs : C.size = 14 := by rw [← hC]; rfl
  have HCl := Lib.hid (show C.toList = a1.cells from by rw [← hC])
  have HCo := Lib.hid (show C.all (·.oneCell') = true from by rw [← hC]; simp [Acc.cells, Value.oneCell'])
  rw [hC] at b3
  have HTh := Lib.hid (there_flat (f := Acc.cells) (sz := 14) (fun _ => rfl) Ha3.out rfl HKl.out)
  have HSt := Lib.hid (rq_store (L := mL0 M kv m.clock m.stamp) (S := fun k => k = M ∨ k = g) (f := Acc.cells) (sz := 14) (fun _ => rfl) (blk_drew Hb3.out) Ha3.out.drew (.inl rfl) (fun k hk => by
    obtain rfl : g = k := Option.some.inj hk
    exact ⟨.inr rfl, HgT.out.2⟩) (fun k hk => hk.elim (fun e => e ▸ Hl3.out M HAll.out.2.1) (fun e => e ▸ Hl3.out g HgT.out.1)) HKl.out a1)
  clear f3 ha1 hC hTw
  go_upto_region 5 with fail
  go_cut [] from 6 (fun w' => MS w' (Gro T w3 w') M { m with accs := m.accs.set k a1 } ∧ Fr T w3 w')
  case first =>
    have c0 := blk_cell Hb3.out 0 rfl
    have lx := ld_row (P := Tryd.prog) (W := w3.drew) w.heap.size C (n := 14) hCs (blk_drew b3)
    have hse := st_mid (P := Tryd.prog) w3.drew g (k * 14) C (by rw [hCs, World.there_drew]; exact HTh.out) HCo.out
    go_region
    all_goals
      go_wp2_with fail
      go_meet
      have hst := HSt.out
      rw [← HCl.out] at hst
      have hf := (Fr.refl (fun k => k = M ∨ k = g) w3).drew.then_ hst.2 (fun k hk => .inl hk)
      refine ⟨ms_reacc Hb3.out Hk3.out HAll.out.2.1 HAll.out.2.2.1 HAll.out.2.2.2.1 HAll.out.2.2.2.2.1 Hl3.out (by rw [List.length_set]; exact hst.1.1) ?_ (hf.mono (fun k hk => hk.imp id (fun e => by rw [e]; rfl))), hf.mono (fun k hk => hk.elim (fun e => e ▸ HAll.out.2.1) (fun e => e ▸ HgT.out.1))⟩
      exact fun k hk => .inl (Or.imp id (fun e => by rw [e]; rfl) hk)
  case rest =>
  obtain ⟨s5, f5⟩ := hcut
  have HS5 := Lib.hid s5
  have F5 := Lib.hid f5
  clear s5 f5 b3
  go_wp2_with fail
  go_ret
  have ha1 := HA1.out
  subst ha1
  exact ⟨0, _, rfl, .done k old HX.out HE.out, HS5.out.mono (fun k hk => hk.imp id (fun h => ⟨Nat.le_trans F3.out.size h.1, h.2⟩)) (fun k hk => hk.elim (fun h => Nat.lt_of_lt_of_le (HTl.out k h) (Nat.le_trans F3.out.size F5.out.size)) (fun h => h.2)), (F3.out.mono (fun _ h => h.elim)).then_ F5.out (fun k hk => .inl hk)⟩
/-- What the document's End makes. -/
inductive MEnd (m : RM) (id : Nm) (fate : Int) : Int → RM → Prop
  | none (h : ∀ x ∈ m.kept, x.move.id ≠ id) : MEnd m id fate 5 m
  | gone (k : Nat) (x : Kp) (h : m.kept[k]? = some x) (h2 : x.move.id = id) (h3 : x.fate ≠ 1) : MEnd m id fate 5 m
  | bad (k : Nat) (x : Kp) (h : m.kept[k]? = some x) (h2 : x.move.id = id) (h3 : x.fate = 1) (h4 : fate < 2 ∨ 4 < fate) : MEnd m id fate 1 m
  | done (k : Nat) (x : Kp) (h : m.kept[k]? = some x) (h2 : x.move.id = id) (h3 : x.fate = 1) (h4 : 2 ≤ fate ∧ fate ≤ 4) : MEnd m id fate 0 { m with kept := m.kept.set k { x with fate := fate } }
set_option maxRecDepth 4000 in
set_option maxHeartbeats 6400000 in
theorem mEnd (w : World) (T : Nat → Prop) (M : Nat) (m : RM) (id : Nm) (fate : Int) (h : MS w T M m) (hn : m.kept.length ≤ 100000) :
    Calls Tryd.prog 76 #[.pointer (some ⟨M, 0, none⟩), .agg #[.int .u64 id.hi, .int .u64 id.lo], .int .i64 fate] w (MAns (MEnd m id fate) w T M) := by
  have HS := Lib.hid (h.fr ((Fr.refl (fun _ => False) w).alloc (.cells #[.int .u64 id.hi, .int .u64 id.lo] 24)) (fun _ _ h => h))
  have HB := Lib.hid (heap_alloc_new w (.cells #[.int .u64 id.hi, .int .u64 id.lo] 24))
  have F0 := Lib.hid ((Fr.refl (fun _ => False) w).alloc (.cells #[.int .u64 id.hi, .int .u64 id.lo] 24))
  have HTl := Lib.hid (show ∀ k, T k → k < w.heap.size from fun k hk => h.lt hk)
  have HH := Lib.hid h
  have HAc := Lib.hid (mName (w.alloc (.cells #[.int .u64 id.hi, .int .u64 id.lo] 24)) T M m id HS.out hn)
  have lm := ld_nm (P := Tryd.prog) (W := w.alloc (.cells #[.int .u64 id.hi, .int .u64 id.lo] 24)) (blk_cell HB.out 0 rfl) (blk_cell HB.out 1 rfl)
  clear h
  go_enter Tryd.func76, Tryd.ntmps76
  go_wp2_with fail
  refine HAc.out.mono ?_
  rintro e w2 ⟨⟨i, rfl, hi⟩, f2⟩
  have F2 := Lib.hid (F0.out.then_ f2 (fun _ h => h.elim))
  have HS2 := Lib.hid (HS.out.fr f2 (fun _ _ h => h))
  rcases hi with ⟨rfl, hno⟩ | ⟨k, x, rfl, hx, hxe⟩
  · have HNo := Lib.hid hno
    clear hno f2
    go_wp2_with fail
    all_goals
      go_ret
      exact ⟨5, m, rfl, .none HNo.out, HH.out.gro F2.out, F2.out.mono (fun _ h => h.elim)⟩
  have hkl := (List.getElem?_eq_some_iff.1 hx).1
  have HX := Lib.hid hx
  have HE := Lib.hid hxe
  have HKl := Lib.hid hkl
  have hkI : ¬ (k : Int) < 0 := by omega
  have hkJ : (0 : Int) ≤ k := by omega
  have hkN : (k : Int) < m.kept.length := by omega
  obtain ⟨av, kv, hb, ha, hk, hM, hA, hK, hd, hl⟩ := HS2.out
  obtain ⟨g, cap, rfl⟩ := own_some hk (by omega)
  have c1 := blk_cell hb 1 rfl
  obtain ⟨f, hf⟩ : ∃ f, x.fate = f := ⟨_, rfl⟩
  have HFt := Lib.hid hf
  have g32 : w2.cell? ⟨g, k * 33 + 32, none⟩ = some (.int .i64 f) := by
    rw [hk.cellAt (k * 33 + 32) (by omega), flat_get (f := Kp.cells) (n := 33) (fun _ => rfl) m.kept k hkl 32 (by omega)]
    rw [List.getElem?_eq_getElem hkl] at hx
    rw [Option.some.inj hx, ← hf]; rfl
  have z32 := hk.frozenAt (k * 33 + 32)
  by_cases hf1 : f = 1
  rotate_left
  · have hfn : (f == 1) = false := by simpa using hf1
    have hfm : (f != 1) = true := by simpa using hf1
    have HFn := Lib.hid hf1
    clear hx hxe f2 hkl hb ha hk hM hA hK hd hl lm hf
    go_wp2_with fail
    all_goals
      go_ret
      exact ⟨5, m, rfl, .gone k x HX.out HE.out (by rw [HFt.out]; exact HFn.out), HH.out.gro F2.out, F2.out.mono (fun _ h => h.elim)⟩
  subst hf1
  by_cases hbad : fate < 2 ∨ 4 < fate
  · have HBd := Lib.hid hbad
    clear hx hxe f2 hkl hb ha hk hM hA hK hd hl lm hf
    rcases (show fate < 2 ∨ (¬ fate < 2 ∧ 4 < fate) from by omega) with g1 | ⟨g1, g2⟩
    all_goals
      clear hbad
      go_wp2_with fail
      go_ret
      exact ⟨1, m, rfl, .bad k x HX.out HE.out HFt.out HBd.out, HH.out.gro F2.out, F2.out.mono (fun _ h => h.elim)⟩
  have g1 : ¬ fate < 2 := by omega
  have g2 : ¬ 4 < fate := by omega
  have HG := Lib.hid (show 2 ≤ fate ∧ fate ≤ 4 from by omega)
  have hpt := rq_put (j := k * 33 + 32) (u := .int .i64 fate) (L := mL1 M av m.clock m.stamp) (S := fun k => k = M ∨ k = g) hb hk (.inl rfl) (fun k hk => by
    obtain rfl : g = k := Option.some.inj hk
    exact ⟨.inr rfl, (hK g rfl).2⟩) (fun k hk => hk.elim (fun e => e ▸ hl M hM) (fun e => e ▸ hl g (hK g rfl).1))
  rw [flat_set1 (f := Kp.cells) (n := 33) (fun _ => rfl) m.kept hkl (by omega) { x with fate := fate } (by
    rw [List.getElem?_eq_getElem hkl] at hx
    rw [Option.some.inj hx]; rfl)] at hpt
  have hres := ms_rekept (m := m) (xs := m.kept.set k { x with fate := fate }) hb ha hM hA hK hd hl (by rw [List.length_set]; exact hpt.1) (fun k (hk : k = M ∨ k = g) => .inl (Or.imp (fun h => h) (fun e => by rw [e]; rfl) hk)) (hpt.2.mono (fun k hk => Or.imp (fun h => h) (fun e => by rw [e]; rfl) hk))
  have HR := Lib.hid hres
  have HRf := Lib.hid (show Fr T w2 _ from hpt.2.mono (fun k hk => hk.elim (fun e => e ▸ hM) (fun e => e ▸ (hK g rfl).1)))
  clear hx hxe f2 hkl hb ha hk hM hA hK hd hl lm hf hbad hpt hres
  go_wp2_with fail
  go_ret
  exact ⟨0, _, rfl, .done k x HX.out HE.out HFt.out HG.out, HR.out.mono (fun k hk => hk.imp (fun h => h) (fun h => ⟨Nat.le_trans F2.out.size h.1, h.2⟩)) (fun k hk => hk.elim (fun h => Nat.lt_of_lt_of_le (HTl.out k h) (Nat.le_trans F2.out.size HRf.out.size)) (fun h => h.2)), (F2.out.mono (fun _ h => h.elim)).then_ HRf.out (fun k hk => .inl hk)⟩
end Go.Proofs.YtjchjpmgbmeohaaDoor

/- The document's state: Keep. -/
set_option linter.unusedSimpArgs false
set_option linter.unusedVariables false
namespace Go.Proofs.YtjchjpmgbmeohaaDoor
open Go.RowKit

/-- What the document's Keep makes. -/
inductive MKeep (m : RM) (a mv : Tx) (wt : Bool) : Int → RM → Prop
  | full (h : 96 ≤ m.kept.length) : MKeep m a mv wt 6 m
  | there (h : m.kept.length < 96) (h2 : ∃ x ∈ m.kept, x.move.id = mv.id) : MKeep m a mv wt 1 m
  | done (h : m.kept.length < 96) (h2 : ∀ x ∈ m.kept, x.move.id ≠ mv.id) : MKeep m a mv wt 0 { m with kept := m.kept ++ [kept1 a mv wt (m.stamp + 1) m.clock], stamp := m.stamp + 1 }
attribute [-go_sem] loadCells
set_option maxRecDepth 4000 in
set_option maxHeartbeats 6400000 in
theorem mKeep (w : World) (T : Nat → Prop) (M : Nat) (m : RM) (a mv : Tx) (wt : Bool) (h : MS w T M m) (hn : m.kept.length ≤ 100000) (h0 : 0 ≤ m.stamp) (h1 : m.stamp ≤ 4611686018427387904) :
    Calls Tryd.prog 75 #[.pointer (some ⟨M, 0, none⟩), .agg #[.int .u64 a.id.hi, .int .u64 a.id.lo, .int .u64 a.debit.hi, .int .u64 a.debit.lo, .int .u64 a.credit.hi, .int .u64 a.credit.lo, .int .u64 a.amount.hi, .int .u64 a.amount.lo, .int .u64 a.pending.hi, .int .u64 a.pending.lo, .int .i64 a.timeout, .int .i64 a.ledger, .int .i64 a.code, .int .i64 a.flags, .int .i64 a.stamp, .int .i64 a.born], .agg #[.int .u64 mv.id.hi, .int .u64 mv.id.lo, .int .u64 mv.debit.hi, .int .u64 mv.debit.lo, .int .u64 mv.credit.hi, .int .u64 mv.credit.lo, .int .u64 mv.amount.hi, .int .u64 mv.amount.lo, .int .u64 mv.pending.hi, .int .u64 mv.pending.lo, .int .i64 mv.timeout, .int .i64 mv.ledger, .int .i64 mv.code, .int .i64 mv.flags, .int .i64 mv.stamp, .int .i64 mv.born], .bool wt] w (MAns (MKeep m a mv wt) w T M) := by
  have HS := Lib.hid (h.fr (((Fr.refl (fun _ => False) w).alloc (.cells #[.int .u64 a.id.hi, .int .u64 a.id.lo, .int .u64 a.debit.hi, .int .u64 a.debit.lo, .int .u64 a.credit.hi, .int .u64 a.credit.lo, .int .u64 a.amount.hi, .int .u64 a.amount.lo, .int .u64 a.pending.hi, .int .u64 a.pending.lo, .int .i64 a.timeout, .int .i64 a.ledger, .int .i64 a.code, .int .i64 a.flags, .int .i64 a.stamp, .int .i64 a.born] 40)).alloc (.cells #[.int .u64 mv.id.hi, .int .u64 mv.id.lo, .int .u64 mv.debit.hi, .int .u64 mv.debit.lo, .int .u64 mv.credit.hi, .int .u64 mv.credit.lo, .int .u64 mv.amount.hi, .int .u64 mv.amount.lo, .int .u64 mv.pending.hi, .int .u64 mv.pending.lo, .int .i64 mv.timeout, .int .i64 mv.ledger, .int .i64 mv.code, .int .i64 mv.flags, .int .i64 mv.stamp, .int .i64 mv.born] 40)) (fun _ _ h => h))
  have HBa := Lib.hid (blk_alloc (heap_alloc_new w (.cells #[.int .u64 a.id.hi, .int .u64 a.id.lo, .int .u64 a.debit.hi, .int .u64 a.debit.lo, .int .u64 a.credit.hi, .int .u64 a.credit.lo, .int .u64 a.amount.hi, .int .u64 a.amount.lo, .int .u64 a.pending.hi, .int .u64 a.pending.lo, .int .i64 a.timeout, .int .i64 a.ledger, .int .i64 a.code, .int .i64 a.flags, .int .i64 a.stamp, .int .i64 a.born] 40)) (.cells #[.int .u64 mv.id.hi, .int .u64 mv.id.lo, .int .u64 mv.debit.hi, .int .u64 mv.debit.lo, .int .u64 mv.credit.hi, .int .u64 mv.credit.lo, .int .u64 mv.amount.hi, .int .u64 mv.amount.lo, .int .u64 mv.pending.hi, .int .u64 mv.pending.lo, .int .i64 mv.timeout, .int .i64 mv.ledger, .int .i64 mv.code, .int .i64 mv.flags, .int .i64 mv.stamp, .int .i64 mv.born] 40))
  have HB := Lib.hid (blk1 w (.cells #[.int .u64 a.id.hi, .int .u64 a.id.lo, .int .u64 a.debit.hi, .int .u64 a.debit.lo, .int .u64 a.credit.hi, .int .u64 a.credit.lo, .int .u64 a.amount.hi, .int .u64 a.amount.lo, .int .u64 a.pending.hi, .int .u64 a.pending.lo, .int .i64 a.timeout, .int .i64 a.ledger, .int .i64 a.code, .int .i64 a.flags, .int .i64 a.stamp, .int .i64 a.born] 40) (.cells #[.int .u64 mv.id.hi, .int .u64 mv.id.lo, .int .u64 mv.debit.hi, .int .u64 mv.debit.lo, .int .u64 mv.credit.hi, .int .u64 mv.credit.lo, .int .u64 mv.amount.hi, .int .u64 mv.amount.lo, .int .u64 mv.pending.hi, .int .u64 mv.pending.lo, .int .i64 mv.timeout, .int .i64 mv.ledger, .int .i64 mv.code, .int .i64 mv.flags, .int .i64 mv.stamp, .int .i64 mv.born] 40))
  have F0 := Lib.hid (((Fr.refl (fun _ => False) w).alloc (.cells #[.int .u64 a.id.hi, .int .u64 a.id.lo, .int .u64 a.debit.hi, .int .u64 a.debit.lo, .int .u64 a.credit.hi, .int .u64 a.credit.lo, .int .u64 a.amount.hi, .int .u64 a.amount.lo, .int .u64 a.pending.hi, .int .u64 a.pending.lo, .int .i64 a.timeout, .int .i64 a.ledger, .int .i64 a.code, .int .i64 a.flags, .int .i64 a.stamp, .int .i64 a.born] 40)).alloc (.cells #[.int .u64 mv.id.hi, .int .u64 mv.id.lo, .int .u64 mv.debit.hi, .int .u64 mv.debit.lo, .int .u64 mv.credit.hi, .int .u64 mv.credit.lo, .int .u64 mv.amount.hi, .int .u64 mv.amount.lo, .int .u64 mv.pending.hi, .int .u64 mv.pending.lo, .int .i64 mv.timeout, .int .i64 mv.ledger, .int .i64 mv.code, .int .i64 mv.flags, .int .i64 mv.stamp, .int .i64 mv.born] 40))
  have HTl := Lib.hid (show ∀ k, T k → k < w.heap.size from fun k hk => h.lt hk)
  have HH := Lib.hid h
  obtain ⟨n, hnl⟩ : ∃ n, m.kept.length = n := ⟨_, rfl⟩
  have HN := Lib.hid hnl
  obtain ⟨av, kv, hb, -, hk, -⟩ := HS.out
  obtain ⟨a0, cap, rfl, -, -⟩ := own_form hk
  have c1 := blk_cell hb 1 rfl
  rw [hnl] at c1 hn
  have HAc := Lib.hid (mName ((w.alloc (.cells #[.int .u64 a.id.hi, .int .u64 a.id.lo, .int .u64 a.debit.hi, .int .u64 a.debit.lo, .int .u64 a.credit.hi, .int .u64 a.credit.lo, .int .u64 a.amount.hi, .int .u64 a.amount.lo, .int .u64 a.pending.hi, .int .u64 a.pending.lo, .int .i64 a.timeout, .int .i64 a.ledger, .int .i64 a.code, .int .i64 a.flags, .int .i64 a.stamp, .int .i64 a.born] 40)).alloc (.cells #[.int .u64 mv.id.hi, .int .u64 mv.id.lo, .int .u64 mv.debit.hi, .int .u64 mv.debit.lo, .int .u64 mv.credit.hi, .int .u64 mv.credit.lo, .int .u64 mv.amount.hi, .int .u64 mv.amount.lo, .int .u64 mv.pending.hi, .int .u64 mv.pending.lo, .int .i64 mv.timeout, .int .i64 mv.ledger, .int .i64 mv.code, .int .i64 mv.flags, .int .i64 mv.stamp, .int .i64 mv.born] 40)) T M m mv.id HS.out (by rw [hnl]; exact hn))
  have lm := ld_nm (P := Tryd.prog) (W := ((w.alloc (.cells #[.int .u64 a.id.hi, .int .u64 a.id.lo, .int .u64 a.debit.hi, .int .u64 a.debit.lo, .int .u64 a.credit.hi, .int .u64 a.credit.lo, .int .u64 a.amount.hi, .int .u64 a.amount.lo, .int .u64 a.pending.hi, .int .u64 a.pending.lo, .int .i64 a.timeout, .int .i64 a.ledger, .int .i64 a.code, .int .i64 a.flags, .int .i64 a.stamp, .int .i64 a.born] 40)).alloc (.cells #[.int .u64 mv.id.hi, .int .u64 mv.id.lo, .int .u64 mv.debit.hi, .int .u64 mv.debit.lo, .int .u64 mv.credit.hi, .int .u64 mv.credit.lo, .int .u64 mv.amount.hi, .int .u64 mv.amount.lo, .int .u64 mv.pending.hi, .int .u64 mv.pending.lo, .int .i64 mv.timeout, .int .i64 mv.ledger, .int .i64 mv.code, .int .i64 mv.flags, .int .i64 mv.stamp, .int .i64 mv.born] 40))) (blk_cell HB.out 0 rfl) (blk_cell HB.out 1 rfl)
  clear h hb hk hnl
  by_cases hfull : 96 ≤ n
  · have hfI : (96 : Int) ≤ n := by omega
    go_enter Tryd.func75, Tryd.ntmps75
    go_wp2_with fail
    go_ret
    exact ⟨6, m, rfl, .full (by rw [HN.out]; exact hfull), HH.out.gro F0.out, F0.out.mono (fun _ h => h.elim)⟩
  have hfI : ¬ (96 : Int) ≤ n := by omega
  go_enter Tryd.func75, Tryd.ntmps75
  go_wp2_with fail
  refine HAc.out.mono ?_
  rintro e w2 ⟨⟨i, rfl, hi⟩, f2⟩
  have F2 := Lib.hid (F0.out.then_ f2 (fun _ h => h.elim))
  have HS2 := Lib.hid (HS.out.fr f2 (fun _ _ h => h))
  have B2 := Lib.hid (f2.blk HB.out (fun h => h))
  have Ba2 := Lib.hid (f2.blk HBa.out (fun h => h))
  rcases hi with ⟨rfl, hno⟩ | ⟨k, x, rfl, hx, hxe⟩
  rotate_left
  · have hkI : (0 : Int) ≤ k := by omega
    have HE := Lib.hid (show ∃ x ∈ m.kept, x.move.id = mv.id from ⟨x, List.mem_of_getElem? hx, hxe⟩)
    clear hx hxe f2
    go_wp2_with fail
    go_ret
    exact ⟨1, m, rfl, .there (by rw [HN.out]; omega) HE.out, HH.out.gro F2.out, F2.out.mono (fun _ h => h.elim)⟩
  have HNo := Lib.hid hno
  obtain ⟨s, hs⟩ : ∃ s, m.stamp = s := ⟨_, rfl⟩
  have HSs := Lib.hid hs
  obtain ⟨c, hcl⟩ : ∃ c, m.clock = c := ⟨_, rfl⟩
  have HCl := Lib.hid hcl
  rw [hs] at h0 h1
  have ws : IntKind.i64.wrap (s + 1) = s + 1 := IntWalk.i64_in _ (by omega)
  clear hno f2 lm c1 hs hcl
  go_upto_region 5 with fail
  go_cut [] from 10 (fun w' => MS w' T M { m with stamp := s + 1 } ∧ Fr T w2 w')
  case first =>
    obtain ⟨av2, kv2, -, -, -, c3, -, -, -, z3⟩ := HS2.out.cells
    rw [HSs.out] at c3
    have hr := Lib.hid (HS2.out.restamp (s + 1))
    go_wp2_with fail
    go_meet
    exact hr.out
  case rest =>
  obtain ⟨s3, f3⟩ := hcut
  obtain ⟨w3, hw3⟩ : ∃ W, W = wc := ⟨_, rfl⟩
  subst hw3
  have HS3 := Lib.hid s3
  have B3 := Lib.hid (f3.blk B2.out (fun hk => by have := HTl.out _ hk; omega))
  have Ba3 := Lib.hid (f3.blk Ba2.out (fun hk => by have := HTl.out _ hk; omega))
  have F3 := Lib.hid ((F2.out.mono (fun _ h => h.elim)).then_ f3 (fun k hk => .inl hk) : Fr T w w3)
  clear s3 f3
  go_upto_region 6 with fail
  go_cut [] from 10 (fun w' => w'.heap[w.heap.size + 1]? = some (.cells ({ mv with stamp := s + 1 } : Tx).cells.toArray 40 (0, 0)) ∧ Fr (fun k => k = w.heap.size + 1) w3 w')
  case first =>
    obtain ⟨av2, kv2, -, -, -, c3, -, -, -, -⟩ := HS3.out.cells
    have a14 := blk_cell B3.out 14 rfl
    have z14 := blk_free B3.out 14
    go_wp2_with fail
    go_meet
    exact ⟨blk_set B3.out 14 (.int .i64 (s + 1)), (Fr.refl (fun k => k = w.heap.size + 1) w3).set1 _⟩
  case rest =>
  obtain ⟨b4, f4⟩ := hcut
  obtain ⟨w4, hw4⟩ : ∃ W, W = wc := ⟨_, rfl⟩
  subst hw4
  have HS4 := Lib.hid (HS3.out.fr f4 (fun k hk e => by have := HTl.out k hk; omega))
  have B4 := Lib.hid b4
  have Ba4 := Lib.hid (f4.blk Ba3.out (fun e => by omega))
  have F4 := Lib.hid (F3.out.then_ f4 (fun k hk => .inr (by omega)))
  clear b4 f4
  go_upto_region 7 with fail
  go_cut [] from 10 (fun w' => w'.heap[w.heap.size + 1]? = some (.cells ({ mv with stamp := s + 1, born := c } : Tx).cells.toArray 40 (0, 0)) ∧ Fr (fun k => k = w.heap.size + 1) w4 w')
  case first =>
    obtain ⟨av2, kv2, -, -, cc, -, -, -, -, -⟩ := HS4.out.cells
    have c2 : w4.cell? ⟨M, 2, none⟩ = some (.int .i64 c) := by rw [← HCl.out]; exact cc
    clear cc
    have a15 := blk_cell B4.out 15 rfl
    have z15 := blk_free B4.out 15
    go_wp2_with fail
    go_meet
    exact ⟨blk_set B4.out 15 (.int .i64 c), (Fr.refl (fun k => k = w.heap.size + 1) w4).set1 _⟩
  case rest =>
  obtain ⟨b5, f5⟩ := hcut
  obtain ⟨w5, hw5⟩ : ∃ W, W = wc := ⟨_, rfl⟩
  subst hw5
  have HS5 := Lib.hid (HS4.out.fr f5 (fun k hk e => by have := HTl.out k hk; omega))
  obtain ⟨m2, hm2⟩ : ∃ x : Tx, { mv with stamp := s + 1, born := c } = x := ⟨_, rfl⟩
  have HM2 := Lib.hid hm2
  rw [hm2] at b5
  have B5 := Lib.hid b5
  have Ba5 := Lib.hid (f5.blk Ba4.out (fun e => by omega))
  have F5 := Lib.hid (F4.out.then_ f5 (fun k hk => .inr (by omega)))
  clear b5 f5 hm2
  go_upto_region 8 with fail
  go_cut [9] from 10 (fun v9 w' => v9 = .pointer (some ⟨w5.heap.size, 0, none⟩) ∧ w'.heap[w5.heap.size]? = some (.cells #[.int .u64 a.id.hi, .int .u64 a.id.lo, .int .u64 a.debit.hi, .int .u64 a.debit.lo, .int .u64 a.credit.hi, .int .u64 a.credit.lo, .int .u64 a.amount.hi, .int .u64 a.amount.lo, .int .u64 a.pending.hi, .int .u64 a.pending.lo, .int .i64 a.timeout, .int .i64 a.ledger, .int .i64 a.code, .int .i64 a.flags, .int .i64 a.stamp, .int .i64 a.born, .int .u64 m2.id.hi, .int .u64 m2.id.lo, .int .u64 m2.debit.hi, .int .u64 m2.debit.lo, .int .u64 m2.credit.hi, .int .u64 m2.credit.lo, .int .u64 m2.amount.hi, .int .u64 m2.amount.lo, .int .u64 m2.pending.hi, .int .u64 m2.pending.lo, .int .i64 m2.timeout, .int .i64 m2.ledger, .int .i64 m2.code, .int .i64 m2.flags, .int .i64 m2.stamp, .int .i64 m2.born, .int .i64 0] 63 (0, 0)) ∧ Fr (fun _ => False) w5 w')
  case first =>
    have la := ld_row (P := Tryd.prog) w.heap.size #[.int .u64 a.id.hi, .int .u64 a.id.lo, .int .u64 a.debit.hi, .int .u64 a.debit.lo, .int .u64 a.credit.hi, .int .u64 a.credit.lo, .int .u64 a.amount.hi, .int .u64 a.amount.lo, .int .u64 a.pending.hi, .int .u64 a.pending.lo, .int .i64 a.timeout, .int .i64 a.ledger, .int .i64 a.code, .int .i64 a.flags, .int .i64 a.stamp, .int .i64 a.born] (n := 16) rfl Ba5.out
    have lm := ld_row (P := Tryd.prog) (w.heap.size + 1) #[.int .u64 m2.id.hi, .int .u64 m2.id.lo, .int .u64 m2.debit.hi, .int .u64 m2.debit.lo, .int .u64 m2.credit.hi, .int .u64 m2.credit.lo, .int .u64 m2.amount.hi, .int .u64 m2.amount.lo, .int .u64 m2.pending.hi, .int .u64 m2.pending.lo, .int .i64 m2.timeout, .int .i64 m2.ledger, .int .i64 m2.code, .int .i64 m2.flags, .int .i64 m2.stamp, .int .i64 m2.born] (n := 16) rfl B5.out
    have HNw := Lib.hid (heap_alloc_new w5 (.cells #[.int .u64 0, .int .u64 0, .int .u64 0, .int .u64 0, .int .u64 0, .int .u64 0, .int .u64 0, .int .u64 0, .int .u64 0, .int .u64 0, .int .i64 0, .int .i64 0, .int .i64 0, .int .i64 0, .int .i64 0, .int .i64 0, .int .u64 0, .int .u64 0, .int .u64 0, .int .u64 0, .int .u64 0, .int .u64 0, .int .u64 0, .int .u64 0, .int .u64 0, .int .u64 0, .int .i64 0, .int .i64 0, .int .i64 0, .int .i64 0, .int .i64 0, .int .i64 0, .int .i64 0] 63))
    go_wp2_with (first | ((refine wpList_store_row rfl 63 (.tmp 9) (.tmp 40) rfl w5.heap.size #[.int .u64 a.id.hi, .int .u64 a.id.lo, .int .u64 a.debit.hi, .int .u64 a.debit.lo, .int .u64 a.credit.hi, .int .u64 a.credit.lo, .int .u64 a.amount.hi, .int .u64 a.amount.lo, .int .u64 a.pending.hi, .int .u64 a.pending.lo, .int .i64 a.timeout, .int .i64 a.ledger, .int .i64 a.code, .int .i64 a.flags, .int .i64 a.stamp, .int .i64 a.born, .int .u64 m2.id.hi, .int .u64 m2.id.lo, .int .u64 m2.debit.hi, .int .u64 m2.debit.lo, .int .u64 m2.credit.hi, .int .u64 m2.credit.lo, .int .u64 m2.amount.hi, .int .u64 m2.amount.lo, .int .u64 m2.pending.hi, .int .u64 m2.pending.lo, .int .i64 m2.timeout, .int .i64 m2.ledger, .int .i64 m2.code, .int .i64 m2.flags, .int .i64 m2.stamp, .int .i64 m2.born, .int .i64 0] rfl rfl HNw.out rfl rfl (by simp [Value.oneCell']) ?_); intro w9 hb9 f9; have HB9 := Lib.hid hb9; have F9 := Lib.hid f9; clear hb9 f9) | fail)
    go_meet
    exact ⟨rfl, HB9.out, ((Fr.refl _ _).alloc _).then_ F9.out (fun k hk => .inr (by omega))⟩
  case rest =>
  obtain ⟨rfl, bk6, f6⟩ := hcut
  obtain ⟨w6, hw6⟩ : ∃ W, W = wc := ⟨_, rfl⟩
  subst hw6
  have HS6 := Lib.hid (HS5.out.fr f6 (fun _ _ h => h))
  have Bk6 := Lib.hid bk6
  have F6 := Lib.hid (F5.out.then_ f6 (fun _ h => h.elim))
  have HZ5 := Lib.hid (show w.heap.size < w5.heap.size from by have := blk_lt Ba5.out; exact this)
  obtain ⟨F, hF⟩ : ∃ F : Int, (if wt then 1 else 0) = F := ⟨_, rfl⟩
  have HFt := Lib.hid hF
  clear bk6 f6 hF
  go_upto_if 41 with fail
  go_cut [] from 10 (fun w' => w'.heap[w5.heap.size]? = some (.cells #[.int .u64 a.id.hi, .int .u64 a.id.lo, .int .u64 a.debit.hi, .int .u64 a.debit.lo, .int .u64 a.credit.hi, .int .u64 a.credit.lo, .int .u64 a.amount.hi, .int .u64 a.amount.lo, .int .u64 a.pending.hi, .int .u64 a.pending.lo, .int .i64 a.timeout, .int .i64 a.ledger, .int .i64 a.code, .int .i64 a.flags, .int .i64 a.stamp, .int .i64 a.born, .int .u64 m2.id.hi, .int .u64 m2.id.lo, .int .u64 m2.debit.hi, .int .u64 m2.debit.lo, .int .u64 m2.credit.hi, .int .u64 m2.credit.lo, .int .u64 m2.amount.hi, .int .u64 m2.amount.lo, .int .u64 m2.pending.hi, .int .u64 m2.pending.lo, .int .i64 m2.timeout, .int .i64 m2.ledger, .int .i64 m2.code, .int .i64 m2.flags, .int .i64 m2.stamp, .int .i64 m2.born, .int .i64 F] 63 (0, 0)) ∧ Fr (fun k => k = w5.heap.size) w6 w')
  case first =>
    have z32 := blk_free Bk6.out 32
    have k32 := blk_cell Bk6.out 32 rfl
    cases wt
    · go_wp2_with fail
      go_meet
      exact ⟨by rw [← HFt.out]; exact Bk6.out, Fr.refl _ _⟩
    · go_wp2_with fail
      go_meet
      exact ⟨by rw [← HFt.out]; exact blk_set Bk6.out 32 (.int .i64 1), (Fr.refl (fun k => k = w5.heap.size) w6).set1 _⟩
  case rest =>
  obtain ⟨bk7, f7⟩ := hcut
  obtain ⟨w7, hw7⟩ : ∃ W, W = wc := ⟨_, rfl⟩
  subst hw7
  have HTl5 := Lib.hid (show ∀ k, T k → k < w5.heap.size from fun k hk => HS5.out.lt hk)
  have HS7 := Lib.hid (HS6.out.fr f7 (fun k hk e => by have := HTl5.out k hk; omega))
  have F7 := Lib.hid (F6.out.then_ f7 (fun k hk => .inr (by have := HZ5.out; omega)))
  obtain ⟨kp, hkp⟩ : ∃ x : Kp, kept1 a mv wt (s + 1) c = x := ⟨_, rfl⟩
  have HKp := Lib.hid hkp
  have Bk7 := Lib.hid (show w7.heap[w5.heap.size]? = some (.cells kp.cells.toArray 63 (0, 0)) from by rw [← hkp]; unfold kept1; rw [HM2.out, HFt.out]; exact bk7)
  clear bk7 f7 hkp
  go_upto_region 11 with fail
  obtain ⟨i0, hi0, hz0, hz1, hz2⟩ := info_parts Tryd.infoKep
  obtain ⟨av, kv, hb, ha, hk, hM, hA, hK, hd, hl⟩ := HS7.out
  obtain ⟨a0, cap, rfl, -, -⟩ := own_form hk
  have Hb := Lib.hid hb
  have Hk := Lib.hid hk
  have HAll := Lib.hid (And.intro ha (And.intro hM (And.intro hA (And.intro hK (And.intro hd hl)))))
  have Hne := Lib.hid (show ¬ (Value.slice a0 m.kept.length cap).ownBlock = some M from fun he => (hK M he).2 rfl)
  obtain ⟨C, hC⟩ : ∃ C, kp.cells.toArray = C := ⟨_, rfl⟩
  have hCs : C.size = 33 := by rw [← hC]; rfl
  have HCo := Lib.hid (show ∀ u ∈ C.toList, u.oneCell' = true from by rw [← hC]; simp [Kp.cells, Tx.cells, Value.oneCell'])
  have HFo := Lib.hid (fold_set #[.int .u64 0, .int .u64 0, .int .u64 0, .int .u64 0, .int .u64 0, .int .u64 0, .int .u64 0, .int .u64 0, .int .u64 0, .int .u64 0, .int .i64 0, .int .i64 0, .int .i64 0, .int .i64 0, .int .i64 0, .int .i64 0, .int .u64 0, .int .u64 0, .int .u64 0, .int .u64 0, .int .u64 0, .int .u64 0, .int .u64 0, .int .u64 0, .int .u64 0, .int .u64 0, .int .i64 0, .int .i64 0, .int .i64 0, .int .i64 0, .int .i64 0, .int .i64 0, .int .i64 0] C 33 rfl hCs)
  have HN2 := Lib.hid (show (m.kept ++ [kp]).flatMap Kp.cells = m.kept.flatMap Kp.cells ++ C.toList from by rw [List.flatMap_append, ← hC]; simp)
  have HBx := Lib.hid (show w7.heap[w5.heap.size]? = some (.cells C 63 (0, 0)) from by rw [← hC]; exact Bk7.out)
  clear hb ha hk hM hA hK hd hl hC
  go_cut [] from 10 (fun w' => MS w' (Gro T w7 w') M { m with stamp := s + 1, kept := m.kept ++ [kp] } ∧ Fr T w7 w')
  case first =>
    have c1 := blk_cell Hb.out 1 rfl
    have hfo : Array.foldl (fun cs (x : Value × Nat) => cs.setIfInBounds x.snd x.fst) #[.int .u64 0, .int .u64 0, .int .u64 0, .int .u64 0, .int .u64 0, .int .u64 0, .int .u64 0, .int .u64 0, .int .u64 0, .int .u64 0, .int .i64 0, .int .i64 0, .int .i64 0, .int .i64 0, .int .i64 0, .int .i64 0, .int .u64 0, .int .u64 0, .int .u64 0, .int .u64 0, .int .u64 0, .int .u64 0, .int .u64 0, .int .u64 0, .int .u64 0, .int .u64 0, .int .i64 0, .int .i64 0, .int .i64 0, .int .i64 0, .int .i64 0, .int .i64 0, .int .i64 0] C.zipIdx 0 33 = C := HFo.out
    have lx := ld_row (P := Tryd.prog) (W := w7.drew) w5.heap.size C (n := 33) hCs (blk_drew HBx.out)
    have c1x := blk_cell (blk_alloc Hb.out (.cells C 63)) 1 rfl
    go_region_law (first | (refine step_append_fresh _ w7.drew rfl (.tmp 47) (.tmp 49) 44 rfl 63 i0 (.agg #[.int .u64 0, .int .u64 0, .int .u64 0, .int .u64 0, .int .u64 0, .int .u64 0, .int .u64 0, .int .u64 0, .int .u64 0, .int .u64 0, .int .i64 0, .int .i64 0, .int .i64 0, .int .i64 0, .int .i64 0, .int .i64 0, .int .u64 0, .int .u64 0, .int .u64 0, .int .u64 0, .int .u64 0, .int .u64 0, .int .u64 0, .int .u64 0, .int .u64 0, .int .u64 0, .int .i64 0, .int .i64 0, .int .i64 0, .int .i64 0, .int .i64 0, .int .i64 0, .int .i64 0]) 33 264 Tryd.underlying44 hi0 hz0 hz1 hz2 rfl (by decide) (.slice a0 m.kept.length cap) m.kept.length _ (by simp only [Act.eval, Act.put]; rfl) Hk.out.drew C rfl (by simp [Act.eval, Act.put]) hCs HCo.out (by rw [HN.out]; omega) (by rw [HN.out]; omega) ?_; intro g2 cap2 w8 hown2 hf2 hat2; have hb' := hf2.blk (blk_alloc (w := w7.drew) Hb.out _) Hne.out; have c1' := blk_cell hb' 1 rfl; have f1' := blk_free hb' 1))
    all_goals
      have HR := Lib.hid (rq_push (L := mL1 M av m.clock (s + 1)) (S := fun k => k = M ∨ (Value.slice a0 m.kept.length cap).ownBlock = some k) Hb.out (.inl rfl) (fun k hk => ⟨.inr hk, (HAll.out.2.2.2.1 k hk).2⟩) (fun k hk => hk.elim (fun e => HAll.out.2.2.2.2.2 k (e ▸ HAll.out.2.1)) (fun h => HAll.out.2.2.2.2.2 k (HAll.out.2.2.2.1 k h).1)) ((Fr.refl _ w7).drew.alloc (.cells C 63)) hown2 hf2 hat2)
      clear hown2 hf2 hat2
      go_wp2_with fail
      go_meet
      have hr := HR.out
      rw [← HN2.out] at hr
      refine ⟨ms_rekept (m := { m with stamp := s + 1 }) Hb.out HAll.out.1 HAll.out.2.1 HAll.out.2.2.1 HAll.out.2.2.2.1 HAll.out.2.2.2.2.1 HAll.out.2.2.2.2.2 (by rw [List.length_append, List.length_singleton]; exact hr.1) ?_ hr.2, hr.2.mono (fun k hk => hk.elim (fun e => e ▸ HAll.out.2.1) (fun h => (HAll.out.2.2.2.1 k h).1))⟩
      exact fun k hk => Or.imp id (fun h => h.1) hk
  case rest =>
  obtain ⟨s8, f8⟩ := hcut
  have HS8 := Lib.hid s8
  have F8 := Lib.hid f8
  clear s8 f8
  go_wp2_with fail
  go_ret
  have hs := HSs.out
  have hcl := HCl.out
  have hkp := HKp.out
  subst hs
  subst hcl
  subst hkp
  exact ⟨0, _, rfl, .done (by rw [HN.out]; omega) HNo.out, HS8.out.mono (fun k hk => hk.imp id (fun h => ⟨Nat.le_trans F7.out.size h.1, h.2⟩)) (fun k hk => hk.elim (fun h => Nat.lt_of_lt_of_le (HTl.out k h) (Nat.le_trans F7.out.size F8.out.size)) (fun h => h.2)), F7.out.then_ F8.out (fun k hk => .inl hk)⟩
end Go.Proofs.YtjchjpmgbmeohaaDoor

/- The document's state: Copy. -/
set_option linter.unusedSimpArgs false
set_option linter.unusedVariables false
namespace Go.Proofs.YtjchjpmgbmeohaaDoor
open Go.RowKit

/-- Two rows that are new, one appended behind the other's. -/
theorem two_new {w W1 W2 W3 W4 : World} {TA TB : TypeId} {sa sb na nb : Nat} {va vb : Value} {xa xb : List Value} {ea eb : Nat} (f0 : Fr (fun _ => False) w W1) (hA : W2.ownsRow 0 TA sa va na xa) (fA : Fr (fun k => k = ea) W1 W2) (tA : ∀ k, va.ownBlock = some k → k = ea ∨ W1.heap.size ≤ k) (a1 : w.heap.size ≤ ea) (a2 : ea < W1.heap.size)
    (f1 : Fr (fun _ => False) W2 W3) (hB : W4.ownsRow 0 TB sb vb nb xb) (fB : Fr (fun k => k = eb) W3 W4) (tB : ∀ k, vb.ownBlock = some k → k = eb ∨ W3.heap.size ≤ k) (b1 : w.heap.size ≤ eb) (b2 : eb < W3.heap.size) (hne : ea ≠ eb) (he : eb < W1.heap.size ∨ W2.heap.size ≤ eb) :
    W4.ownsRow 0 TA sa va na xa ∧ W4.ownsRow 0 TB sb vb nb xb ∧ (∀ k, va.ownBlock = some k → w.heap.size ≤ k ∧ k < W4.heap.size) ∧ (∀ k, vb.ownBlock = some k → w.heap.size ≤ k ∧ k < W4.heap.size) ∧ (∀ k, va.ownBlock = some k → ¬ vb.ownBlock = some k) ∧ Fr (fun _ => False) w W4 := by
  have s0 := f0.size
  have sA := fA.size
  have s1 := f1.size
  have sB := fB.size
  have hlA : ∀ k, va.ownBlock = some k → k < W2.heap.size := fun k hk => own_lt hA hk
  have hlB : ∀ k, vb.ownBlock = some k → k < W4.heap.size := fun k hk => own_lt hB hk
  have hneA : ∀ k, va.ownBlock = some k → k ≠ eb := fun k hk e => by
    have h1 := hlA k hk
    rcases tA k hk with h | h <;> omega
  refine ⟨own_fr (own_fr hA f1 (fun _ _ h => h)) fB (fun k hk => hneA k hk), hB, fun k hk => ?_, fun k hk => ?_, fun k hk hk2 => ?_, ((f0.then_ fA (fun k hk => .inr (by omega))).then_ f1 (fun _ h => h.elim)).then_ fB (fun k hk => .inr (by omega))⟩
  · have h1 := hlA k hk
    rcases tA k hk with h | h <;> omega
  · have h1 := hlB k hk
    rcases tB k hk with h | h <;> omega
  · have h1 := hlA k hk
    have h2 := hneA k hk
    rcases tB k hk2 with h | h <;> omega
theorem own_blank (W : World) (g : Nat) {T : TypeId} {sz : Nat} (h : W.heap[g]? = some (.cells #[] T (0, 0))) : W.ownsRow 0 T sz (.slice (some ⟨g, 0, none⟩) 0 0) 0 [] := by
  exact ⟨by simp, .inr ⟨g, 0, #[], rfl, Nat.zero_le _, h, Nat.zero_le _, Nat.zero_le _, by simp, by simp⟩⟩
theorem app_nw {w W W' : World} {v : Value} {e : Nat} (f0 : Fr (fun _ => False) w W) (f : Fr (fun k => (Value.slice (some ⟨e, 0, none⟩) 0 0).ownBlock = some k) W W') (t : ∀ k, v.ownBlock = some k → (Value.slice (some ⟨e, 0, none⟩) 0 0).ownBlock = some k ∨ W.heap.size ≤ k) (he : w.heap.size ≤ e) : Fr (fun _ => False) w W' ∧ Fr (fun k => k = e) W W' ∧ ∀ k, v.ownBlock = some k → k = e ∨ W.heap.size ≤ k :=
  ⟨f0.then_ f (fun k hk => .inr (by have h : some e = some k := hk; have := Option.some.inj h; omega)), f.mono (fun k hk => by have h : some e = some k := hk; exact (Option.some.inj h).symm), fun k hk => (t k hk).imp (fun h => by have h : some e = some k := h; exact (Option.some.inj h).symm) id⟩
set_option maxRecDepth 4000 in
set_option maxHeartbeats 12800000 in
theorem mCopy (w : World) (T : Nat → Prop) (M : Nat) (m : RM) (h : MS w T M m) (hn : m.accs.length ≤ 100000) (hn2 : m.kept.length ≤ 100000) :
    Calls Tryd.prog 26 #[.pointer (some ⟨M, 0, none⟩)] w fun e w' => ∃ M2, e = .returned (.pointer (some ⟨M2, 0, none⟩)) ∧ MS w' (fun k => w.heap.size ≤ k ∧ k < w'.heap.size) M2 m ∧ Fr (fun _ => False) w w' := by
  obtain ⟨iA, hiA, h0A, h1A, h2A⟩ := info_parts Tryd.infoAcc
  obtain ⟨iB, hiB, h0B, h1B, h2B⟩ := info_parts Tryd.infoKep
  obtain ⟨av, kv, hb, ha, hk, -, -, -, -, -⟩ := h
  obtain ⟨a0, capa, rfl, -, -⟩ := own_form ha
  obtain ⟨b0, capb, rfl, -, -⟩ := own_form hk
  have HB := Lib.hid hb
  have HSA := Lib.hid (fun W (f : Fr (fun _ => False) w W) => src_own (P := Tryd.prog) (tx := 42) Tryd.underlying42 (own_fr ha f (fun _ _ h => h)) (fun u hu => by obtain ⟨x, -, hx⟩ := List.mem_flatMap.1 hu; exact acc_one x u hx))
  have HSB := Lib.hid (fun W (f : Fr (fun _ => False) w W) => src_own (P := Tryd.prog) (tx := 44) Tryd.underlying44 (own_fr hk f (fun _ _ h => h)) (fun u hu => by obtain ⟨x, -, hx⟩ := List.mem_flatMap.1 hu; exact kp_one x u hx))
  have k0 := blk_cell hb 0 rfl
  have k1 := blk_cell hb 1 rfl
  have k2 := blk_cell hb 2 rfl
  have k3 := blk_cell hb 3 rfl
  obtain ⟨na, hna⟩ : ∃ n, m.accs.length = n := ⟨_, rfl⟩
  obtain ⟨nb, hnb⟩ : ∃ n, m.kept.length = n := ⟨_, rfl⟩
  have HNa := Lib.hid hna
  have HNb := Lib.hid hnb
  rw [hna] at HSA k0 hn
  rw [hnb] at HSB k1 hn2
  clear hb ha hk hna hnb
  go_enter Tryd.func26, Tryd.ntmps26
  go_upto_region 1 with fail
  go_region_held3 (fun w' => w'.cell? ⟨M, 0, none⟩ = some (Value.slice a0 na capa) ∧ w'.cell? ⟨M, 1, none⟩ = some (Value.slice b0 nb capb) ∧ w'.cell? ⟨M, 2, none⟩ = some (Value.int .i64 m.clock) ∧ w'.cell? ⟨M, 3, none⟩ = some (Value.int .i64 m.stamp))
    (first | exact ⟨k0, k1, k2, k3⟩ | exact ⟨q0, q1, q2, q3⟩ | go_keep)
    (first
      | ((refine step_append_src (w.drew.alloc (.cells #[] 26)) rfl (.tmp 3) (.tmp 7) 42 42 rfl 26 iA (.agg #[.int .u64 0, .int .u64 0, .int .u64 0, .int .u64 0, .int .u64 0, .int .u64 0, .int .u64 0, .int .u64 0, .int .u64 0, .int .u64 0, .int .i64 0, .int .i64 0, .int .i64 0, .int .i64 0]) 14 112 Tryd.underlying42 hiA h0A h1A h2A rfl (by decide) (.slice (some ⟨w.heap.size, 0, none⟩) 0 0) 0 [] (by simp only [Act.eval, Act.put]; rfl) (own_blank _ _ (heap_alloc_new w.drew (.cells #[] 26))) (.slice a0 na capa) na _ (by simp only [Act.eval, Act.put]; rfl) (HSA.out _ ((Fr.refl (fun _ => False) w).drew.alloc _)) (by omega) (by omega) ?_); intro gA cA wA oA fA tA; rw [Nat.zero_add] at oA tA; rw [Nat.zero_add]; have VA := Lib.hid (app_nw ((Fr.refl (fun _ => False) w).drew.alloc _) fA tA (by first | omega | exact Nat.le_refl _ | exact Nat.le_succ _ | exact GB.out.size)); have GA := Lib.hid VA.out.1; have q0 := GA.out.cell (p := ⟨M, 0, none⟩) k0 (fun h => h); have q1 := GA.out.cell (p := ⟨M, 1, none⟩) k1 (fun h => h); have q2 := GA.out.cell (p := ⟨M, 2, none⟩) k2 (fun h => h); have q3 := GA.out.cell (p := ⟨M, 3, none⟩) k3 (fun h => h))
      | ((refine step_append_src ((w.drew.alloc (.cells #[] 26)).alloc (.cells #[] 63)) rfl (.tmp 3) (.tmp 7) 42 42 rfl 26 iA (.agg #[.int .u64 0, .int .u64 0, .int .u64 0, .int .u64 0, .int .u64 0, .int .u64 0, .int .u64 0, .int .u64 0, .int .u64 0, .int .u64 0, .int .i64 0, .int .i64 0, .int .i64 0, .int .i64 0]) 14 112 Tryd.underlying42 hiA h0A h1A h2A rfl (by decide) (.slice (some ⟨w.heap.size, 0, none⟩) 0 0) 0 [] (by simp only [Act.eval, Act.put]; rfl) (own_blank _ _ (blk_alloc (heap_alloc_new w.drew (.cells #[] 26)) (.cells #[] 63))) (.slice a0 na capa) na _ (by simp only [Act.eval, Act.put]; rfl) (HSA.out _ (((Fr.refl (fun _ => False) w).drew.alloc _).alloc _)) (by omega) (by omega) ?_); intro gA cA wA oA fA tA; rw [Nat.zero_add] at oA tA; rw [Nat.zero_add]; have VA := Lib.hid (app_nw (((Fr.refl (fun _ => False) w).drew.alloc _).alloc _) fA tA (by first | omega | exact Nat.le_refl _ | exact Nat.le_succ _ | exact GB.out.size)); have GA := Lib.hid VA.out.1; have q0 := GA.out.cell (p := ⟨M, 0, none⟩) k0 (fun h => h); have q1 := GA.out.cell (p := ⟨M, 1, none⟩) k1 (fun h => h); have q2 := GA.out.cell (p := ⟨M, 2, none⟩) k2 (fun h => h); have q3 := GA.out.cell (p := ⟨M, 3, none⟩) k3 (fun h => h))
      | ((refine step_append_src wB rfl (.tmp 3) (.tmp 7) 42 42 rfl 26 iA (.agg #[.int .u64 0, .int .u64 0, .int .u64 0, .int .u64 0, .int .u64 0, .int .u64 0, .int .u64 0, .int .u64 0, .int .u64 0, .int .u64 0, .int .i64 0, .int .i64 0, .int .i64 0, .int .i64 0]) 14 112 Tryd.underlying42 hiA h0A h1A h2A rfl (by decide) (.slice (some ⟨w.heap.size, 0, none⟩) 0 0) 0 [] (by simp only [Act.eval, Act.put]; rfl) (own_blank _ _ (fB.blk (blk_alloc (heap_alloc_new w.drew (.cells #[] 26)) (.cells #[] 63)) (fun e => by simp [Value.ownBlock] at e))) (.slice a0 na capa) na _ (by simp only [Act.eval, Act.put]; rfl) (HSA.out _ GB.out) (by omega) (by omega) ?_); intro gA cA wA oA fA tA; rw [Nat.zero_add] at oA tA; rw [Nat.zero_add]; have VA := Lib.hid (app_nw GB.out fA tA (by first | omega | exact Nat.le_refl _ | exact Nat.le_succ _ | exact GB.out.size)); have GA := Lib.hid VA.out.1; have q0 := GA.out.cell (p := ⟨M, 0, none⟩) k0 (fun h => h); have q1 := GA.out.cell (p := ⟨M, 1, none⟩) k1 (fun h => h); have q2 := GA.out.cell (p := ⟨M, 2, none⟩) k2 (fun h => h); have q3 := GA.out.cell (p := ⟨M, 3, none⟩) k3 (fun h => h))
      | ((refine step_append_src (wB.alloc (.cells #[] 26)) rfl (.tmp 3) (.tmp 7) 42 42 rfl 26 iA (.agg #[.int .u64 0, .int .u64 0, .int .u64 0, .int .u64 0, .int .u64 0, .int .u64 0, .int .u64 0, .int .u64 0, .int .u64 0, .int .u64 0, .int .i64 0, .int .i64 0, .int .i64 0, .int .i64 0]) 14 112 Tryd.underlying42 hiA h0A h1A h2A rfl (by decide) (.slice (some ⟨wB.heap.size, 0, none⟩) 0 0) 0 [] (by simp only [Act.eval, Act.put]; rfl) (own_blank _ _ (heap_alloc_new wB (.cells #[] 26))) (.slice a0 na capa) na _ (by simp only [Act.eval, Act.put]; rfl) (HSA.out _ (GB.out.alloc _)) (by omega) (by omega) ?_); intro gA cA wA oA fA tA; rw [Nat.zero_add] at oA tA; rw [Nat.zero_add]; have VA := Lib.hid (app_nw (GB.out.alloc _) fA tA (by first | omega | exact Nat.le_refl _ | exact Nat.le_succ _ | exact GB.out.size)); have GA := Lib.hid VA.out.1; have q0 := GA.out.cell (p := ⟨M, 0, none⟩) k0 (fun h => h); have q1 := GA.out.cell (p := ⟨M, 1, none⟩) k1 (fun h => h); have q2 := GA.out.cell (p := ⟨M, 2, none⟩) k2 (fun h => h); have q3 := GA.out.cell (p := ⟨M, 3, none⟩) k3 (fun h => h))
      | ((refine step_append_src ((w.drew.alloc (.cells #[] 63)).alloc (.cells #[] 26)) rfl (.tmp 3) (.tmp 7) 42 42 rfl 26 iA (.agg #[.int .u64 0, .int .u64 0, .int .u64 0, .int .u64 0, .int .u64 0, .int .u64 0, .int .u64 0, .int .u64 0, .int .u64 0, .int .u64 0, .int .i64 0, .int .i64 0, .int .i64 0, .int .i64 0]) 14 112 Tryd.underlying42 hiA h0A h1A h2A rfl (by decide) (.slice (some ⟨(w.heap.size + 1), 0, none⟩) 0 0) 0 [] (by simp only [Act.eval, Act.put]; rfl) (own_blank _ _ (blk1 w.drew (.cells #[] 63) (.cells #[] 26))) (.slice a0 na capa) na _ (by simp only [Act.eval, Act.put]; rfl) (HSA.out _ (((Fr.refl (fun _ => False) w).drew.alloc _).alloc _)) (by omega) (by omega) ?_); intro gA cA wA oA fA tA; rw [Nat.zero_add] at oA tA; rw [Nat.zero_add]; have VA := Lib.hid (app_nw (((Fr.refl (fun _ => False) w).drew.alloc _).alloc _) fA tA (by first | omega | exact Nat.le_refl _ | exact Nat.le_succ _ | exact GB.out.size)); have GA := Lib.hid VA.out.1; have q0 := GA.out.cell (p := ⟨M, 0, none⟩) k0 (fun h => h); have q1 := GA.out.cell (p := ⟨M, 1, none⟩) k1 (fun h => h); have q2 := GA.out.cell (p := ⟨M, 2, none⟩) k2 (fun h => h); have q3 := GA.out.cell (p := ⟨M, 3, none⟩) k3 (fun h => h))
      | ((refine step_append_src wB rfl (.tmp 3) (.tmp 7) 42 42 rfl 26 iA (.agg #[.int .u64 0, .int .u64 0, .int .u64 0, .int .u64 0, .int .u64 0, .int .u64 0, .int .u64 0, .int .u64 0, .int .u64 0, .int .u64 0, .int .i64 0, .int .i64 0, .int .i64 0, .int .i64 0]) 14 112 Tryd.underlying42 hiA h0A h1A h2A rfl (by decide) (.slice (some ⟨(w.heap.size + 1), 0, none⟩) 0 0) 0 [] (by simp only [Act.eval, Act.put]; rfl) (own_blank _ _ (fB.blk (blk1 w.drew (.cells #[] 63) (.cells #[] 26)) (fun e => by simp [Value.ownBlock] at e))) (.slice a0 na capa) na _ (by simp only [Act.eval, Act.put]; rfl) (HSA.out _ GB.out) (by omega) (by omega) ?_); intro gA cA wA oA fA tA; rw [Nat.zero_add] at oA tA; rw [Nat.zero_add]; have VA := Lib.hid (app_nw GB.out fA tA (by first | omega | exact Nat.le_refl _ | exact Nat.le_succ _ | exact GB.out.size)); have GA := Lib.hid VA.out.1; have q0 := GA.out.cell (p := ⟨M, 0, none⟩) k0 (fun h => h); have q1 := GA.out.cell (p := ⟨M, 1, none⟩) k1 (fun h => h); have q2 := GA.out.cell (p := ⟨M, 2, none⟩) k2 (fun h => h); have q3 := GA.out.cell (p := ⟨M, 3, none⟩) k3 (fun h => h))
      | ((refine step_append_src (w.drew.alloc (.cells #[] 63)) rfl (.tmp 9) (.tmp 13) 44 44 rfl 63 iB (.agg #[.int .u64 0, .int .u64 0, .int .u64 0, .int .u64 0, .int .u64 0, .int .u64 0, .int .u64 0, .int .u64 0, .int .u64 0, .int .u64 0, .int .i64 0, .int .i64 0, .int .i64 0, .int .i64 0, .int .i64 0, .int .i64 0, .int .u64 0, .int .u64 0, .int .u64 0, .int .u64 0, .int .u64 0, .int .u64 0, .int .u64 0, .int .u64 0, .int .u64 0, .int .u64 0, .int .i64 0, .int .i64 0, .int .i64 0, .int .i64 0, .int .i64 0, .int .i64 0, .int .i64 0]) 33 264 Tryd.underlying44 hiB h0B h1B h2B rfl (by decide) (.slice (some ⟨w.heap.size, 0, none⟩) 0 0) 0 [] (by simp only [Act.eval, Act.put]; rfl) (own_blank _ _ (heap_alloc_new w.drew (.cells #[] 63))) (.slice b0 nb capb) nb _ (by simp only [Act.eval, Act.put]; rfl) (HSB.out _ ((Fr.refl (fun _ => False) w).drew.alloc _)) (by omega) (by omega) ?_); intro gB cB wB oB fB tB; rw [Nat.zero_add] at oB tB; rw [Nat.zero_add]; have VB := Lib.hid (app_nw ((Fr.refl (fun _ => False) w).drew.alloc _) fB tB (by first | omega | exact Nat.le_refl _ | exact Nat.le_succ _ | exact GA.out.size)); have GB := Lib.hid VB.out.1; have q0 := GB.out.cell (p := ⟨M, 0, none⟩) k0 (fun h => h); have q1 := GB.out.cell (p := ⟨M, 1, none⟩) k1 (fun h => h); have q2 := GB.out.cell (p := ⟨M, 2, none⟩) k2 (fun h => h); have q3 := GB.out.cell (p := ⟨M, 3, none⟩) k3 (fun h => h))
      | ((refine step_append_src ((w.drew.alloc (.cells #[] 63)).alloc (.cells #[] 26)) rfl (.tmp 9) (.tmp 13) 44 44 rfl 63 iB (.agg #[.int .u64 0, .int .u64 0, .int .u64 0, .int .u64 0, .int .u64 0, .int .u64 0, .int .u64 0, .int .u64 0, .int .u64 0, .int .u64 0, .int .i64 0, .int .i64 0, .int .i64 0, .int .i64 0, .int .i64 0, .int .i64 0, .int .u64 0, .int .u64 0, .int .u64 0, .int .u64 0, .int .u64 0, .int .u64 0, .int .u64 0, .int .u64 0, .int .u64 0, .int .u64 0, .int .i64 0, .int .i64 0, .int .i64 0, .int .i64 0, .int .i64 0, .int .i64 0, .int .i64 0]) 33 264 Tryd.underlying44 hiB h0B h1B h2B rfl (by decide) (.slice (some ⟨w.heap.size, 0, none⟩) 0 0) 0 [] (by simp only [Act.eval, Act.put]; rfl) (own_blank _ _ (blk_alloc (heap_alloc_new w.drew (.cells #[] 63)) (.cells #[] 26))) (.slice b0 nb capb) nb _ (by simp only [Act.eval, Act.put]; rfl) (HSB.out _ (((Fr.refl (fun _ => False) w).drew.alloc _).alloc _)) (by omega) (by omega) ?_); intro gB cB wB oB fB tB; rw [Nat.zero_add] at oB tB; rw [Nat.zero_add]; have VB := Lib.hid (app_nw (((Fr.refl (fun _ => False) w).drew.alloc _).alloc _) fB tB (by first | omega | exact Nat.le_refl _ | exact Nat.le_succ _ | exact GA.out.size)); have GB := Lib.hid VB.out.1; have q0 := GB.out.cell (p := ⟨M, 0, none⟩) k0 (fun h => h); have q1 := GB.out.cell (p := ⟨M, 1, none⟩) k1 (fun h => h); have q2 := GB.out.cell (p := ⟨M, 2, none⟩) k2 (fun h => h); have q3 := GB.out.cell (p := ⟨M, 3, none⟩) k3 (fun h => h))
      | ((refine step_append_src wA rfl (.tmp 9) (.tmp 13) 44 44 rfl 63 iB (.agg #[.int .u64 0, .int .u64 0, .int .u64 0, .int .u64 0, .int .u64 0, .int .u64 0, .int .u64 0, .int .u64 0, .int .u64 0, .int .u64 0, .int .i64 0, .int .i64 0, .int .i64 0, .int .i64 0, .int .i64 0, .int .i64 0, .int .u64 0, .int .u64 0, .int .u64 0, .int .u64 0, .int .u64 0, .int .u64 0, .int .u64 0, .int .u64 0, .int .u64 0, .int .u64 0, .int .i64 0, .int .i64 0, .int .i64 0, .int .i64 0, .int .i64 0, .int .i64 0, .int .i64 0]) 33 264 Tryd.underlying44 hiB h0B h1B h2B rfl (by decide) (.slice (some ⟨w.heap.size, 0, none⟩) 0 0) 0 [] (by simp only [Act.eval, Act.put]; rfl) (own_blank _ _ (fA.blk (blk_alloc (heap_alloc_new w.drew (.cells #[] 63)) (.cells #[] 26)) (fun e => by simp [Value.ownBlock] at e))) (.slice b0 nb capb) nb _ (by simp only [Act.eval, Act.put]; rfl) (HSB.out _ GA.out) (by omega) (by omega) ?_); intro gB cB wB oB fB tB; rw [Nat.zero_add] at oB tB; rw [Nat.zero_add]; have VB := Lib.hid (app_nw GA.out fB tB (by first | omega | exact Nat.le_refl _ | exact Nat.le_succ _ | exact GA.out.size)); have GB := Lib.hid VB.out.1; have q0 := GB.out.cell (p := ⟨M, 0, none⟩) k0 (fun h => h); have q1 := GB.out.cell (p := ⟨M, 1, none⟩) k1 (fun h => h); have q2 := GB.out.cell (p := ⟨M, 2, none⟩) k2 (fun h => h); have q3 := GB.out.cell (p := ⟨M, 3, none⟩) k3 (fun h => h))
      | ((refine step_append_src (wA.alloc (.cells #[] 63)) rfl (.tmp 9) (.tmp 13) 44 44 rfl 63 iB (.agg #[.int .u64 0, .int .u64 0, .int .u64 0, .int .u64 0, .int .u64 0, .int .u64 0, .int .u64 0, .int .u64 0, .int .u64 0, .int .u64 0, .int .i64 0, .int .i64 0, .int .i64 0, .int .i64 0, .int .i64 0, .int .i64 0, .int .u64 0, .int .u64 0, .int .u64 0, .int .u64 0, .int .u64 0, .int .u64 0, .int .u64 0, .int .u64 0, .int .u64 0, .int .u64 0, .int .i64 0, .int .i64 0, .int .i64 0, .int .i64 0, .int .i64 0, .int .i64 0, .int .i64 0]) 33 264 Tryd.underlying44 hiB h0B h1B h2B rfl (by decide) (.slice (some ⟨wA.heap.size, 0, none⟩) 0 0) 0 [] (by simp only [Act.eval, Act.put]; rfl) (own_blank _ _ (heap_alloc_new wA (.cells #[] 63))) (.slice b0 nb capb) nb _ (by simp only [Act.eval, Act.put]; rfl) (HSB.out _ (GA.out.alloc _)) (by omega) (by omega) ?_); intro gB cB wB oB fB tB; rw [Nat.zero_add] at oB tB; rw [Nat.zero_add]; have VB := Lib.hid (app_nw (GA.out.alloc _) fB tB (by first | omega | exact Nat.le_refl _ | exact Nat.le_succ _ | exact GA.out.size)); have GB := Lib.hid VB.out.1; have q0 := GB.out.cell (p := ⟨M, 0, none⟩) k0 (fun h => h); have q1 := GB.out.cell (p := ⟨M, 1, none⟩) k1 (fun h => h); have q2 := GB.out.cell (p := ⟨M, 2, none⟩) k2 (fun h => h); have q3 := GB.out.cell (p := ⟨M, 3, none⟩) k3 (fun h => h))
      | ((refine step_append_src ((w.drew.alloc (.cells #[] 26)).alloc (.cells #[] 63)) rfl (.tmp 9) (.tmp 13) 44 44 rfl 63 iB (.agg #[.int .u64 0, .int .u64 0, .int .u64 0, .int .u64 0, .int .u64 0, .int .u64 0, .int .u64 0, .int .u64 0, .int .u64 0, .int .u64 0, .int .i64 0, .int .i64 0, .int .i64 0, .int .i64 0, .int .i64 0, .int .i64 0, .int .u64 0, .int .u64 0, .int .u64 0, .int .u64 0, .int .u64 0, .int .u64 0, .int .u64 0, .int .u64 0, .int .u64 0, .int .u64 0, .int .i64 0, .int .i64 0, .int .i64 0, .int .i64 0, .int .i64 0, .int .i64 0, .int .i64 0]) 33 264 Tryd.underlying44 hiB h0B h1B h2B rfl (by decide) (.slice (some ⟨(w.heap.size + 1), 0, none⟩) 0 0) 0 [] (by simp only [Act.eval, Act.put]; rfl) (own_blank _ _ (blk1 w.drew (.cells #[] 26) (.cells #[] 63))) (.slice b0 nb capb) nb _ (by simp only [Act.eval, Act.put]; rfl) (HSB.out _ (((Fr.refl (fun _ => False) w).drew.alloc _).alloc _)) (by omega) (by omega) ?_); intro gB cB wB oB fB tB; rw [Nat.zero_add] at oB tB; rw [Nat.zero_add]; have VB := Lib.hid (app_nw (((Fr.refl (fun _ => False) w).drew.alloc _).alloc _) fB tB (by first | omega | exact Nat.le_refl _ | exact Nat.le_succ _ | exact GA.out.size)); have GB := Lib.hid VB.out.1; have q0 := GB.out.cell (p := ⟨M, 0, none⟩) k0 (fun h => h); have q1 := GB.out.cell (p := ⟨M, 1, none⟩) k1 (fun h => h); have q2 := GB.out.cell (p := ⟨M, 2, none⟩) k2 (fun h => h); have q3 := GB.out.cell (p := ⟨M, 3, none⟩) k3 (fun h => h))
      | ((refine step_append_src wA rfl (.tmp 9) (.tmp 13) 44 44 rfl 63 iB (.agg #[.int .u64 0, .int .u64 0, .int .u64 0, .int .u64 0, .int .u64 0, .int .u64 0, .int .u64 0, .int .u64 0, .int .u64 0, .int .u64 0, .int .i64 0, .int .i64 0, .int .i64 0, .int .i64 0, .int .i64 0, .int .i64 0, .int .u64 0, .int .u64 0, .int .u64 0, .int .u64 0, .int .u64 0, .int .u64 0, .int .u64 0, .int .u64 0, .int .u64 0, .int .u64 0, .int .i64 0, .int .i64 0, .int .i64 0, .int .i64 0, .int .i64 0, .int .i64 0, .int .i64 0]) 33 264 Tryd.underlying44 hiB h0B h1B h2B rfl (by decide) (.slice (some ⟨(w.heap.size + 1), 0, none⟩) 0 0) 0 [] (by simp only [Act.eval, Act.put]; rfl) (own_blank _ _ (fA.blk (blk1 w.drew (.cells #[] 26) (.cells #[] 63)) (fun e => by simp [Value.ownBlock] at e))) (.slice b0 nb capb) nb _ (by simp only [Act.eval, Act.put]; rfl) (HSB.out _ GA.out) (by omega) (by omega) ?_); intro gB cB wB oB fB tB; rw [Nat.zero_add] at oB tB; rw [Nat.zero_add]; have VB := Lib.hid (app_nw GA.out fB tB (by first | omega | exact Nat.le_refl _ | exact Nat.le_succ _ | exact GA.out.size)); have GB := Lib.hid VB.out.1; have q0 := GB.out.cell (p := ⟨M, 0, none⟩) k0 (fun h => h); have q1 := GB.out.cell (p := ⟨M, 1, none⟩) k1 (fun h => h); have q2 := GB.out.cell (p := ⟨M, 2, none⟩) k2 (fun h => h); have q3 := GB.out.cell (p := ⟨M, 3, none⟩) k3 (fun h => h)))
  all_goals
    go_wp2_with fail
    go_ret
    have z1 : (w.drew.alloc (.cells #[] 26)).heap.size = w.heap.size + 1 := by simp
    have z2 : ((w.drew.alloc (.cells #[] 26)).alloc (.cells #[] 63)).heap.size = w.heap.size + 1 + 1 := by simp
    have z3 : ((w.drew.alloc (.cells #[] 63)).alloc (.cells #[] 26)).heap.size = w.heap.size + 1 + 1 := by simp
    have z4 : (wA.alloc (.cells #[] 63)).heap.size = wA.heap.size + 1 := by simp
    have sA := VA.out.2.1.size
    have sB := VB.out.2.1.size
    simp only [List.nil_append] at oA oB
    have hfin := two_new (w := w) (by first | exact (Fr.refl (fun _ => False) w).drew.alloc _ | exact ((Fr.refl (fun _ => False) w).drew.alloc _).alloc _) oA VA.out.2.1 VA.out.2.2 (by omega) (by omega) (by first | exact Fr.refl _ _ | exact (Fr.refl _ wA).alloc _) oB VB.out.2.1 VB.out.2.2 (by omega) (by omega) (by omega) (by omega)
    obtain ⟨hA, hB, nA, nB, hd, hF⟩ := hfin
    have hna := HNa.out
    have hnb := HNb.out
    subst hna hnb
    have zB : (wB.alloc (.cells #[.slice gA m.accs.length cA, .slice gB m.kept.length cB, .int .i64 m.clock, .int .i64 m.stamp] 56)).heap.size = wB.heap.size + 1 := by simp
    refine ⟨wB.heap.size, rfl, ⟨_, _, heap_alloc_new wB _, hA.alloc _, hB.alloc _, ⟨hF.size, by omega⟩, fun k hk => ?_, fun k hk => ?_, hd, fun k hk => hk.2⟩, hF.alloc _⟩
    · have := nA k hk; exact ⟨⟨this.1, by omega⟩, by omega⟩
    · have := nB k hk; exact ⟨⟨this.1, by omega⟩, by omega⟩
end Go.Proofs.YtjchjpmgbmeohaaDoor

/- Books: Time. -/
set_option linter.unusedSimpArgs false
set_option linter.unusedVariables false
namespace Go.Proofs.YtjchjpmgbmeohaaDoor
open Go.RowKit

/-- What Time makes of a state. -/
inductive TimeR (r : Raw) (es : List Ent) (now : Int) : Raw → List Ent → Prop
  | no (h : now ≤ r.clock ∨ 1099511627776 < now) : TimeR r es now r es
  | goes (h : r.clock < now) (h2 : now ≤ 1099511627776) (b0 b1 : Nat) : TimeR r es now { r with clock := now } (.clkSet b0 b1 r.clock :: es)
def TimePost (w : World) (lab : Nat → Nat) (d : Dd) (r : Raw) (es : List Ent) (big : Nat) (now : Int) (e : Ending) (w' : World) : Prop :=
  e = .returned (.tuple #[]) ∧ ∃ lab' r' es', TimeR r es now r' es' ∧ Sta w' lab' d r' es' (big + 1) ∧ Stp w.heap.size w lab w' lab'
theorem Sta.reclock {w : World} {lab : Nat → Nat} {d : Dd} {r : Raw} {es : List Ent} {big : Nat} (h : Sta w lab d r es big) (s : Int) : Sta (w.setCell ⟨d.B, 7, none⟩ (.int .i64 s)) lab d { r with clock := s } es big ∧ Fr (fun k => k = d.B) w (w.setCell ⟨d.B, 7, none⟩ (.int .i64 s)) := by
  have hf : Fr (fun k => k = d.B) w (w.setCell ⟨d.B, 7, none⟩ (.int .i64 s)) := (Fr.refl (fun k => k = d.B) w).setCell (p := ⟨d.B, 7, none⟩) (.inl rfl) _
  have h8 := h.labB
  have hn : ∀ c, c ≠ 8 → ∀ k, k = d.B → lab k ≠ c := fun c hc k hk e => hc (by rw [← e, hk, h8])
  have hr : Rel w lab (w.setCell ⟨d.B, 7, none⟩ (.int .i64 s)) lab := ⟨fun _ _ => rfl, fun k hk => Nat.lt_of_lt_of_le (h.lt k hk) hf.size⟩
  obtain ⟨lv, sv, qv, ps, hp, b⟩ := h.bb
  refine ⟨⟨⟨lv, sv, qv, ps, hp, ⟨?_, own_fr b.log hf (fun k hk hs => hn 1 (by decide) k hs (b.logl k hk)), b.logl, own_fr b.sts hf (fun k hk hs => hn 6 (by decide) k hs (b.stsl k hk)), b.stsl, b.orel, own_fr b.ens hf (fun k hk hs => hn 7 (by decide) k hs (b.ensl k hk)), b.ensl, b.qrel, b.psb, b.hpb⟩⟩, h8, h.acc.rel (by decide) hf (hn 2 (by decide)) hr, h.kep.rel (by decide) hf (hn 3 (by decide)) hr, h.ids.rel (by decide) hf (hn 4 (by decide)) hr, h.nms.rel (by decide) hf (hn 5 (by decide)) hr, hr.lt, ents_rel h.ents hf (hn 9 (by decide)) hr⟩, hf⟩
  have hb := blk_set b.blk 7 (.int .i64 s)
  simpa using hb
set_option maxRecDepth 4000 in
set_option maxHeartbeats 6400000 in
theorem timeS (w : World) (lab : Nat → Nat) (d : Dd) (r : Raw) (es : List Ent) (big : Nat) (now : Int) (h : Sta w lab d r es big) (hb : big ≤ 80000) :
    Calls Tryd.prog 39 #[.pointer (some ⟨d.B, 0, none⟩), .int .i64 now] w (TimePost w lab d r es big now) := by
  have HS := Lib.hid (h.alloc (.cells #[.pointer (some ⟨d.B, 0, none⟩)] 35))
  have B0 := Lib.hid (heap_alloc_new w (.cells #[.pointer (some ⟨d.B, 0, none⟩)] 35))
  have F0 := Lib.hid ((Fr.refl (fun _ => False) w).alloc (.cells #[.pointer (some ⟨d.B, 0, none⟩)] 35))
  have L0 := Lib.hid (h.free (Nat.le_refl _))
  have L1 := Lib.hid (h.free (Nat.le_succ w.heap.size))
  obtain ⟨c, hc⟩ : ∃ c, r.clock = c := ⟨_, rfl⟩
  have HC := Lib.hid hc
  obtain ⟨-, -, -, -, c7, -, -, -⟩ := HS.out.cells
  have s0 := blk_cell B0.out 0 rfl
  rw [hc] at c7
  have h8 := h.labB
  have hBl := h.lt d.B (by rw [h8]; decide)
  have H8 := Lib.hid h8
  by_cases hno : now ≤ c ∨ 1099511627776 < now
  · have HNo := Lib.hid hno
    rcases (show now ≤ c ∨ (¬ now ≤ c ∧ 1099511627776 < now) from by omega) with g1 | ⟨g1, g2⟩
    all_goals
      clear h hc h8 hno
      go_enter Tryd.func39, Tryd.ntmps39
      go_wp2_with fail
      (try simp only [Exit.inBlock, Exit.then])
      refine bodyPost_ret (results_none rfl _ _ _) rfl ?_
      exact ⟨rfl, lab, r, es, .no (by rw [HC.out]; exact HNo.out), HS.out.more (by omega), .of (Nat.le_refl _) F0.out⟩
  have g1 : ¬ now ≤ c := by omega
  have g2 : ¬ 1099511627776 < now := by omega
  have HG := Lib.hid (show r.clock < now ∧ now ≤ 1099511627776 from by rw [hc]; omega)
  have HS1 := Lib.hid ((h.alloc (.cells #[.pointer (some ⟨d.B, 0, none⟩)] 35)).alloc (.cells #[.int .i64 c] 3))
  have C0 := Lib.hid (blk_alloc B0.out (.cells #[.int .i64 c] 3))
  have C1 := Lib.hid (blk1 w (.cells #[.pointer (some ⟨d.B, 0, none⟩)] 35) (.cells #[.int .i64 c] 3))
  have F1 := Lib.hid (((Fr.refl (fun k => k = d.B) w).alloc (.cells #[.pointer (some ⟨d.B, 0, none⟩)] 35)).alloc (.cells #[.int .i64 c] 3))
  have c7x := HS1.out.cells.2.2.2.2.1
  rw [hc] at c7x
  have f7x := HS1.out.cells.2.2.2.2.2.2.1
  obtain ⟨S2, f2⟩ := HS1.out.reclock now
  have HS2 := Lib.hid S2
  have D0 := Lib.hid (blk_far2 (j := 7) C0.out (b := d.B) (by omega) (.int .i64 now))
  have D1 := Lib.hid (blk_far2 (j := 7) C1.out (b := d.B) (by omega) (.int .i64 now))
  have P2 := Lib.hid (show Stp w.heap.size w lab _ lab from ⟨(F1.out.then_ f2 (fun _ h => .inl h)).mono (fun k hk => by rw [hk, H8.out]; decide), Nat.le_refl _, fun _ _ => rfl, fun _ _ _ => rfl, fun _ _ h => .inl h⟩)
  have HK := Lib.hid (show Calls Tryd.prog 58 #[.pointer (some ⟨d.B, 0, none⟩), .func (.func 86) #[] #[.pointer (some ⟨w.heap.size + 1, 0, none⟩), .pointer (some ⟨w.heap.size, 0, none⟩)]] ((((w.alloc (.cells #[.pointer (some ⟨d.B, 0, none⟩)] 35)).alloc (.cells #[.int .i64 c] 3))).setCell ⟨d.B, 7, none⟩ (.int .i64 now)) _ from keepS _ lab d _ _ _ w.heap.size (.clkSet (w.heap.size + 1) w.heap.size c) S2 ⟨D1.out, D0.out⟩ (fun k hk => by
    rcases hk with rfl | rfl
    · exact ⟨Nat.le_succ _, blk_lt D1.out, .inl L1.out⟩
    · exact ⟨Nat.le_refl _, blk_lt D0.out, .inl L0.out⟩) P2.out.fr.size (by omega))
  have s0x := blk_cell C0.out 0 rfl
  have s0y := blk_cell D0.out 0 rfl
  clear h hc h8 hno S2 f2 hBl
  go_enter Tryd.func39, Tryd.ntmps39
  go_wp2_with fail
  refine HK.out.mono ?_
  rintro e w3 ⟨rfl, lab3, h3, p3⟩
  have H3 := Lib.hid h3
  have P3 := Lib.hid p3
  clear h3 p3
  go_wp2_with fail
  go_end0
  have hc := HC.out
  subst hc
  exact ⟨rfl, lab3, _, _, .goes HG.out.1 HG.out.2 _ _, H3.out, P2.out.then_ P3.out (Nat.le_refl _) HS2.out.lt⟩
end Go.Proofs.YtjchjpmgbmeohaaDoor

/- Books: what takes one change back. -/
set_option linter.unusedSimpArgs false
set_option linter.unusedVariables false
namespace Go.Proofs.YtjchjpmgbmeohaaDoor
open Go.RowKit

noncomputable def Ent.undo (r : Raw) : Ent → Raw
  | .accCut _ _ n => { r with accs := r.accs.take n }
  | .accPut _ _ _ i old => { r with accs := r.accs.set i old }
  | .kepCut _ _ n => { r with kept := r.kept.take n }
  | .kepPut _ _ _ i old => { r with kept := r.kept.set i old }
  | .idDrop _ _ a => { r with ids := upd r.ids a.id none }
  | .nmDrop _ _ _ m k => { r with nms := upd r.nms m.id none, sts := upd r.sts k.move.stamp none }
  | .enDrop _ _ x => { r with ends := upd r.ends x.stamp none }
  | .enPut _ _ x => { r with ends := upd r.ends x.stamp (some x) }
  | .stDec _ => { r with stamp := r.stamp - 1 }
  | .clkSet _ _ was => { r with clock := was }
def Ent.fits (r : Raw) : Ent → Prop
  | .accCut _ _ n => n ≤ r.accs.length
  | .accPut _ _ _ i _ => i < r.accs.length
  | .kepCut _ _ n => n ≤ r.kept.length
  | .kepPut _ _ _ i _ => i < r.kept.length
  | .enPut _ _ x => r.ends x.stamp = none
  | .stDec _ => 0 ≤ r.stamp ∧ r.stamp ≤ 4611686018427387904
  | _ => True
/-- A state, of which the queue may be one too long. -/
structure StaU (w : World) (lab : Nat → Nat) (d : Dd) (r : Raw) (es : List Ent) (big : Nat) : Prop where
  s : Sta w lab d r es (big + 1)
  b : ∃ lv sv qv ps hp, SB w lab d r es (big + 1) lv sv qv ps hp ∧ ps.length ≤ big
  i : TabS w (fun k => lab k = 4) d.I r.ids big
  n : TabS w (fun k => lab k = 5) d.N r.nms big
def UndoPost (w : World) (lab : Nat → Nat) (d : Dd) (r : Raw) (es : List Ent) (big : Nat) (q : Ending) (w' : World) : Prop := q = .returned (.tuple #[]) ∧ ∃ lab', StaU w' lab' d r es big ∧ Stp w.heap.size w lab w' lab'
section
variable {w w' : World} {lab : Nat → Nat} {d : Dd} {r : Raw} {es : List Ent} {big : Nat}
theorem Sta.toU (h : Sta w lab d r es big) : StaU w lab d r es big := by
  obtain ⟨lv, sv, qv, ps, hp, b⟩ := h.bb
  exact ⟨h.more (Nat.le_succ _), ⟨lv, sv, qv, ps, hp, b.more (Nat.le_succ _), b.psb⟩, h.ids, h.nms⟩
end
section
variable {w w' : World} {lab : Nat → Nat} {d : Dd} {r : Raw} {es : List Ent} {big : Nat} {lv sv qv : Value} {ps : List Pr} {hp : List Itm}
theorem Sta.reensB (h : Sta w lab d r es big) (b : SB w lab d r es big lv sv qv ps hp) {S' : Nat → Prop} {hq : List Itm} {f : Int → Option Itm} {big' : Nat} (hf : Fr (fun k => lab k = 7 ∨ k = d.B) w w')
    (ho : IsQ w' S' (d.L6 lv sv r.clock r.stamp) hq) (hS : ∀ k, S' k → (lab k = 7 ∨ k = d.B) ∨ w.heap.size ≤ k) (hR : QRel hq f) (hb : big ≤ big') (hl : hq.length + es.length ≤ big') : (∃ qv', SB w' (ext lab w.heap.size w'.heap.size 7) d { r with ends := f } es big' lv sv qv' ps hq) ∧ TabS w' (fun k => ext lab w.heap.size w'.heap.size 7 k = 4) d.I r.ids big ∧ TabS w' (fun k => ext lab w.heap.size w'.heap.size 7 k = 5) d.N r.nms big := by
  have hr := ext_rel (c := 7) h hf.size
  have hn : ∀ k, (lab k = 7 ∨ k = d.B) → lab k = 7 ∨ lab k = 8 := fun k hk => hk.imp id (fun e => by rw [e]; exact h.labB)
  have hne : ∀ c, c ≠ 7 → c ≠ 8 → ∀ k, (lab k = 7 ∨ k = d.B) → lab k ≠ c := fun c h1 h8 k hs e => by
    rcases hn k hs with h | h
    · rw [h] at e; exact h1 e.symm
    · rw [h] at e; exact h8 e.symm
  have hk : ∀ k c, c ≠ 0 → lab k = c → ext lab w.heap.size w'.heap.size 7 k = c := fun k c h0 h1 => by rw [hr.nz k (by rw [h1]; exact h0), h1]
  obtain ⟨qv', hb', ho', _, hl', hlt'⟩ := ho
  refine ⟨⟨qv', ⟨hb', own_fr b.log hf (fun k hk hs => hne 1 (by decide) (by decide) k hs (b.logl k hk)), fun k h => hk k 1 (by decide) (b.logl k h), own_fr b.sts hf (fun k hk hs => hne 6 (by decide) (by decide) k hs (b.stsl k hk)), fun k h => hk k 6 (by decide) (b.stsl k h), b.orel, ho', fun k hk' => ?_, hR, Nat.le_trans b.psb hb, hl⟩⟩, h.ids.rel (by decide) hf (hne 4 (by decide) (by decide)) hr, h.nms.rel (by decide) hf (hne 5 (by decide) (by decide)) hr⟩
  have hs := hl' k hk'
  rcases hS k hs.1 with (h6 | rfl) | hge
  · exact hk k 7 (by decide) h6
  · exact absurd rfl hs.2
  · rw [ext, if_neg (by omega), if_pos (hlt' k hs.1)]
end
theorem ensPutU (w : World) (lab : Nat → Nat) (d : Dd) (r : Raw) (es : List Ent) (big : Nat) (x : Itm) (h : Sta w lab d r es big) (hb : big ≤ 90000) (hx : r.ends x.stamp = none) :
    Calls Tryd.prog 68 #[.pointer (some ⟨d.B, 6, none⟩), .agg #[.int .i64 x.due, .int .i64 x.stamp, .int .u64 x.id.hi, .int .u64 x.id.lo]] w (UndoPost w lab d { r with ends := upd r.ends x.stamp (some x) } es big) := by
  obtain ⟨lv, sv, qv, ps, hp, b⟩ := h.bb
  have hpb := b.hpb
  refine (qput_any w _ (d.L6 lv sv r.clock r.stamp) hp x (h.ensAt b) (by omega) b.qrel.heap).mono ?_
  rintro e w' ⟨rfl, hq, ho, hh, hpm, hf⟩
  have hl : hq.length + es.length ≤ big + 1 := by rw [hpm.length_eq]; simp only [List.length_cons]; omega
  have hS : ∀ k, Gro (fun k => lab k = 7 ∨ k = d.B) w w' k → (lab k = 7 ∨ k = d.B) ∨ w.heap.size ≤ k := fun k hk => hk.imp id (fun h => h.1)
  obtain ⟨⟨qv', hB⟩, hi, hn⟩ := h.reensB b hf ho hS (b.qrel.put hh hpm hx) (Nat.le_succ _) hl
  exact ⟨rfl, _, ⟨h.reens b hf ho hS (b.qrel.put hh hpm hx) (Nat.le_succ _) hl, ⟨lv, sv, qv', ps, hq, hB, b.psb⟩, hi, hn⟩, h.stp7 hf⟩
attribute [-go_sem] loadCells
theorem undo_st (w : World) (lab : Nat → Nat) (d : Dd) (r : Raw) (es : List Ent) (big : Nat) (bs : Nat) (h : Sta w lab d r es big) (he : Ent.at_ w d (.stDec bs)) (hf : 0 ≤ r.stamp ∧ r.stamp ≤ 4611686018427387904) :
    Calls Tryd.prog 96 #[.pointer (some ⟨bs, 0, none⟩)] w (UndoPost w lab d (Ent.undo r (.stDec bs)) es big) := by
  have c8 := h.cells.2.2.2.2.2.1
  have z8 := h.cells.2.2.2.2.2.2.2
  have s0 : w.cell? ⟨bs, 0, none⟩ = some (.pointer (some ⟨d.B, 0, none⟩)) := blk_cell he 0 rfl
  obtain ⟨s, hs⟩ : ∃ s, r.stamp = s := ⟨_, rfl⟩
  rw [hs] at c8 hf
  have ws : IntKind.i64.wrap (s - 1) = s - 1 := IntWalk.i64_in _ (by omega)
  obtain ⟨S1, f1⟩ := h.restamp (s - 1)
  have HS1 := Lib.hid S1
  have HF1 := Lib.hid f1
  have H8 := Lib.hid h.labB
  have HSs := Lib.hid hs
  clear S1 f1 h he hs
  go_enter Tryd.func96, Tryd.ntmps96
  go_wp2_with fail
  go_end0
  exact ⟨rfl, lab, by show StaU _ lab d { r with stamp := r.stamp - 1 } es big; rw [HSs.out]; exact HS1.out.toU, ⟨HF1.out.mono (fun k hk => by rw [hk, H8.out]; decide), Nat.le_refl _, fun _ _ => rfl, fun _ _ _ => rfl, fun _ _ h => .inl h⟩⟩
theorem undo_clk (w : World) (lab : Nat → Nat) (d : Dd) (r : Raw) (es : List Ent) (big : Nat) (bw bs : Nat) (was : Int) (h : Sta w lab d r es big) (he : Ent.at_ w d (.clkSet bw bs was)) :
    Calls Tryd.prog 86 #[.pointer (some ⟨bw, 0, none⟩), .pointer (some ⟨bs, 0, none⟩)] w (UndoPost w lab d (Ent.undo r (.clkSet bw bs was)) es big) := by
  have c7 := h.cells.2.2.2.2.1
  have z7 := h.cells.2.2.2.2.2.2.1
  have s0 : w.cell? ⟨bs, 0, none⟩ = some (.pointer (some ⟨d.B, 0, none⟩)) := blk_cell he.2 0 rfl
  have q0 : w.cell? ⟨bw, 0, none⟩ = some (.int .i64 was) := blk_cell he.1 0 rfl
  obtain ⟨S1, f1⟩ := h.reclock was
  have HS1 := Lib.hid S1
  have HF1 := Lib.hid f1
  have H8 := Lib.hid h.labB
  clear S1 f1 h he
  go_enter Tryd.func86, Tryd.ntmps86
  go_wp2_with fail
  go_end0
  exact ⟨rfl, lab, HS1.out.toU, ⟨HF1.out.mono (fun k hk => by rw [hk, H8.out]; decide), Nat.le_refl _, fun _ _ => rfl, fun _ _ _ => rfl, fun _ _ h => .inl h⟩⟩
set_option maxHeartbeats 3200000 in
theorem undo_accCut (w : World) (lab : Nat → Nat) (d : Dd) (r : Raw) (es : List Ent) (big : Nat) (bl bn n : Nat) (h : Sta w lab d r es big) (he : Ent.at_ w d (.accCut bl bn n)) (hn : n ≤ r.accs.length) (hx : r.accs.length ≤ 1000000) :
    Calls Tryd.prog 98 #[.pointer (some ⟨bl, 0, none⟩), .pointer (some ⟨bn, 0, none⟩)] w (UndoPost w lab d (Ent.undo r (.accCut bl bn n)) es big) := by
  have HS := Lib.hid h
  obtain ⟨v, hb, ho, hS, hSv, hl⟩ := h.acc
  obtain ⟨a, cap, rfl, hc, -⟩ := own_form ho
  have c0 := blk_cell hb 0 rfl
  have f0 := blk_free hb 0
  have cl : w.cell? ⟨bl, 0, none⟩ = some (.pointer (some ⟨d.A, 0, none⟩)) := blk_cell he.1 0 rfl
  have cn : w.cell? ⟨bn, 0, none⟩ = some (.int .i64 n) := blk_cell he.2 0 rfl
  have HR := Lib.hid (rw_cut hb ho hS hSv hl rfl hn)
  have Hlen := Lib.hid (show (r.accs.flatMap Acc.cells).take (n * 14) = (r.accs.take n).flatMap Acc.cells from flat_take (f := Acc.cells) (n := 14) (fun _ => rfl) _ n)
  have Hl2 := Lib.hid (show (r.accs.take n).length = n from by rw [List.length_take]; omega)
  have b1 : (n : Int) ≤ cap := by omega
  have b0 : (0 : Int) ≤ n := by omega
  clear hb ho hS hSv hl he h
  go_enter Tryd.func98, Tryd.ntmps98
  go_wp2_with fail
  go_region
  all_goals
    go_wp2_with fail
    go_end0
    have hr := HR.out
    exact ⟨rfl, lab, ((HS.out.reaccs hr.2 (by unfold AccL; rw [Hl2.out, ← Hlen.out]; exact hr.1)).drew).toU, ⟨hr.2.drew.mono (fun k hk => by rw [hk]; decide), Nat.le_refl _, fun _ _ => rfl, fun _ _ _ => rfl, fun _ _ h => .inl h⟩⟩
set_option maxHeartbeats 3200000 in
theorem undo_accPut (w : World) (lab : Nat → Nat) (d : Dd) (r : Raw) (es : List Ent) (big : Nat) (bo bl bi i : Nat) (old : Acc) (h : Sta w lab d r es big) (he : Ent.at_ w d (.accPut bo bl bi i old)) (hn : i < r.accs.length) (hx : r.accs.length ≤ 1000000) :
    Calls Tryd.prog 104 #[.pointer (some ⟨bo, 0, none⟩), .pointer (some ⟨bl, 0, none⟩), .pointer (some ⟨bi, 0, none⟩)] w (UndoPost w lab d (Ent.undo r (.accPut bo bl bi i old)) es big) := by
  have HS := Lib.hid h
  obtain ⟨C, hC⟩ : ∃ C, old.cells.toArray = C := ⟨_, rfl⟩
  have hCs : C.size = 14 := by rw [← hC]; rfl
  have HCl := Lib.hid (show C.toList = old.cells from by rw [← hC])
  have HCo := Lib.hid (show C.all (·.oneCell') = true from by rw [← hC]; simp [Acc.cells, Kp.cells, Tx.cells, Value.oneCell'])
  obtain ⟨v, hb, ho, hS, hSv, hl⟩ := h.acc
  obtain ⟨g, cap, rfl⟩ := own_some ho (by omega)
  have c0 := blk_cell hb 0 rfl
  have cl : w.cell? ⟨bl, 0, none⟩ = some (.pointer (some ⟨d.A, 0, none⟩)) := blk_cell he.2.1 0 rfl
  have ci : w.cell? ⟨bi, 0, none⟩ = some (.int .i64 i) := blk_cell he.2.2 0 rfl
  have hco := he.1
  rw [hC] at hco
  have lx := ld_row (P := Tryd.prog) (W := w.drew) bo C (n := 14) hCs (blk_drew hco)
  have HTh := Lib.hid (there_flat (f := Acc.cells) (sz := 14) (fun _ => rfl) ho rfl hn)
  have HSt := Lib.hid (rw_store (f := Acc.cells) (sz := 14) (fun _ => rfl) (blk_drew hb) h.drew.acc hn old)
  have hse := st_mid (P := Tryd.prog) w.drew g (i * 14) C (by rw [hCs, World.there_drew]; exact HTh.out) HCo.out
  have b1 : (0 : Int) ≤ i := by omega
  have b2 : (i : Int) < r.accs.length := by omega
  clear hb ho hS hSv hl he h hC hco
  go_enter Tryd.func104, Tryd.ntmps104
  go_wp2_with fail
  go_region
  all_goals
    go_wp2_with fail
    go_end0
    have hst := HSt.out
    rw [← HCl.out] at hst
    exact ⟨rfl, lab, (HS.out.drew.reaccs hst.2 (by unfold AccL; rw [List.length_set]; exact hst.1)).toU, ⟨((Fr.refl _ _).drew.then_ hst.2 (fun k hk => .inl hk) : Fr (fun k => lab k = 2) w _).mono (fun k hk => by rw [hk]; decide), Nat.le_refl _, fun _ _ => rfl, fun _ _ _ => rfl, fun _ _ h => .inl h⟩⟩
set_option maxHeartbeats 3200000 in
theorem undo_kepCut (w : World) (lab : Nat → Nat) (d : Dd) (r : Raw) (es : List Ent) (big : Nat) (bl bn n : Nat) (h : Sta w lab d r es big) (he : Ent.at_ w d (.kepCut bl bn n)) (hn : n ≤ r.kept.length) (hx : r.kept.length ≤ 1000000) :
    Calls Tryd.prog 99 #[.pointer (some ⟨bl, 0, none⟩), .pointer (some ⟨bn, 0, none⟩)] w (UndoPost w lab d (Ent.undo r (.kepCut bl bn n)) es big) := by
  have HS := Lib.hid h
  obtain ⟨v, hb, ho, hS, hSv, hl⟩ := h.kep
  obtain ⟨a, cap, rfl, hc, -⟩ := own_form ho
  have c0 := blk_cell hb 0 rfl
  have f0 := blk_free hb 0
  have cl : w.cell? ⟨bl, 0, none⟩ = some (.pointer (some ⟨d.K, 0, none⟩)) := blk_cell he.1 0 rfl
  have cn : w.cell? ⟨bn, 0, none⟩ = some (.int .i64 n) := blk_cell he.2 0 rfl
  have HR := Lib.hid (rw_cut hb ho hS hSv hl rfl hn)
  have Hlen := Lib.hid (show (r.kept.flatMap Kp.cells).take (n * 33) = (r.kept.take n).flatMap Kp.cells from flat_take (f := Kp.cells) (n := 33) (fun _ => rfl) _ n)
  have Hl2 := Lib.hid (show (r.kept.take n).length = n from by rw [List.length_take]; omega)
  have b1 : (n : Int) ≤ cap := by omega
  have b0 : (0 : Int) ≤ n := by omega
  clear hb ho hS hSv hl he h
  go_enter Tryd.func99, Tryd.ntmps99
  go_wp2_with fail
  go_region
  all_goals
    go_wp2_with fail
    go_end0
    have hr := HR.out
    exact ⟨rfl, lab, ((HS.out.rekept hr.2 (by unfold KepL; rw [Hl2.out, ← Hlen.out]; exact hr.1)).drew).toU, ⟨hr.2.drew.mono (fun k hk => by rw [hk]; decide), Nat.le_refl _, fun _ _ => rfl, fun _ _ _ => rfl, fun _ _ h => .inl h⟩⟩
set_option maxHeartbeats 3200000 in
theorem undo_kepPut (w : World) (lab : Nat → Nat) (d : Dd) (r : Raw) (es : List Ent) (big : Nat) (bo bl bi i : Nat) (old : Kp) (h : Sta w lab d r es big) (he : Ent.at_ w d (.kepPut bo bl bi i old)) (hn : i < r.kept.length) (hx : r.kept.length ≤ 1000000) :
    Calls Tryd.prog 105 #[.pointer (some ⟨bo, 0, none⟩), .pointer (some ⟨bl, 0, none⟩), .pointer (some ⟨bi, 0, none⟩)] w (UndoPost w lab d (Ent.undo r (.kepPut bo bl bi i old)) es big) := by
  have HS := Lib.hid h
  obtain ⟨C, hC⟩ : ∃ C, old.cells.toArray = C := ⟨_, rfl⟩
  have hCs : C.size = 33 := by rw [← hC]; rfl
  have HCl := Lib.hid (show C.toList = old.cells from by rw [← hC])
  have HCo := Lib.hid (show C.all (·.oneCell') = true from by rw [← hC]; simp [Acc.cells, Kp.cells, Tx.cells, Value.oneCell'])
  obtain ⟨v, hb, ho, hS, hSv, hl⟩ := h.kep
  obtain ⟨g, cap, rfl⟩ := own_some ho (by omega)
  have c0 := blk_cell hb 0 rfl
  have cl : w.cell? ⟨bl, 0, none⟩ = some (.pointer (some ⟨d.K, 0, none⟩)) := blk_cell he.2.1 0 rfl
  have ci : w.cell? ⟨bi, 0, none⟩ = some (.int .i64 i) := blk_cell he.2.2 0 rfl
  have hco := he.1
  rw [hC] at hco
  have lx := ld_row (P := Tryd.prog) (W := w.drew) bo C (n := 33) hCs (blk_drew hco)
  have HTh := Lib.hid (there_flat (f := Kp.cells) (sz := 33) (fun _ => rfl) ho rfl hn)
  have HSt := Lib.hid (rw_store (f := Kp.cells) (sz := 33) (fun _ => rfl) (blk_drew hb) h.drew.kep hn old)
  have hse := st_mid (P := Tryd.prog) w.drew g (i * 33) C (by rw [hCs, World.there_drew]; exact HTh.out) HCo.out
  have b1 : (0 : Int) ≤ i := by omega
  have b2 : (i : Int) < r.kept.length := by omega
  clear hb ho hS hSv hl he h hC hco
  go_enter Tryd.func105, Tryd.ntmps105
  go_wp2_with fail
  go_region
  all_goals
    go_wp2_with fail
    go_end0
    have hst := HSt.out
    rw [← HCl.out] at hst
    exact ⟨rfl, lab, (HS.out.drew.rekept hst.2 (by unfold KepL; rw [List.length_set]; exact hst.1)).toU, ⟨((Fr.refl _ _).drew.then_ hst.2 (fun k hk => .inl hk) : Fr (fun k => lab k = 3) w _).mono (fun k hk => by rw [hk]; decide), Nat.le_refl _, fun _ _ => rfl, fun _ _ _ => rfl, fun _ _ h => .inl h⟩⟩
set_option maxHeartbeats 3200000 in
theorem undo_id (w : World) (lab : Nat → Nat) (d : Dd) (r : Raw) (es : List Ent) (big : Nat) (bs ba : Nat) (a : Acc) (h : Sta w lab d r es big) (he : Ent.at_ w d (.idDrop bs ba a)) (hl : ∀ k, Ent.has (.idDrop bs ba a) k → lab k = 9) :
    Calls Tryd.prog 59 #[.pointer (some ⟨bs, 0, none⟩), .pointer (some ⟨ba, 0, none⟩)] w (UndoPost w lab d (Ent.undo r (.idDrop bs ba a)) es big) := by
  have HD := Lib.hid (idDropS w.drew lab d r es big a.id h.drew)
  have s0 : w.cell? ⟨bs, 0, none⟩ = some (.pointer (some ⟨d.B, 0, none⟩)) := blk_cell he.1 0 rfl
  have c3 := h.cells.2.2.1
  have lm := ld_nm (P := Tryd.prog) (W := w.drew) (blk_cell he.2 0 rfl) (blk_cell he.2 1 rfl)
  have HE := Lib.hid he
  have HS := Lib.hid h
  have HL := Lib.hid hl
  clear h he hl
  go_enter Tryd.func59, Tryd.ntmps59
  go_upto_region 0 with fail
  go_region_held3 (fun w' => w'.cell? ⟨bs, 0, none⟩ = some (Value.pointer (some ⟨d.B, 0, none⟩)) ∧ w'.cell? ⟨d.B, 3, none⟩ = some (Value.pointer (some ⟨d.I, 0, none⟩)) ∧ (loadCells ⟨ba, 0, none⟩ 2).run Tryd.prog w' = .ok #[.int .u64 a.id.hi, .int .u64 a.id.lo] w')
    (first | exact ⟨s0, c3, lm⟩ | exact ⟨q0, q3, qm⟩ | go_keep)
    (first | (go_at_call 60; go_must (with_reducible refine HD.out.mono ?_); rintro e w2 ⟨rfl, lab2, h2, p2⟩; have b0 := (p2.blk (blk_drew HE.out.1) (.inr (HL.out _ (.inl rfl)))).1; have ba := (p2.blk (blk_drew HE.out.2) (.inr (HL.out _ (.inr rfl)))).1; have q0 := blk_cell b0 0 rfl; have q3 := h2.cells.2.2.1; have qm := ld_nm (P := Tryd.prog) (W := w2) (blk_cell ba 0 rfl) (blk_cell ba 1 rfl); have H2 := Lib.hid h2; have P2 := Lib.hid p2; clear h2 p2 b0 ba))
  go_wp2_with fail
  go_end0
  exact ⟨rfl, lab2, H2.out.toU, (Stp.of (Nat.le_refl _) ((Fr.refl _ _).drew)).then_ P2.out (Nat.le_refl _) HS.out.lt⟩
set_option maxHeartbeats 3200000 in
theorem undo_enDrop (w : World) (lab : Nat → Nat) (d : Dd) (r : Raw) (es : List Ent) (big : Nat) (bs bx : Nat) (x : Itm) (h : Sta w lab d r es big) (he : Ent.at_ w d (.enDrop bs bx x)) (hl : ∀ k, Ent.has (.enDrop bs bx x) k → lab k = 9) (hb : big ≤ 90000) :
    Calls Tryd.prog 69 #[.pointer (some ⟨bs, 0, none⟩), .pointer (some ⟨bx, 0, none⟩)] w (UndoPost w lab d (Ent.undo r (.enDrop bs bx x)) es big) := by
  have HD := Lib.hid (ensDropS w.drew lab d r es big x.stamp h.drew hb)
  have s0 : w.cell? ⟨bs, 0, none⟩ = some (.pointer (some ⟨d.B, 0, none⟩)) := blk_cell he.1 0 rfl
  have x1 : w.cell? ⟨bx, 1, none⟩ = some (Value.int .i64 x.stamp) := blk_cell he.2 1 rfl
  have HE := Lib.hid he
  have HS := Lib.hid h
  have HL := Lib.hid hl
  clear h he hl
  go_enter Tryd.func69, Tryd.ntmps69
  go_upto_region 0 with fail
  go_region_held3 (fun w' => w'.cell? ⟨bs, 0, none⟩ = some (Value.pointer (some ⟨d.B, 0, none⟩)) ∧ w'.cell? ⟨bx, 1, none⟩ = some (Value.int .i64 x.stamp))
    (first | exact ⟨s0, x1⟩ | exact ⟨q0, q1⟩ | go_keep)
    (first | (go_at_call 70; go_must (with_reducible refine HD.out.mono ?_); rintro e w2 ⟨rfl, lab2, h2, p2⟩; have q0 := blk_cell (p2.blk (blk_drew HE.out.1) (.inr (HL.out _ (.inl rfl)))).1 0 rfl; have q1 : w2.cell? ⟨bx, 1, none⟩ = some (Value.int .i64 x.stamp) := blk_cell (p2.blk (blk_drew HE.out.2) (.inr (HL.out _ (.inr rfl)))).1 1 rfl; have H2 := Lib.hid h2; have P2 := Lib.hid p2; clear h2 p2))
  go_wp2_with fail
  go_end0
  exact ⟨rfl, lab2, H2.out.toU, (Stp.of (Nat.le_refl _) ((Fr.refl _ _).drew)).then_ P2.out (Nat.le_refl _) HS.out.lt⟩
set_option maxHeartbeats 3200000 in
theorem undo_enPut (w : World) (lab : Nat → Nat) (d : Dd) (r : Raw) (es : List Ent) (big : Nat) (bs bx : Nat) (x : Itm) (h : Sta w lab d r es big) (he : Ent.at_ w d (.enPut bs bx x)) (hl : ∀ k, Ent.has (.enPut bs bx x) k → lab k = 9) (hb : big ≤ 90000) (hf : r.ends x.stamp = none) :
    Calls Tryd.prog 88 #[.pointer (some ⟨bs, 0, none⟩), .pointer (some ⟨bx, 0, none⟩)] w (UndoPost w lab d (Ent.undo r (.enPut bs bx x)) es big) := by
  have HD := Lib.hid (ensPutU w.drew lab d r es big x h.drew hb hf)
  have s0 : w.cell? ⟨bs, 0, none⟩ = some (.pointer (some ⟨d.B, 0, none⟩)) := blk_cell he.1 0 rfl
  have lx := ld_row (P := Tryd.prog) (W := w.drew) bx #[.int .i64 x.due, .int .i64 x.stamp, .int .u64 x.id.hi, .int .u64 x.id.lo] (n := 4) rfl (blk_drew he.2)
  have HE := Lib.hid he
  have HS := Lib.hid h
  have HL := Lib.hid hl
  clear h he hl hf
  go_enter Tryd.func88, Tryd.ntmps88
  go_upto_region 0 with fail
  go_region_held3 (fun w' => w'.cell? ⟨bs, 0, none⟩ = some (Value.pointer (some ⟨d.B, 0, none⟩)) ∧ (loadCells ⟨bx, 0, none⟩ 4).run Tryd.prog w' = .ok #[.int .i64 x.due, .int .i64 x.stamp, .int .u64 x.id.hi, .int .u64 x.id.lo] w')
    (first | exact ⟨s0, lx⟩ | exact ⟨q0, qx⟩ | go_keep)
    (first | (go_at_call 68; go_must (with_reducible refine HD.out.mono ?_); rintro e w2 ⟨rfl, lab2, h2, p2⟩; have q0 := blk_cell (p2.blk (blk_drew HE.out.1) (.inr (HL.out _ (.inl rfl)))).1 0 rfl; have qx := ld_row (P := Tryd.prog) (W := w2) bx #[.int .i64 x.due, .int .i64 x.stamp, .int .u64 x.id.hi, .int .u64 x.id.lo] (n := 4) rfl (p2.blk (blk_drew HE.out.2) (.inr (HL.out _ (.inr rfl)))).1; have H2 := Lib.hid h2; have P2 := Lib.hid p2; clear h2 p2))
  go_wp2_with fail
  go_end0
  exact ⟨rfl, lab2, H2.out, (Stp.of (Nat.le_refl _) ((Fr.refl _ _).drew)).then_ P2.out (Nat.le_refl _) HS.out.lt⟩
set_option maxHeartbeats 3200000 in
theorem undo_nm (w : World) (lab : Nat → Nat) (d : Dd) (r : Raw) (es : List Ent) (big : Nat) (bs bm bk : Nat) (m : Tx) (k : Kp) (h : Sta w lab d r es big) (he : Ent.at_ w d (.nmDrop bs bm bk m k)) (hl : ∀ j, Ent.has (.nmDrop bs bm bk m k) j → lab j = 9) (hb : big ≤ 90000) :
    Calls Tryd.prog 65 #[.pointer (some ⟨bs, 0, none⟩), .pointer (some ⟨bm, 0, none⟩), .pointer (some ⟨bk, 0, none⟩)] w (UndoPost w lab d (Ent.undo r (.nmDrop bs bm bk m k)) es big) := by
  have HD := Lib.hid (nmDropS w.drew lab d r es big m.id h.drew)
  have s0 : w.cell? ⟨bs, 0, none⟩ = some (.pointer (some ⟨d.B, 0, none⟩)) := blk_cell he.1 0 rfl
  have c4 := h.cells.2.2.2.1
  have lm := ld_nm (P := Tryd.prog) (W := w.drew) (blk_cell he.2.1 0 rfl) (blk_cell he.2.1 1 rfl)
  have HE := Lib.hid he
  have HS := Lib.hid h
  have HL := Lib.hid hl
  clear h he hl
  go_enter Tryd.func65, Tryd.ntmps65
  go_upto_region 0 with fail
  go_region_held3 (fun w' => w'.cell? ⟨bs, 0, none⟩ = some (Value.pointer (some ⟨d.B, 0, none⟩)) ∧ w'.cell? ⟨d.B, 4, none⟩ = some (Value.pointer (some ⟨d.N, 0, none⟩)) ∧ (loadCells ⟨bm, 0, none⟩ 2).run Tryd.prog w' = .ok #[.int .u64 m.id.hi, .int .u64 m.id.lo] w')
    (first | exact ⟨s0, c4, lm⟩ | exact ⟨q0, q4, qm⟩ | go_keep)
    (first | (go_at_call 60; go_must (with_reducible refine HD.out.mono ?_); rintro e w2 ⟨rfl, lab2, h2, p2⟩; have x0 := p2.blk (blk_drew HE.out.1) (.inr (HL.out _ (.inl rfl))); have xm := p2.blk (blk_drew HE.out.2.1) (.inr (HL.out _ (.inr (.inl rfl)))); have xk := p2.blk (blk_drew HE.out.2.2) (.inr (HL.out _ (.inr (.inr rfl)))); have q0 := blk_cell x0.1 0 rfl; have q4 := h2.cells.2.2.2.1; have qm := ld_nm (P := Tryd.prog) (W := w2) (blk_cell xm.1 0 rfl) (blk_cell xm.1 1 rfl); have H2 := Lib.hid h2; have P2 := Lib.hid p2; have X0 := Lib.hid x0; have XK := Lib.hid xk; clear h2 p2 x0 xm xk))
  have HD2 := Lib.hid (stsDropS w2.drew lab2 d _ es big k.move.stamp H2.out.drew hb)
  have k30 : w2.cell? ⟨bk, 30, none⟩ = some (Value.int .i64 k.move.stamp) := blk_cell XK.out.1 30 rfl
  clear s0 c4 lm q4 qm
  go_upto_region 1 with fail
  go_region_held3 (fun w' => w'.cell? ⟨bs, 0, none⟩ = some (Value.pointer (some ⟨d.B, 0, none⟩)) ∧ w'.cell? ⟨bk, 30, none⟩ = some (Value.int .i64 k.move.stamp))
    (first | exact ⟨q0, k30⟩ | exact ⟨y0, y30⟩ | go_keep)
    (first | (go_at_call 66; go_must (with_reducible refine HD2.out.mono ?_); rintro e w3 ⟨rfl, lab3, h3, p3⟩; have y0 := blk_cell (p3.blk (blk_drew X0.out.1) X0.out.2).1 0 rfl; have y30 : w3.cell? ⟨bk, 30, none⟩ = some (Value.int .i64 k.move.stamp) := blk_cell (p3.blk (blk_drew XK.out.1) XK.out.2).1 30 rfl; have H3 := Lib.hid h3; have P3 := Lib.hid p3; clear h3 p3))
  go_wp2_with fail
  go_end0
  exact ⟨rfl, lab3, H3.out.toU, (((Stp.of (Nat.le_refl _) ((Fr.refl _ _).drew)).then_ P2.out (Nat.le_refl _) HS.out.lt).fr_ (Fr.refl _ _).drew).then_ P3.out P2.out.fr.size H2.out.lt⟩
theorem run_go {P : Program} {f : FuncId} {fn : Func} {c : Code} (hf : P.funcs[f]? = some fn) (hname : (fn.name == "runtime.NumGoroutine") = false) (hb : fn.body = some c) (args : Array Value) (w : World) : (callFunc f args).run P w = .ok (.enter f args) w := by
  have h1 : fn.name ≠ "runtime.NumGoroutine" := by simpa using hname
  simp [callFunc, hf, h1, hb]
/-- One change is taken back. -/
theorem undo_any (w : World) (lab : Nat → Nat) (d : Dd) (r : Raw) (es : List Ent) (big : Nat) (e : Ent) (h : Sta w lab d r es big) (he : e ∈ es) (hf : e.fits r) (hb : big ≤ 90000) (hx : r.accs.length ≤ 1000000) (hy : r.kept.length ≤ 1000000) :
    ∃ f, e.fn = .func f ∧ (∀ W, (callFunc f e.caps).run Tryd.prog W = .ok (.enter f e.caps) W) ∧ Calls Tryd.prog f e.caps w (UndoPost w lab d (e.undo r) es big) := by
  obtain ⟨ha, hl⟩ := h.ents e he
  cases e with
  | accCut bl bn n => exact ⟨_, rfl, fun W => run_go Tryd.func98 (by kernel_rfl) rfl _ W, undo_accCut w lab d r es big bl bn n h ha hf hx⟩
  | accPut bo bl bi i old => exact ⟨_, rfl, fun W => run_go Tryd.func104 (by kernel_rfl) rfl _ W, undo_accPut w lab d r es big bo bl bi i old h ha hf hx⟩
  | kepCut bl bn n => exact ⟨_, rfl, fun W => run_go Tryd.func99 (by kernel_rfl) rfl _ W, undo_kepCut w lab d r es big bl bn n h ha hf hy⟩
  | kepPut bo bl bi i old => exact ⟨_, rfl, fun W => run_go Tryd.func105 (by kernel_rfl) rfl _ W, undo_kepPut w lab d r es big bo bl bi i old h ha hf hy⟩
  | idDrop bs ba a => exact ⟨_, rfl, fun W => run_go Tryd.func59 (by kernel_rfl) rfl _ W, undo_id w lab d r es big bs ba a h ha hl⟩
  | nmDrop bs bm bk m k => exact ⟨_, rfl, fun W => run_go Tryd.func65 (by kernel_rfl) rfl _ W, undo_nm w lab d r es big bs bm bk m k h ha hl hb⟩
  | enDrop bs bx x => exact ⟨_, rfl, fun W => run_go Tryd.func69 (by kernel_rfl) rfl _ W, undo_enDrop w lab d r es big bs bx x h ha hl hb⟩
  | enPut bs bx x => exact ⟨_, rfl, fun W => run_go Tryd.func88 (by kernel_rfl) rfl _ W, undo_enPut w lab d r es big bs bx x h ha hl hb hf⟩
  | stDec bs => exact ⟨_, rfl, fun W => run_go Tryd.func96 (by kernel_rfl) rfl _ W, undo_st w lab d r es big bs h ha hf⟩
  | clkSet bw bs was => exact ⟨_, rfl, fun W => run_go Tryd.func86 (by kernel_rfl) rfl _ W, undo_clk w lab d r es big bw bs was h ha⟩
end Go.Proofs.YtjchjpmgbmeohaaDoor
