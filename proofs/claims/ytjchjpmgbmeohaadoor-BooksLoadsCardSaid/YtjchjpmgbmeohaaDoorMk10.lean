/- Several texts in one, for the law BooksBack: BkUb, BkEnd, BkTurn, BkDu, BkPl, Alv. Each says what it shows; conditions: what each theorem names. -/
import Derived.Test.YtjchjpmgbmeohaaDoorMk9
import Derived.Test.YtjchjpmgbmeohaaDoorMk6
import Derived.Test.YtjchjpmgbmeohaaDoorMk8
import Derived.Deep.RegionHeld3
import Derived.Deep.QuietTactic
import Derived.Test.YtjchjpmgbmeohaaDoorMk5
/- Books: Mark, Back. -/
set_option linter.unusedSimpArgs false
set_option linter.unusedVariables false
namespace Go.Proofs.YtjchjpmgbmeohaaDoor
open Go.RowKit

noncomputable def undoAll (r : Raw) (l : List Ent) : Raw := l.foldl (fun r e => e.undo r) r
/-- All of them fit, one behind the other (the last one first). -/
def FitsN : Raw → List Ent → Prop
  | _, [] => True
  | r, e :: l => e.fits r ∧ FitsN (e.undo r) l
theorem undoAll_append (r : Raw) (l m : List Ent) : undoAll r (l ++ m) = undoAll (undoAll r l) m := by simp [undoAll]
theorem FitsN.append : ∀ {l m : List Ent} {r : Raw}, FitsN r (l ++ m) ↔ FitsN r l ∧ FitsN (undoAll r l) m
  | [], m, r => by simp [FitsN, undoAll]
  | e :: l, m, r => by
    show e.fits r ∧ FitsN (e.undo r) (l ++ m) ↔ (e.fits r ∧ FitsN (e.undo r) l) ∧ FitsN (undoAll (e.undo r) l) m
    rw [FitsN.append (l := l) (m := m) (r := e.undo r), and_assoc]
theorem undo_accs (r : Raw) (e : Ent) : (e.undo r).accs.length ≤ r.accs.length ∧ (e.undo r).kept.length ≤ r.kept.length := by
  cases e <;> simp [Ent.undo] <;> omega
theorem undoAll_accs : ∀ (l : List Ent) (r : Raw), (undoAll r l).accs.length ≤ r.accs.length ∧ (undoAll r l).kept.length ≤ r.kept.length
  | [], r => ⟨Nat.le_refl _, Nat.le_refl _⟩
  | e :: l, r => by
    have h1 := undoAll_accs l (e.undo r)
    have h2 := undo_accs r e
    have h3 : undoAll r (e :: l) = undoAll (e.undo r) l := rfl
    rw [h3]
    omega
section
variable {w w' : World} {lab : Nat → Nat} {d : Dd} {r : Raw} {e : Ent} {es : List Ent} {big : Nat} {sv qv : Value} {ps : List Pr} {hp : List Itm}
theorem StaU.recut {a : Option Addr} {cap : Nat} (h : StaU w lab d r (e :: es) big) (b : SB w lab d r (e :: es) (big + 1) (.slice a (es.length + 1) cap) sv qv ps hp) (hps : ps.length ≤ big) : Sta (w.setCell ⟨d.B, 0, none⟩ (.slice a es.length cap)) lab d r es big ∧ Fr (fun k => k = d.B) w (w.setCell ⟨d.B, 0, none⟩ (.slice a es.length cap)) := by
  have hf : Fr (fun k => k = d.B) w (w.setCell ⟨d.B, 0, none⟩ (.slice a es.length cap)) := (Fr.refl (fun k => k = d.B) w).setCell (p := ⟨d.B, 0, none⟩) (.inl rfl) _
  have h8 := h.s.labB
  have hn : ∀ c, c ≠ 8 → ∀ k, k = d.B → lab k ≠ c := fun c hc k hk e => hc (by rw [← e, hk, h8])
  have hr : Rel w lab (w.setCell ⟨d.B, 0, none⟩ (.slice a es.length cap)) lab := ⟨fun _ _ => rfl, fun k hk => Nat.lt_of_lt_of_le (h.s.lt k hk) hf.size⟩
  have hg := h.s.logAt b
  obtain ⟨v, hb, ho, hS, hSv, hl⟩ := hg
  have hv : v = .slice a (es.length + 1) cap := by
    have h0 := b.blk
    rw [h0] at hb
    simp only [Option.some.injEq, Obj.cells.injEq, and_true] at hb
    have := congrArg (fun x : Array Value => x[0]?) hb
    simpa using this.symm
  subst hv
  have hlen : (e :: es).length = es.length + 1 := rfl
  have hcut := (rw_cut hb ho hS hSv hl rfl (show es.length ≤ (e :: es).length from Nat.le_succ _)).1
  have hlist : ((e :: es).reverse.map Ent.val).take (es.length * 1) = es.reverse.map Ent.val := by
    rw [List.reverse_cons, List.map_append, List.take_left' (by simp)]
  rw [hlist] at hcut
  obtain ⟨v', hb', ho', -, hl', -⟩ := hcut
  have hv' : v' = .slice a es.length cap := by
    have h0 := blk_set hb 0 (.slice a es.length cap)
    rw [h0] at hb'
    simp only [Option.some.injEq, Obj.cells.injEq, and_true] at hb'
    have := congrArg (fun x : Array Value => x[0]?) hb'
    simpa using this.symm
  subst hv'
  refine ⟨⟨⟨.slice a es.length cap, sv, qv, ps, hp, ⟨hb', ho', fun k hk => ?_, own_fr b.sts hf (fun k hk hs => hn 6 (by decide) k hs (b.stsl k hk)), b.stsl, b.orel, own_fr b.ens hf (fun k hk hs => hn 7 (by decide) k hs (b.ensl k hk)), b.ensl, b.qrel, hps, ?_⟩⟩, h8, h.s.acc.rel (by decide) hf (hn 2 (by decide)) hr, h.s.kep.rel (by decide) hf (hn 3 (by decide)) hr, h.i.rel (by decide) hf (hn 4 (by decide)) hr, h.n.rel (by decide) hf (hn 5 (by decide)) hr, hr.lt, ents_rel (fun e' he' => h.s.ents e' (List.mem_cons_of_mem _ he')) hf (hn 9 (by decide)) hr⟩, hf⟩
  · rcases (hl' k hk).1 with h | h
    · exact h
    · exact absurd h (hl' k hk).2
  · have := b.hpb
    rw [List.length_cons] at this
    omega
end
theorem markL (w : World) (lab : Nat → Nat) (d : Dd) (r : Raw) (es : List Ent) (big : Nat) (h : Sta w lab d r es big) :
    Calls Tryd.prog 80 #[.pointer (some ⟨d.B, 0, none⟩)] w fun e w' => e = .returned (.int .i64 es.length) ∧ Fr (fun _ => False) w w' := by
  obtain ⟨lv, sv, qv, ps, hp, b⟩ := h.bb
  obtain ⟨a, cap, rfl, -, -⟩ := own_form b.log
  have c0 := blk_cell b.blk 0 rfl
  clear h b
  go_enter Tryd.func80, Tryd.ntmps80
  go_wp2_with fail
  go_ret
  exact ⟨rfl, by repeat (first | (with_reducible exact Fr.refl _ _) | (with_reducible refine Fr.drew ?_) | (with_reducible refine Fr.drewN ?_ _) | (with_reducible refine Fr.alloc ?_ _) | (with_reducible refine Fr.set1 ?_ _) | (with_reducible refine Fr.setNew ?_ (by omega) _))⟩
theorem markS (w : World) (lab : Nat → Nat) (d : Dd) (r : Raw) (es : List Ent) (big : Nat) (h : Sta w lab d r es big) :
    Calls Tryd.prog 27 #[.pointer (some ⟨d.B, 0, none⟩)] w fun e w' => e = .returned (.int .i64 es.length) ∧ Fr (fun _ => False) w w' := by
  have HM := Lib.hid (markL w lab d r es big h)
  clear h
  go_enter Tryd.func27, Tryd.ntmps27
  go_wp2_with fail
  refine HM.out.mono ?_
  rintro e w2 ⟨rfl, f2⟩
  have F2 := Lib.hid f2
  clear f2
  go_wp2_with fail
  go_ret
  exact ⟨rfl, F2.out⟩
set_option maxRecDepth 8000 in
set_option maxHeartbeats 3200000 in
theorem backL (w : World) (lab : Nat → Nat) (d : Dd) (r : Raw) (new old : List Ent) (big : Nat) (h : Sta w lab d r (new ++ old) big) (hft : FitsN r new) (hb : big ≤ 90000) (hx : r.accs.length ≤ 1000000) (hy : r.kept.length ≤ 1000000) :
    Calls Tryd.prog 81 #[.pointer (some ⟨d.B, 0, none⟩), .int .i64 old.length] w fun q w' => q = .returned (.tuple #[]) ∧ ∃ lab', Sta w' lab' d (undoAll r new) old big ∧ Stp w.heap.size w lab w' lab' := by
  have H := Lib.hid h
  have HFt := Lib.hid hft
  have HX := Lib.hid hx
  have HY := Lib.hid hy
  clear h hft hx hy
  have hm : ¬ ((old.length : Int) < 0) := by omega
  go_enter Tryd.func81, Tryd.ntmps81
  go_wp2_with fail
  go_loopg [4] (new.length) (fun k _ wr => ∃ n1 n2, new = n1 ++ n2 ∧ n2.length = k ∧ ∃ lab', Sta wr lab' d (undoAll r n1) (n2 ++ old) big ∧ Stp w.heap.size w lab wr lab')
  case atStart => exact ⟨[], new, rfl, rfl, lab, H.out, Stp.refl (Nat.le_refl _)⟩
  case round =>
    obtain ⟨n1, n2, rfl, rfl, lab2, hs, hp⟩ := hrel
    have hle := undoAll_accs n1 r
    obtain ⟨ys, hys⟩ : ∃ ys, undoAll r n1 = ys := ⟨_, rfl⟩
    have hfn := (FitsN.append.1 HFt.out).2
    rw [hys] at hs hle hfn
    have HP := Lib.hid hp
    have HYs := Lib.hid hys
    have HS := Lib.hid hs
    have HFn := Lib.hid hfn
    have HLe := Lib.hid hle
    clear hp hys hfn hle
    obtain ⟨lv, sv, qv, ps, hq, b⟩ := hs.bb
    cases n2 with
    | nil =>
      obtain ⟨a, cap, rfl, -, -⟩ := own_form b.log
      have c0 := blk_cell b.blk 0 rfl
      clear b hs
      have hnn : (([] : List Ent) ++ old).length = old.length := rfl
      rw [hnn] at c0
      go_wp2_with fail
      go_end0
      exact ⟨rfl, lab2, by rw [List.append_nil, HYs.out]; exact HS.out, HP.out⟩
    | cons e n2 =>
      obtain ⟨N, hN⟩ : ∃ N, (n2 ++ old).length = N := ⟨_, rfl⟩
      have hN2 : (e :: n2 ++ old).length = N + 1 := by rw [← hN]; rfl
      have hNo : (old.length : Int) < N + 1 := by rw [← hN, List.length_append]; omega
      have hNb : N ≤ 1000000 := by have := hs.len; rw [hN2] at this; omega
      have hlist : ((e :: n2 ++ old).reverse.map Ent.val) = (n2 ++ old).reverse.map Ent.val ++ [e.val] := by simp
      obtain ⟨f, hfe, hrun, hcall⟩ := undo_any wr lab2 d ys (e :: n2 ++ old) big e hs (List.mem_cons_self ..) HFn.out.1 hb (by have := HLe.out; have := HX.out; omega) (by have := HLe.out; have := HY.out; omega)
      have ho := b.log
      rw [hN2, hlist] at ho
      obtain ⟨gb, cap, rfl⟩ := own_some ho (by omega)
      have c0 := blk_cell b.blk 0 rfl
      obtain ⟨cs, hcs⟩ : ∃ cs, e.caps = cs := ⟨_, rfl⟩
      rw [hcs] at hcall hrun
      have hcf := hrun wr
      have HHs := Lib.hid hs
      have ca : wr.cell? ⟨gb, N, none⟩ = some (.func (.func f) #[] cs) := by
        rw [ho.cellAt N (by omega)]
        have hl2 : ((n2 ++ old).reverse.map Ent.val).length = N := by rw [List.length_map, List.length_reverse, hN]
        rw [List.getElem?_append_right (by omega), hl2]
        simp [Ent.val, hfe, hcs]
      have HC := Lib.hid hcall
      have hwrap : IntKind.i64.wrap ((N : Int) + 1 - 1) = N := by rw [IntWalk.i64_in _ (by omega)]; omega
      have HN := Lib.hid hN
      clear hs b ho hcall hlist hN hN2 hfe hcs hrun
      go_wp2_with fail
      refine HC.out.mono ?_
      rintro q w2 ⟨rfl, lab3, hu, p2⟩
      have hu : StaU w2 lab3 d (e.undo ys) (e :: (n2 ++ old)) big := hu
      obtain ⟨lv2, sv2, qv2, ps2, hq2, b2, hps⟩ := hu.b
      have hN3 : (e :: (n2 ++ old)).length = N + 1 := by rw [← HN.out]; rfl
      have ho2 := b2.log
      rw [hN3] at ho2
      obtain ⟨gb2, cap2, rfl⟩ := own_some ho2 (by omega)
      have hcap : N + 1 ≤ cap2 := by
        obtain ⟨a', c', e', hc, -⟩ := own_form ho2
        simp only [Value.slice.injEq] at e'
        omega
      have c2 := blk_cell b2.blk 0 rfl
      have z2 := blk_free b2.blk 0
      have hrc := hu.recut (a := some ⟨gb2, 0, none⟩) (cap := cap2) (by rw [HN.out]; exact b2) hps
      rw [HN.out] at hrc
      have HRc := Lib.hid hrc
      have HP2 := Lib.hid p2
      have HLt := Lib.hid hu.s.labB
      have HLs := Lib.hid hu.s.lt
      have i1 : (N : Int) ≤ cap2 := by omega
      have i2 : (0 : Int) ≤ N := by omega
      have i3 : N ≤ cap2 := by omega
      clear hu b2 hps ho2 hrc p2 hN3 hcf c0 ca
      go_wp2_with fail
      go_roundg n2.length
      case measure => simp
      case rel =>
        refine ⟨n1 ++ [e], n2, by simp, rfl, lab3, by rw [undoAll_append, HYs.out]; exact HRc.out.1, ?_⟩
        have p3 := HP.out.then_ HP2.out HP.out.fr.size HHs.out.lt
        exact ⟨p3.fr.then_ HRc.out.2 (fun k hk => by
          by_cases hkl : k < w.heap.size
          · left
            have h8 : lab3 k = 8 := by rw [show k = d.B from hk]; exact HLt.out
            by_cases h0 : lab k = 0
            · rcases p3.own k hkl h0 with h | h <;> rw [h8] at h <;> cases h
            · have := p3.nz k hkl h0
              rw [← this, h8]; decide
          · exact .inr (by omega)), p3.le, p3.lx, p3.nz, p3.own⟩
theorem backS (w : World) (lab : Nat → Nat) (d : Dd) (r : Raw) (new old : List Ent) (big : Nat) (h : Sta w lab d r (new ++ old) big) (hft : FitsN r new) (hb : big ≤ 90000) (hx : r.accs.length ≤ 1000000) (hy : r.kept.length ≤ 1000000) :
    Calls Tryd.prog 28 #[.pointer (some ⟨d.B, 0, none⟩), .int .i64 old.length] w fun q w' => q = .returned (.tuple #[]) ∧ ∃ lab', Sta w' lab' d (undoAll r new) old big ∧ Stp w.heap.size w lab w' lab' := by
  have HM := Lib.hid (backL w lab d r new old big h hft hb hx hy)
  clear h hft
  go_enter Tryd.func28, Tryd.ntmps28
  go_wp2_with fail
  refine HM.out.mono ?_
  rintro e w2 ⟨rfl, lab2, h2, p2⟩
  have H2 := Lib.hid h2
  have P2 := Lib.hid p2
  clear h2 p2
  go_wp2_with fail
  go_end0
  exact ⟨rfl, lab2, H2.out, P2.out⟩
end Go.Proofs.YtjchjpmgbmeohaaDoor

/- Books: End. -/
set_option linter.unusedSimpArgs false
set_option linter.unusedVariables false
namespace Go.Proofs.YtjchjpmgbmeohaaDoor
open Go.RowKit

/-- What End makes of a state. -/
inductive EndR (r : Raw) (es : List Ent) (id : Nm) (fate : Int) : Int → Raw → List Ent → Prop
  | none (h : ∀ k, keptR r id = some k → k.fate ≠ 1) : EndR r es id fate 5 r es
  | bad (k : Kp) (h : keptR r id = some k) (h1 : k.fate = 1) (h2 : fate ≤ 1 ∨ 4 < fate) : EndR r es id fate 1 r es
  | rests (i : Nat) (k : Kp) (hi : r.nms id = some (i : Int)) (h : r.kept[i]? = some k) (h1 : k.fate = 1) (h2 : 1 < fate ∧ fate ≤ 4) (hd : dueB k = false ∨ r.ends k.move.stamp = none) (b0 b1 b2 : Nat) : EndR r es id fate 0 { r with kept := r.kept.set i { k with fate := fate } } (.kepPut b0 b1 b2 i k :: es)
  | waits (i : Nat) (k : Kp) (hi : r.nms id = some (i : Int)) (h : r.kept[i]? = some k) (h1 : k.fate = 1) (h2 : 1 < fate ∧ fate ≤ 4) (hd : dueB k = true) (hs : (r.ends k.move.stamp).isSome = true) (b0 b1 b2 b3 b4 : Nat) : EndR r es id fate 0 { r with kept := r.kept.set i { k with fate := fate }, ends := upd r.ends k.move.stamp none } (.kepPut b0 b1 b2 i k :: .enPut b3 b4 k.itm :: es)
def EndPost (w : World) (lab : Nat → Nat) (d : Dd) (r : Raw) (es : List Ent) (big : Nat) (id : Nm) (fate : Int) (e : Ending) (w' : World) : Prop :=
  ∃ c lab' r' es', e = .returned (.int .i64 c) ∧ EndR r es id fate c r' es' ∧ Sta w' lab' d r' es' (big + 2) ∧ Stp w.heap.size w lab w' lab'
theorem keptR_some {r : Raw} {id : Nm} {k : Kp} (h : keptR r id = some k) : ∃ i : Nat, r.nms id = some (i : Int) ∧ r.kept[i]? = some k := by
  unfold keptR at h
  cases hx : r.nms id with
  | none => rw [hx] at h; cases h
  | some z =>
    rw [hx] at h
    have h : atZ r.kept z = some k := h
    unfold atZ at h
    split at h
    · cases h
    · exact ⟨z.toNat, by rw [Int.toNat_of_nonneg (by omega)], h⟩
section
variable {w w2 : World} {lab : Nat → Nat} {d : Dd} {r : Raw} {es : List Ent} {big c : Nat}
open Classical in
/-- .. and all other blocks' labels are as they were. -/
theorem keepS2 (w : World) (lab : Nat → Nat) (d : Dd) (r : Raw) (es : List Ent) (big n : Nat) (e : Ent) (h : Sta w lab d r es big) (he : e.at_ w d) (hh : ∀ k, e.has k → n ≤ k ∧ k < w.heap.size ∧ (lab k = 0 ∨ lab k = 9)) (hn : n ≤ w.heap.size) (hb : big ≤ 1000000) :
    Calls Tryd.prog 58 #[.pointer (some ⟨d.B, 0, none⟩), .func e.fn #[] e.caps] w (fun q w' => q = .returned (.tuple #[]) ∧ ∃ lab', Sta w' lab' d r (e :: es) (big + 1) ∧ Stp n w lab w' lab' ∧ ∀ k, k < w.heap.size → ¬ e.has k → lab' k = lab k) := by
  obtain ⟨lv, sv, qv, ps, hp, b⟩ := h.bb
  have hlen := h.len
  refine (keepB w _ d.B _ es.length _ e.fn #[] e.caps (h.logAt b) (by omega)).mono ?_
  rintro q w' ⟨rfl, hg, hf⟩
  refine ⟨rfl, fun k => if e.has k then 9 else ext lab w.heap.size w'.heap.size 1 k, ?_, ?_, fun k hk hn => by show (if e.has k then 9 else _) = _; rw [if_neg hn, ext, if_pos hk]⟩
  · have hr : Rel w lab w' (fun k => if e.has k then 9 else ext lab w.heap.size w'.heap.size 1 k) := by
      refine ⟨fun k hk => ?_, fun k hk => ?_⟩
      · show (if e.has k then 9 else _) = _
        split
        · rename_i h9
          rcases (hh k h9).2.2 with h | h
          · exact absurd h hk
          · exact h.symm
        · exact (ext_rel h hf.size).nz k hk
      · split at hk
        · rename_i h9
          exact Nat.lt_of_lt_of_le (hh k h9).2.1 hf.size
        · exact ext_lt h hf.size hk
    have hd : ∀ k, e.has k → ¬ (lab k = 1 ∨ k = d.B) := fun k hk hs => by
      have h9 := (hh k hk).2.2
      rcases hs with hs | rfl
      · rw [hs] at h9; rcases h9 with h9 | h9 <;> cases h9
      · rw [h.labB] at h9; rcases h9 with h9 | h9 <;> cases h9
    refine h.relog b hf hr ?_ (fun e' he' => ?_) (Nat.le_succ _) (by have := b.hpb; simp only [List.length_cons]; omega)
    · rw [show (e :: es).reverse.map Ent.val = es.reverse.map Ent.val ++ [.func e.fn #[] e.caps] from by simp [Ent.val], List.length_cons]
      obtain ⟨v, hb', ho', hS', hv', hl'⟩ := hg
      refine ⟨v, hb', ho', .inr rfl, fun k hk => ⟨?_, (hv' k hk).2⟩, fun k hk => ?_⟩
      · left
        show (if e.has k then 9 else _) = 1
        have h1 := (hv' k hk).1
        rcases h1 with (h1 | h1) | h1
        · rw [if_neg (fun h9 => hd k h9 (.inl h1))]
          exact ext_gro (c := 1) h (by decide) (.inl h1)
        · exact absurd h1 (hv' k hk).2
        · rw [if_neg (fun h9 => by have := (hh k h9).2.1; omega)]
          exact ext_gro (c := 1) h (by decide) (.inr h1)
      · rcases hk with hk | rfl
        · exact hr.lt k (by rw [hk]; decide)
        · exact Nat.lt_of_lt_of_le (h.lt _ (by rw [h.labB]; decide)) hf.size
    · rcases List.mem_cons.1 he' with rfl | he'
      · exact ⟨ent_fr he hf hd, fun k hk => if_pos hk⟩
      · refine ents_rel h.ents hf (fun k hk h9 => ?_) hr e' he'
        rcases hk with hk | rfl
        · rw [hk] at h9; cases h9
        · rw [h.labB] at h9; cases h9
  · refine ⟨hf.mono (fun k hk => ?_), hn, fun k hk => ?_, fun k hk h0 => ?_, fun k hk h0 => ?_⟩
    · rcases hk with hk | rfl
      · rw [hk]; decide
      · rw [h.labB]; decide
    · show (if e.has k then 9 else _) = _
      rw [if_neg (fun h9 => by have := (hh k h9).1; omega), ext, if_pos (by omega)]
    · show (if e.has k then 9 else _) = _
      split
      · rename_i h9
        rcases (hh k h9).2.2 with h | h
        · exact absurd h h0
        · exact h.symm
      · rw [ext, if_pos hk]
    · show (if e.has k then 9 else _) = 0 ∨ (if e.has k then 9 else _) = 9
      split
      · exact .inr rfl
      · rw [ext, if_pos hk]; exact .inl h0

end
/-- What lies beside the state when a transfer ends: the state's box, the name's, the transfer's. -/
structure EOwn (w : World) (lab : Nat → Nat) (d : Dd) (id : Nm) (k : Kp) (s0 sn sk : Nat) : Prop where
  b0 : w.heap[s0]? = some (.cells #[.pointer (some ⟨d.B, 0, none⟩)] 35 (0, 0))
  bn : w.heap[sn]? = some (.cells #[.int .u64 id.hi, .int .u64 id.lo] 24 (0, 0))
  bk : w.heap[sk]? = some (.cells k.cells.toArray 63 (0, 0))
  l0 : lab s0 = 0 ∨ lab s0 = 9
  ln : lab sn = 0 ∨ lab sn = 9
  lk : lab sk = 0
theorem EOwn.stp {n : Nat} {w w' : World} {lab lab' : Nat → Nat} {d : Dd} {id : Nm} {k : Kp} {s0 sn sk : Nat} (o : EOwn w lab d id k s0 sn sk) (p : Stp n w lab w' lab') (hl : lab' sk = lab sk) : EOwn w' lab' d id k s0 sn sk :=
  ⟨(p.blk o.b0 o.l0).1, (p.blk o.bn o.ln).1, (p.blk o.bk (.inl o.lk)).1, (p.blk o.b0 o.l0).2, (p.blk o.bn o.ln).2, by rw [hl, o.lk]⟩
theorem EOwn.fr {w w' : World} {lab : Nat → Nat} {d : Dd} {id : Nm} {k : Kp} {s0 sn sk : Nat} (o : EOwn w lab d id k s0 sn sk) (f : Fr (fun _ => False) w w') : EOwn w' lab d id k s0 sn sk :=
  ⟨f.blk o.b0 (fun h => h), f.blk o.bn (fun h => h), f.blk o.bk (fun h => h), o.l0, o.ln, o.lk⟩
/-- The queue, and the log, when a transfer ends. -/
inductive EndM (r : Raw) (es : List Ent) (k : Kp) : Raw → List Ent → Prop
  | no (h : dueB k = false ∨ r.ends k.move.stamp = none) : EndM r es k r es
  | yes (hd : dueB k = true) (hs : (r.ends k.move.stamp).isSome = true) (b3 b4 : Nat) : EndM r es k { r with ends := upd r.ends k.move.stamp none } (.enPut b3 b4 k.itm :: es)
theorem EndM.same {r r2 : Raw} {es es2 : List Ent} {k : Kp} (h : EndM r es k r2 es2) : r2.nms = r.nms ∧ r2.kept = r.kept := by cases h <;> exact ⟨rfl, rfl⟩
theorem EndM.put {r r2 : Raw} {es es2 : List Ent} {id : Nm} {fate : Int} {i : Nat} {k : Kp} (h : EndM r es k r2 es2) (hi : r.nms id = some (i : Int)) (hk : r.kept[i]? = some k) (h1 : k.fate = 1) (h2 : 1 < fate ∧ fate ≤ 4) (b0 b1 b2 : Nat) : EndR r es id fate 0 { r2 with kept := r2.kept.set i { k with fate := fate } } (.kepPut b0 b1 b2 i k :: es2) := by
  cases h with
  | no h => exact .rests i k hi hk h1 h2 h b0 b1 b2
  | yes hd hs b3 b4 => exact .waits i k hi hk h1 h2 hd hs b0 b1 b2 b3 b4
attribute [-go_sem] loadCells
set_option maxRecDepth 4000 in
set_option maxHeartbeats 6400000 in
theorem endS (w : World) (lab : Nat → Nat) (d : Dd) (r : Raw) (es : List Ent) (big : Nat) (id : Nm) (fate : Int) (h : Sta w lab d r es big) (hb : big ≤ 80000) (hlen : r.kept.length ≤ 100000) :
    Calls Tryd.prog 41 #[.pointer (some ⟨d.B, 0, none⟩), .agg #[.int .u64 id.hi, .int .u64 id.lo], .int .i64 fate] w (EndPost w lab d r es big id fate) := by
  have HS := Lib.hid ((h.alloc (.cells #[.pointer (some ⟨d.B, 0, none⟩)] 35)).alloc (.cells #[.int .u64 id.hi, .int .u64 id.lo] 24))
  have B0 := Lib.hid (blk_alloc (heap_alloc_new w (.cells #[.pointer (some ⟨d.B, 0, none⟩)] 35)) (.cells #[.int .u64 id.hi, .int .u64 id.lo] 24))
  have B1 := Lib.hid (blk1 w (.cells #[.pointer (some ⟨d.B, 0, none⟩)] 35) (.cells #[.int .u64 id.hi, .int .u64 id.lo] 24))
  have F0 := Lib.hid (((Fr.refl (fun _ => False) w).alloc (.cells #[.pointer (some ⟨d.B, 0, none⟩)] 35)).alloc (.cells #[.int .u64 id.hi, .int .u64 id.lo] 24))
  have L0 := Lib.hid (h.free (Nat.le_refl _))
  have L1 := Lib.hid (h.free (Nat.le_succ w.heap.size))
  have hac := keptS ((w.alloc (.cells #[.pointer (some ⟨d.B, 0, none⟩)] 35)).alloc (.cells #[.int .u64 id.hi, .int .u64 id.lo] 24)) lab d r es big id HS.out (by omega)
  obtain ⟨O, hO⟩ : ∃ O, ((keptR r id).getD Kp.zero).cells.toArray = O := ⟨_, rfl⟩
  have hOs : O.size = 33 := by rw [← hO]; rfl
  have HOo := Lib.hid (show O.all (·.oneCell') = true from by rw [← hO]; simp [Kp.cells, Tx.cells, Value.oneCell'])
  have HOe := Lib.hid hO
  obtain ⟨is, his⟩ : ∃ b, (keptR r id).isSome = b := ⟨_, rfl⟩
  have HIs := Lib.hid his
  rw [hO, his] at hac
  have HAc := Lib.hid hac
  have HLen := Lib.hid hlen
  have s0 := blk_cell B0.out 0 rfl
  have lm := ld_nm (P := Tryd.prog) (W := (w.alloc (.cells #[.pointer (some ⟨d.B, 0, none⟩)] 35)).alloc (.cells #[.int .u64 id.hi, .int .u64 id.lo] 24)) (blk_cell B1.out 0 rfl) (blk_cell B1.out 1 rfl)
  clear h hac hO his hlen
  go_enter Tryd.func41, Tryd.ntmps41
  go_wp2_with fail
  refine HAc.out.mono ?_
  rintro e w2 ⟨rfl, f2⟩
  have F2 := Lib.hid (F0.out.then_ f2 (fun _ h => h.elim))
  have HN := Lib.hid (heap_alloc_new w2 (.cells #[.int .u64 0, .int .u64 0, .int .u64 0, .int .u64 0, .int .u64 0, .int .u64 0, .int .u64 0, .int .u64 0, .int .u64 0, .int .u64 0, .int .i64 0, .int .i64 0, .int .i64 0, .int .i64 0, .int .i64 0, .int .i64 0, .int .u64 0, .int .u64 0, .int .u64 0, .int .u64 0, .int .u64 0, .int .u64 0, .int .u64 0, .int .u64 0, .int .u64 0, .int .u64 0, .int .i64 0, .int .i64 0, .int .i64 0, .int .i64 0, .int .i64 0, .int .i64 0, .int .i64 0] 63))
  have B20 := Lib.hid (f2.blk B0.out (fun h => h))
  have B21 := Lib.hid (f2.blk B1.out (fun h => h))
  have HZ2 := Lib.hid (show w.heap.size + 1 < w2.heap.size from blk_lt B21.out)
  have HSa := Lib.hid (HS.out.fr f2 (fun _ h => h.elim))
  have L2 := Lib.hid (show lab w2.heap.size = 0 from HS.out.free f2.size)
  clear f2 lm s0
  go_upto_region 2 with (first | ((refine wpList_store_row rfl 63 (.tmp 7) (.tmp 17) rfl w2.heap.size O rfl rfl HN.out (by rw [hOs]; rfl) (by rw [hOs]; rfl) HOo.out ?_); intro w9 hb9 f9; have HB9 := Lib.hid hb9; have F9 := Lib.hid f9; clear hb9 f9) | fail)
  have G9 := Lib.hid (show Fr (fun _ => False) w2 w9 from ((Fr.refl (fun _ => False) w2).alloc _).then_ F9.out (fun k hk => .inr (by omega)))
  have HS9 := Lib.hid (HSa.out.fr G9.out (fun _ h => h.elim))
  have B90 := Lib.hid (G9.out.blk B20.out (fun h => h))
  have B91 := Lib.hid (G9.out.blk B21.out (fun h => h))
  have F29 := Lib.hid (F2.out.then_ G9.out (fun _ h => h.elim))
  have s09 := blk_cell B90.out 0 rfl
  cases is
  · go_wp2_with fail
    go_ret
    exact ⟨5, lab, r, es, rfl, .none (fun k hk => by have := HIs.out; rw [hk] at this; cases this), HS9.out.more (by omega), .of (Nat.le_refl _) F29.out⟩
  obtain ⟨k, hk⟩ : ∃ k, keptR r id = some k := Option.isSome_iff_exists.1 HIs.out
  obtain ⟨i, hi, hia⟩ := keptR_some hk
  have HOl := Lib.hid (show O = k.cells.toArray from by rw [← HOe.out, hk]; rfl)
  have HI := Lib.hid (And.intro hi hia)
  have HK := Lib.hid hk
  have O9 := Lib.hid (show EOwn w9 lab d id k w.heap.size (w.heap.size + 1) w2.heap.size from ⟨B90.out, B91.out, by rw [← HOl.out]; exact HB9.out, .inl L0.out, .inl L1.out, L2.out⟩)
  obtain ⟨f, hf⟩ : ∃ f, k.fate = f := ⟨_, rfl⟩
  have HFt := Lib.hid hf
  have k32 : w9.cell? ⟨w2.heap.size, 32, none⟩ = some (.int .i64 f) := by rw [← hf]; exact blk_cell O9.out.bk 32 rfl
  clear hk hi hia hf
  by_cases hf1 : f = 1
  · subst hf1
    by_cases hbad : fate ≤ 1 ∨ 4 < fate
    · have HBd := Lib.hid hbad
      rcases (show fate ≤ 1 ∨ (¬ fate ≤ 1 ∧ 4 < fate) from by omega) with g1 | ⟨g1, g2⟩
      all_goals
        clear hbad
        go_wp2_with fail
        go_ret
        exact ⟨1, lab, r, es, rfl, .bad k HK.out HFt.out HBd.out, HS9.out.more (by omega), .of (Nat.le_refl _) F29.out⟩
    have HGd := Lib.hid (show 1 < fate ∧ fate ≤ 4 from by omega)
    have g1 : ¬ fate ≤ 1 := by omega
    have g2 : ¬ 4 < fate := by omega
    clear hbad
    have lk := ld_row (P := Tryd.prog) (W := w9) w2.heap.size k.cells.toArray (n := 33) rfl O9.out.bk
    have hdu := due_any w9 k
    obtain ⟨x, hx⟩ : ∃ x, k.itm = x := ⟨_, rfl⟩
    have HX := Lib.hid hx
    have HXs := Lib.hid (show x.stamp = k.move.stamp from by rw [← hx]; rfl)
    obtain ⟨db, hdb⟩ : ∃ b, dueB k = b := ⟨_, rfl⟩
    have HDb := Lib.hid hdb
    rw [hx, hdb] at hdu
    have HDu := Lib.hid hdu
    clear hx hdu hdb
    go_wp2_with fail
    refine HDu.out.mono ?_
    rintro e w3 ⟨rfl, f3⟩
    obtain ⟨w4, hw4⟩ : ∃ W, w3.alloc (.cells #[.int .i64 x.due, .int .i64 x.stamp, .int .u64 x.id.hi, .int .u64 x.id.lo] 113) = W := ⟨_, rfl⟩
    have F34 := Lib.hid (show Fr (fun _ => False) w9 w4 from by rw [← hw4]; exact f3.alloc _)
    have O4 := Lib.hid (O9.out.fr F34.out)
    have HS4 := Lib.hid (HS9.out.fr F34.out (fun _ h => h.elim))
    have Bx := Lib.hid (show w4.heap[w3.heap.size]? = some (.cells x.cells.toArray 113 (0, 0)) from by rw [← hw4]; exact heap_alloc_new w3 _)
    have LX := Lib.hid (show lab w3.heap.size = 0 from HS9.out.free f3.size)
    have F44 := Lib.hid (F29.out.then_ F34.out (fun _ h => h.elim))
    have HZxk := Lib.hid (show ¬ w2.heap.size = w3.heap.size from fun e => by have h1 := blk_lt O9.out.bk; have h2 := f3.size; omega)
    have HZx := Lib.hid (show w.heap.size ≤ w3.heap.size from Nat.le_trans F29.out.size f3.size)
    clear f3 lk k32 s09
    go_upto_region 9 with fail
    (try rw [hw4])
    clear hw4
    obtain ⟨bb, hbb⟩ : ∃ b, (dueB k && (r.ends k.move.stamp).isSome) = b := ⟨_, rfl⟩
    have HBb := Lib.hid hbb
    clear hbb
    have hZk : w2.heap.size < w4.heap.size := blk_lt O4.out.bk
    have HZk := Lib.hid hZk
    clear hZk
    go_cut [10, 50] from 37 (fun v10 v50 w' => v10 = .bool db ∧ v50 = .bool bb ∧ ∃ lab', Sta w' lab' d (if bb then { r with ends := upd r.ends k.move.stamp none } else r) es big ∧ Stp w.heap.size w lab w' lab' ∧ EOwn w' lab' d id k w.heap.size (w.heap.size + 1) w2.heap.size ∧ w'.heap[w3.heap.size]? = some (.cells x.cells.toArray 113 (0, 0)) ∧ lab' w3.heap.size = 0)
    case first =>
      cases db
      · have hb0 : bb = false := by rw [← HBb.out, HDb.out]; rfl
        have HB0 := Lib.hid hb0
        clear hb0
        go_quiet (fail)
        go_wp2_with fail
        go_meet
        have h := HB0.out
        subst h
        exact ⟨rfl, rfl, lab, HS4.out.fr ((Fr.refl (fun _ => False) _).drewN _) (fun _ h => h.elim), (Stp.of (Nat.le_refl _) F44.out).fr_ ((Fr.refl _ _).drewN _), O4.out.fr ((Fr.refl _ _).drewN _), Bx.out, LX.out⟩
      · have hb1 : (r.ends x.stamp).isSome = bb := by rw [← HBb.out, HDb.out, HXs.out]; rfl
        have hdr := ensDropS w4.drew lab d r es big x.stamp HS4.out.drew (by omega)
        rw [hb1] at hdr
        have HDr := Lib.hid hdr
        have HB1 := Lib.hid hb1
        have s0 := blk_cell O4.out.b0 0 rfl
        have x1 : w4.cell? ⟨w3.heap.size, 1, none⟩ = some (Value.int .i64 x.stamp) := blk_cell Bx.out 1 rfl
        clear hb1 hdr
        go_region_held3 (fun w' => w'.cell? ⟨w.heap.size, 0, none⟩ = some (Value.pointer (some ⟨d.B, 0, none⟩)) ∧ w'.cell? ⟨w3.heap.size, 1, none⟩ = some (Value.int .i64 x.stamp))
          (first | exact ⟨s0, x1⟩ | exact ⟨q0, q1⟩ | go_keep)
          (first | (go_at_call 70; go_must (with_reducible refine HDr.out.mono ?_); rintro e w5 ⟨rfl, lab5, h5, p5⟩; have o5 := (O4.out.fr (Fr.refl _ w4).drew).stp p5 (p5.lx _ HZk.out); have bx5 := (p5.blk (blk_drew Bx.out) (.inl LX.out)).1; have q0 := blk_cell o5.b0 0 rfl; have q1 : w5.cell? ⟨w3.heap.size, 1, none⟩ = some (Value.int .i64 x.stamp) := blk_cell bx5 1 rfl; have H5 := Lib.hid h5; have P5 := Lib.hid p5; have O5 := Lib.hid o5; have Bx5 := Lib.hid bx5; have LX5 := Lib.hid (show lab5 w3.heap.size = 0 from by rw [p5.lx _ (blk_lt Bx.out), LX.out]); clear h5 p5 o5 bx5))
        go_wp2_with fail
        go_meet
        refine ⟨rfl, rfl, lab5, ?_, ((Stp.of (Nat.le_refl _) F44.out).fr_ (Fr.refl _ _).drew).then_ P5.out F44.out.size HS4.out.lt, O5.out, Bx5.out, LX5.out⟩
        have h5 := H5.out
        rw [HXs.out] at h5
        cases hbc : bb with
        | true => exact h5
        | false =>
          have hn : r.ends k.move.stamp = none := by have := HB1.out; rw [hbc, HXs.out] at this; cases hy : r.ends k.move.stamp with | none => rfl | some v => rw [hy] at this; cases this
          have e1 : upd r.ends k.move.stamp none = r.ends := by
            funext t
            by_cases e : t = k.move.stamp
            · rw [e, upd_self, hn]
            · rw [upd_ne _ _ e]
          rw [e1] at h5
          exact h5
    case rest =>
    obtain ⟨rfl, rfl, lab5, h5, p5, o5, bx5, lx5⟩ := hcut
    obtain ⟨w5, hw5⟩ : ∃ W, W = wc := ⟨_, rfl⟩
    subst hw5
    have H5 := Lib.hid h5
    have P5 := Lib.hid p5
    have O5 := Lib.hid o5
    have Bx5 := Lib.hid bx5
    have LX5 := Lib.hid lx5
    have HZ5 := Lib.hid (show w2.heap.size < w5.heap.size from blk_lt o5.bk)
    clear h5 p5 o5 bx5 lx5
    go_upto_if 50 with fail
    go_cut [] from 37 (fun w' => ∃ lab' r2 es2, EndM r es k r2 es2 ∧ Sta w' lab' d r2 es2 (big + 1) ∧ Stp w.heap.size w lab w' lab' ∧ EOwn w' lab' d id k w.heap.size (w.heap.size + 1) w2.heap.size)
    case first =>
      cases bb
      · go_wp2_with fail
        go_meet
        refine ⟨lab5, r, es, .no ?_, H5.out.more (Nat.le_succ _), P5.out, O5.out⟩
        have h := HBb.out
        cases hd : dueB k
        · exact .inl rfl
        · rw [hd] at h
          right
          cases hy : r.ends k.move.stamp with
          | none => rfl
          | some v => rw [hy] at h; cases h
      · have hbt := HBb.out
        rw [Bool.and_eq_true] at hbt
        have HBt := Lib.hid hbt
        have HK2 := Lib.hid (show Calls Tryd.prog 58 #[.pointer (some ⟨d.B, 0, none⟩), .func (.func 88) #[] #[.pointer (some ⟨w.heap.size, 0, none⟩), .pointer (some ⟨w3.heap.size, 0, none⟩)]] w5 _ from keepS2 _ lab5 d _ _ _ w.heap.size (.enPut w.heap.size w3.heap.size x) H5.out ⟨O5.out.b0, Bx5.out⟩ (fun k hk => by
          rcases hk with rfl | rfl
          · exact ⟨Nat.le_refl _, blk_lt O5.out.b0, O5.out.l0⟩
          · exact ⟨HZx.out, blk_lt Bx5.out, .inl LX5.out⟩) P5.out.fr.size (by omega))
        have s0 := blk_cell O5.out.b0 0 rfl
        clear hbt
        go_wp2_with fail
        refine HK2.out.mono ?_
        rintro e w6 ⟨rfl, lab6, h6, p6, l6⟩
        have o6 := O5.out.stp p6 (l6 _ HZ5.out (fun hk => by
          rcases hk with hk | hk
          · have := HZ2.out; omega
          · exact HZxk.out hk))
        have H6 := Lib.hid h6
        have P6 := Lib.hid p6
        have O6 := Lib.hid o6
        clear h6 p6 o6 l6
        go_wp2_with fail
        go_meet
        have hx := HX.out
        subst hx
        exact ⟨lab6, _, _, .yes HBt.out.1 HBt.out.2 _ _, H6.out, P5.out.then_ P6.out (Nat.le_refl _) H5.out.lt, O6.out⟩
    case rest =>
    obtain ⟨lab6, r2, es2, hm, h6, p6, o6⟩ := hcut
    obtain ⟨w6, hw6⟩ : ∃ W, W = wc := ⟨_, rfl⟩
    subst hw6
    have H6 := Lib.hid h6
    have P6 := Lib.hid p6
    have O6 := Lib.hid o6
    have HM := Lib.hid hm
    have HGet := Lib.hid (show Calls Tryd.prog 55 #[.pointer (some ⟨d.N, 0, none⟩), .agg #[.int .u64 id.hi, .int .u64 id.lo]] w6.drew fun e w' => e = .returned (.tuple #[.int .i64 i, .bool true]) ∧ Fr (fun _ => False) w6.drew w' from by have h := nmGetS w6.drew lab6 d r2 es2 _ id h6.drew; rw [hm.same.1, HI.out.1] at h; exact h)
    clear h6 p6 o6 hm
    go_upto_region 11 with fail
    go_cut [11, 12] from 37 (fun v11 v12 w' => v11 = .int .i64 i ∧ v12 = .bool true ∧ Fr (fun _ => False) w6 w')
    case first =>
      have s0 := blk_cell O6.out.b0 0 rfl
      have c4 := H6.out.cells.2.2.2.1
      have lm := ld_nm (P := Tryd.prog) (W := w6.drew) (blk_cell O6.out.bn 0 rfl) (blk_cell O6.out.bn 1 rfl)
      go_region_held3 (fun w' => w'.cell? ⟨w.heap.size, 0, none⟩ = some (Value.pointer (some ⟨d.B, 0, none⟩)) ∧ w'.cell? ⟨d.B, 4, none⟩ = some (Value.pointer (some ⟨d.N, 0, none⟩)) ∧ (loadCells ⟨w.heap.size + 1, 0, none⟩ 2).run Tryd.prog w' = .ok #[.int .u64 id.hi, .int .u64 id.lo] w')
        (first | exact ⟨s0, c4, lm⟩ | exact ⟨q0, q4, qm⟩ | go_keep)
        (first | (go_at_call 55; go_must (with_reducible refine HGet.out.mono ?_); rintro e w7 ⟨rfl, f7⟩; have o7 := (O6.out.fr (Fr.refl _ w6).drew).fr f7; have q0 := blk_cell o7.b0 0 rfl; have q4 := (H6.out.drew.fr f7 (fun _ h => h.elim)).cells.2.2.2.1; have qm := ld_nm (P := Tryd.prog) (W := w7) (blk_cell o7.bn 0 rfl) (blk_cell o7.bn 1 rfl); have F7 := Lib.hid f7; clear f7 o7))
      go_wp2_with fail
      go_meet
      exact ⟨rfl, rfl, (Fr.refl _ _).drew.then_ F7.out (fun _ h => h.elim)⟩
    case rest =>
    obtain ⟨rfl, rfl, f7⟩ := hcut
    obtain ⟨w7, hw7⟩ : ∃ W, W = wc := ⟨_, rfl⟩
    subst hw7
    have H7 := Lib.hid (H6.out.fr f7 (fun _ h => h.elim))
    have O7 := Lib.hid (O6.out.fr f7)
    have P7 := Lib.hid (P6.out.fr_ f7)
    clear f7
    obtain ⟨k2, hk2⟩ : ∃ x : Kp, { k with fate := fate } = x := ⟨_, rfl⟩
    have HK2 := Lib.hid hk2
    go_upto_region 12 with fail
    go_cut [] from 37 (fun w' => w'.heap[w2.heap.size]? = some (.cells k2.cells.toArray 63 (0, 0)) ∧ Fr (fun k => k = w2.heap.size) w7 w')
    case first =>
      have k32 : w7.cell? ⟨w2.heap.size, 32, none⟩ = some (.int .i64 k.fate) := blk_cell O7.out.bk 32 rfl
      have z32 := blk_free O7.out.bk 32
      clear hk2
      go_wp2_with fail
      go_meet
      rw [← HK2.out]
      exact ⟨blk_set O7.out.bk 32 (.int .i64 fate), (Fr.refl (fun k => k = w2.heap.size) w7).set1 _⟩
    case rest =>
    obtain ⟨bk8, f8⟩ := hcut
    obtain ⟨w8, hw8⟩ : ∃ W, W = wc := ⟨_, rfl⟩
    subst hw8
    have H8 := Lib.hid (H7.out.fr f8 (fun k hk => by rw [hk]; exact O7.out.lk))
    have B80 := Lib.hid (f8.blk O7.out.b0 (fun e => by have := HZ2.out; omega))
    have P8 := Lib.hid (P7.out.frs f8 (fun k hk => by have := HZ2.out; omega))
    have Bk8 := Lib.hid bk8
    have LK8 := Lib.hid O7.out.lk
    have HSet := Lib.hid (kepSetS w8.drew lab6 d r2 es2 _ i k2 k H8.out.drew (by rw [HM.out.same.2]; exact HI.out.2) (by omega) (by rw [HM.out.same.2]; exact HLen.out))
    have L08 := Lib.hid O7.out.l0
    have s0 := blk_cell B80.out 0 rfl
    have c2 := H8.out.cells.2.1
    have lk := ld_row (P := Tryd.prog) (W := w8.drew) w2.heap.size k2.cells.toArray (n := 33) rfl (blk_drew bk8)
    clear f8 bk8 hk2
    go_upto_region 13 with fail
    go_region_held3 (fun w' => w'.cell? ⟨w.heap.size, 0, none⟩ = some (Value.pointer (some ⟨d.B, 0, none⟩)) ∧ w'.cell? ⟨d.B, 2, none⟩ = some (Value.pointer (some ⟨d.K, 0, none⟩)) ∧ (loadCells ⟨w2.heap.size, 0, none⟩ 33).run Tryd.prog w' = .ok k2.cells.toArray w')
      (first | exact ⟨s0, c2, lk⟩ | exact ⟨q0, q2, qk⟩ | go_keep)
      (first | (go_at_call 89; go_must (with_reducible refine HSet.out.mono ?_); rintro e w10 ⟨rfl, lab10, b0, b1, b2, h10, p10⟩; have q0 := blk_cell (p10.blk (blk_drew B80.out) L08.out).1 0 rfl; have q2 := h10.cells.2.1; have qk := ld_row (P := Tryd.prog) (W := w10) w2.heap.size k2.cells.toArray (n := 33) rfl (p10.blk (blk_drew Bk8.out) (.inl LK8.out)).1; have H10 := Lib.hid h10; have P10 := Lib.hid p10; clear h10 p10))
    go_wp2_with fail
    go_ret
    have hk2 := HK2.out
    subst hk2
    exact ⟨0, lab10, _, _, rfl, HM.out.put HI.out.1 HI.out.2 HFt.out HGd.out b0 b1 b2, H10.out, (P8.out.fr_ (Fr.refl _ _).drew).then_ P10.out P8.out.fr.size H8.out.lt⟩
  · have hfn : (f == 1) = false := by simpa using hf1
    have HFn := Lib.hid hf1
    clear hf1
    go_wp2_with fail
    go_ret
    exact ⟨5, lab, r, es, rfl, .none (fun k' hk' => by rw [HK.out] at hk'; cases hk'; rw [HFt.out]; exact HFn.out), HS9.out.more (by omega), .of (Nat.le_refl _) F29.out⟩
end Go.Proofs.YtjchjpmgbmeohaaDoor

/- Books: Turn. -/
set_option linter.unusedSimpArgs false
set_option linter.unusedVariables false
namespace Go.Proofs.YtjchjpmgbmeohaaDoor
open Go.RowKit

/-- What Turn makes of a state. -/
inductive TurnR (r : Raw) (es : List Ent) (a : Acc) : Int → Raw → List Ent → Prop
  | none (h : acctR r a.id = none) : TurnR r es a 5 r es
  | done (i : Nat) (old : Acc) (hi : r.ids a.id = some (i : Int)) (h : r.accs[i]? = some old) (b0 b1 b2 : Nat) : TurnR r es a 0 { r with accs := r.accs.set i { a with stamp := old.stamp } } (.accPut b0 b1 b2 i old :: es)
def TurnPost (w : World) (lab : Nat → Nat) (d : Dd) (r : Raw) (es : List Ent) (big : Nat) (a : Acc) (e : Ending) (w' : World) : Prop :=
  ∃ c lab' r' es', e = .returned (.int .i64 c) ∧ TurnR r es a c r' es' ∧ Sta w' lab' d r' es' (big + 1) ∧ Stp w.heap.size w lab w' lab'
theorem acctR_some {r : Raw} {id : Nm} {old : Acc} (h : acctR r id = some old) : ∃ i : Nat, r.ids id = some (i : Int) ∧ r.accs[i]? = some old := by
  unfold acctR at h
  cases hx : r.ids id with
  | none => rw [hx] at h; cases h
  | some z =>
    rw [hx] at h
    have h : atZ r.accs z = some old := h
    unfold atZ at h
    split at h
    · cases h
    · exact ⟨z.toNat, by rw [Int.toNat_of_nonneg (by omega)], h⟩
attribute [-go_sem] loadCells
set_option maxRecDepth 4000 in
set_option maxHeartbeats 6400000 in
theorem turnS (w : World) (lab : Nat → Nat) (d : Dd) (r : Raw) (es : List Ent) (big : Nat) (a : Acc) (h : Sta w lab d r es big) (hb : big ≤ 80000) (hlen : r.accs.length ≤ 100000) :
    Calls Tryd.prog 40 #[.pointer (some ⟨d.B, 0, none⟩), .agg #[.int .u64 a.id.hi, .int .u64 a.id.lo, .int .u64 a.dp.hi, .int .u64 a.dp.lo, .int .u64 a.dq.hi, .int .u64 a.dq.lo, .int .u64 a.cp.hi, .int .u64 a.cp.lo, .int .u64 a.cq.hi, .int .u64 a.cq.lo, .int .i64 a.ledger, .int .i64 a.code, .int .i64 a.flags, .int .i64 a.stamp]] w (TurnPost w lab d r es big a) := by
  have HS := Lib.hid (h.alloc (.cells #[.int .u64 a.id.hi, .int .u64 a.id.lo, .int .u64 a.dp.hi, .int .u64 a.dp.lo, .int .u64 a.dq.hi, .int .u64 a.dq.lo, .int .u64 a.cp.hi, .int .u64 a.cp.lo, .int .u64 a.cq.hi, .int .u64 a.cq.lo, .int .i64 a.ledger, .int .i64 a.code, .int .i64 a.flags, .int .i64 a.stamp] 26))
  have B0 := Lib.hid (heap_alloc_new w (.cells #[.int .u64 a.id.hi, .int .u64 a.id.lo, .int .u64 a.dp.hi, .int .u64 a.dp.lo, .int .u64 a.dq.hi, .int .u64 a.dq.lo, .int .u64 a.cp.hi, .int .u64 a.cp.lo, .int .u64 a.cq.hi, .int .u64 a.cq.lo, .int .i64 a.ledger, .int .i64 a.code, .int .i64 a.flags, .int .i64 a.stamp] 26))
  have F0 := Lib.hid ((Fr.refl (fun _ => False) w).alloc (.cells #[.int .u64 a.id.hi, .int .u64 a.id.lo, .int .u64 a.dp.hi, .int .u64 a.dp.lo, .int .u64 a.dq.hi, .int .u64 a.dq.lo, .int .u64 a.cp.hi, .int .u64 a.cp.lo, .int .u64 a.cq.hi, .int .u64 a.cq.lo, .int .i64 a.ledger, .int .i64 a.code, .int .i64 a.flags, .int .i64 a.stamp] 26))
  have L0 := Lib.hid (h.free (Nat.le_refl _))
  have hac := acctS (w.alloc (.cells #[.int .u64 a.id.hi, .int .u64 a.id.lo, .int .u64 a.dp.hi, .int .u64 a.dp.lo, .int .u64 a.dq.hi, .int .u64 a.dq.lo, .int .u64 a.cp.hi, .int .u64 a.cp.lo, .int .u64 a.cq.hi, .int .u64 a.cq.lo, .int .i64 a.ledger, .int .i64 a.code, .int .i64 a.flags, .int .i64 a.stamp] 26)) lab d r es big a.id HS.out (by omega)
  obtain ⟨O, hO⟩ : ∃ O, ((acctR r a.id).getD Acc.zero).cells.toArray = O := ⟨_, rfl⟩
  have hOs : O.size = 14 := by rw [← hO]; rfl
  have HOo := Lib.hid (show O.all (·.oneCell') = true from by rw [← hO]; simp [Acc.cells, Value.oneCell'])
  have HOe := Lib.hid hO
  obtain ⟨is, his⟩ : ∃ b, (acctR r a.id).isSome = b := ⟨_, rfl⟩
  have HIs := Lib.hid his
  rw [hO, his] at hac
  have HAc := Lib.hid hac
  have HLen := Lib.hid hlen
  have lm := ld_nm (P := Tryd.prog) (W := w.alloc (.cells #[.int .u64 a.id.hi, .int .u64 a.id.lo, .int .u64 a.dp.hi, .int .u64 a.dp.lo, .int .u64 a.dq.hi, .int .u64 a.dq.lo, .int .u64 a.cp.hi, .int .u64 a.cp.lo, .int .u64 a.cq.hi, .int .u64 a.cq.lo, .int .i64 a.ledger, .int .i64 a.code, .int .i64 a.flags, .int .i64 a.stamp] 26)) (blk_cell B0.out 0 rfl) (blk_cell B0.out 1 rfl)
  clear h hac hO his hlen
  go_enter Tryd.func40, Tryd.ntmps40
  go_wp2_with fail
  refine HAc.out.mono ?_
  rintro e w2 ⟨rfl, f2⟩
  have F2 := Lib.hid (F0.out.then_ f2 (fun _ h => h.elim))
  have HN := Lib.hid (heap_alloc_new w2 (.cells #[.int .u64 0, .int .u64 0, .int .u64 0, .int .u64 0, .int .u64 0, .int .u64 0, .int .u64 0, .int .u64 0, .int .u64 0, .int .u64 0, .int .i64 0, .int .i64 0, .int .i64 0, .int .i64 0] 26))
  have B2 := Lib.hid (f2.blk B0.out (fun h => h))
  have HZ2 := Lib.hid (show w.heap.size < w2.heap.size from blk_lt B2.out)
  have HSa := Lib.hid (HS.out.fr f2 (fun _ h => h.elim))
  clear f2 lm
  go_upto_region 2 with (first | ((refine wpList_store_row rfl 26 (.tmp 5) (.tmp 14) rfl w2.heap.size O rfl rfl HN.out (by rw [hOs]; rfl) (by rw [hOs]; rfl) HOo.out ?_); intro w9 hb9 f9; have HB9 := Lib.hid hb9; have F9 := Lib.hid f9; clear hb9 f9) | fail)
  have G9 := Lib.hid (show Fr (fun _ => False) w2 w9 from ((Fr.refl (fun _ => False) w2).alloc _).then_ F9.out (fun k hk => .inr (by omega)))
  have HS9 := Lib.hid (HSa.out.fr G9.out (fun _ h => h.elim))
  have B9 := Lib.hid (G9.out.blk B2.out (fun h => h))
  have F29 := Lib.hid (F2.out.then_ G9.out (fun _ h => h.elim))
  cases is
  · go_wp2_with fail
    go_ret
    exact ⟨5, lab, r, es, rfl, .none (by have := HIs.out; cases hx : acctR r a.id with | none => rfl | some v => rw [hx] at this; cases this), HS9.out.more (by omega), .of (Nat.le_refl _) F29.out⟩
  obtain ⟨old, hold⟩ : ∃ old, acctR r a.id = some old := Option.isSome_iff_exists.1 HIs.out
  obtain ⟨i, hi, hia⟩ := acctR_some hold
  have HOl := Lib.hid (show O = old.cells.toArray from by rw [← HOe.out, hold]; rfl)
  have HI := Lib.hid (And.intro hi hia)
  have HGet := Lib.hid (show Calls Tryd.prog 55 #[.pointer (some ⟨d.I, 0, none⟩), .agg #[.int .u64 a.id.hi, .int .u64 a.id.lo]] w9.drew fun e w' => e = .returned (.tuple #[.int .i64 i, .bool true]) ∧ Fr (fun _ => False) w9.drew w' from by have h := idGetS w9.drew lab d r es big a.id HS9.out.drew; rw [hi] at h; exact h)
  clear hold hi hia
  go_upto_region 6 with fail
  go_cut [7, 8] from 16 (fun v7 v8 w' => v7 = .int .i64 i ∧ v8 = .bool true ∧ Fr (fun _ => False) w9 w')
  case first =>
    have c3 := HS9.out.cells.2.2.1
    have lm := ld_nm (P := Tryd.prog) (W := w9.drew) (blk_cell B9.out 0 rfl) (blk_cell B9.out 1 rfl)
    go_region_held3 (fun w' => w'.cell? ⟨d.B, 3, none⟩ = some (Value.pointer (some ⟨d.I, 0, none⟩)) ∧ (loadCells ⟨w.heap.size, 0, none⟩ 2).run Tryd.prog w' = .ok #[.int .u64 a.id.hi, .int .u64 a.id.lo] w')
      (first | exact ⟨c3, lm⟩ | exact ⟨q3, qm⟩ | go_keep)
      (first | (go_at_call 55; go_must (with_reducible refine HGet.out.mono ?_); rintro e w3 ⟨rfl, f3⟩; have b3 := f3.blk (blk_drew B9.out) (fun h => h); have q3 := (HS9.out.drew.fr f3 (fun _ h => h.elim)).cells.2.2.1; have qm := ld_nm (P := Tryd.prog) (W := w3) (blk_cell b3 0 rfl) (blk_cell b3 1 rfl); have F3 := Lib.hid f3; clear f3 b3))
    go_wp2_with fail
    go_meet
    exact ⟨rfl, rfl, (Fr.refl _ _).drew.then_ F3.out (fun _ h => h.elim)⟩
  case rest =>
  obtain ⟨rfl, rfl, f4⟩ := hcut
  obtain ⟨w4, hw4⟩ : ∃ W, W = wc := ⟨_, rfl⟩
  subst hw4
  have HS4 := Lib.hid (HS9.out.fr f4 (fun _ h => h.elim))
  have B4 := Lib.hid (f4.blk B9.out (fun h => h))
  have O4 := Lib.hid (show w4.heap[w2.heap.size]? = some (.cells old.cells.toArray 26 (0, 0)) from by rw [← HOl.out]; exact f4.blk HB9.out (fun h => h))
  have F4 := Lib.hid (F29.out.then_ f4 (fun _ h => h.elim))
  clear f4
  go_upto_region 7 with fail
  go_cut [] from 16 (fun w' => w'.heap[w.heap.size]? = some (.cells ({ a with stamp := old.stamp } : Acc).cells.toArray 26 (0, 0)) ∧ Fr (fun k => k = w.heap.size) w4 w')
  case first =>
    have o13 : w4.cell? ⟨w2.heap.size, 13, none⟩ = some (.int .i64 old.stamp) := blk_cell O4.out 13 rfl
    have a13 := blk_cell B4.out 13 rfl
    have z13 := blk_free B4.out 13
    go_wp2_with fail
    go_meet
    exact ⟨blk_set B4.out 13 (.int .i64 old.stamp), (Fr.refl (fun k => k = w.heap.size) w4).set1 _⟩
  case rest =>
  obtain ⟨b5, f5⟩ := hcut
  obtain ⟨w5, hw5⟩ : ∃ W, W = wc := ⟨_, rfl⟩
  subst hw5
  have HS5 := Lib.hid (HS4.out.fr f5 (fun k hk => by rw [hk]; exact L0.out))
  have P5 := Lib.hid ((Stp.of (Nat.le_refl _) F4.out : Stp w.heap.size w lab w4 lab).frs f5 (fun k hk => by omega))
  obtain ⟨a1, ha1⟩ : ∃ x : Acc, { a with stamp := old.stamp } = x := ⟨_, rfl⟩
  rw [ha1] at b5
  have HA1 := Lib.hid ha1
  have B5 := Lib.hid b5
  have c1 := HS5.out.cells.1
  have lx := ld_row (P := Tryd.prog) (W := w5.drew) w.heap.size a1.cells.toArray (n := 14) rfl (blk_drew b5)
  have HSet := Lib.hid (accSetS w5.drew lab d r es big i a1 old HS5.out.drew HI.out.2 (by omega) HLen.out)
  clear b5 f5 ha1
  go_upto_region 8 with fail
  go_region_held3 (fun w' => w'.cell? ⟨d.B, 1, none⟩ = some (Value.pointer (some ⟨d.A, 0, none⟩)) ∧ (loadCells ⟨w.heap.size, 0, none⟩ 14).run Tryd.prog w' = .ok a1.cells.toArray w')
    (first | exact ⟨c1, lx⟩ | exact ⟨q1, qx⟩ | go_keep)
    (first | (go_at_call 87; go_must (with_reducible refine HSet.out.mono ?_); rintro e w6 ⟨rfl, lab6, b0, b1, b2, h6, p6⟩; have q1 := h6.cells.1; have qx := ld_row (P := Tryd.prog) (W := w6) w.heap.size a1.cells.toArray (n := 14) rfl (p6.blk (blk_drew B5.out) (.inl L0.out)).1; have H6 := Lib.hid h6; have P6 := Lib.hid p6; clear h6 p6))
  go_wp2_with fail
  go_ret
  have ha1 := HA1.out
  subst ha1
  exact ⟨0, lab6, _, _, rfl, .done i old HI.out.1 HI.out.2 b0 b1 b2, H6.out, (P5.out.fr_ (Fr.refl _ _).drew).then_ P6.out P5.out.fr.size HS5.out.lt⟩
end Go.Proofs.YtjchjpmgbmeohaaDoor

/- Books: Due. -/
set_option linter.unusedSimpArgs false
set_option linter.unusedVariables false
namespace Go.Proofs.YtjchjpmgbmeohaaDoor
open Go.RowKit

/-- The first transfer that has ended by itself. -/
def dueO (r : Raw) (x : Itm) (is : Bool) : Option Kp := if (is && decide (x.due ≤ r.clock)) = true then keptR r x.id else none
set_option maxRecDepth 4000 in
set_option maxHeartbeats 6400000 in
theorem dueS (w : World) (lab : Nat → Nat) (d : Dd) (r : Raw) (es : List Ent) (big : Nat) (h : Sta w lab d r es big) (hb : big ≤ 90000) (hlen : r.kept.length ≤ 100000) : ∃ x is, FirstR r.ends x is ∧
    Calls Tryd.prog 33 #[.pointer (some ⟨d.B, 0, none⟩)] w fun e w' => e = .returned (.tuple #[.agg ((dueO r x is).getD Kp.zero).cells.toArray, .bool (dueO r x is).isSome]) ∧ Fr (fun _ => False) w w' := by
  have HS := Lib.hid (h.alloc (.cells #[.int .u64 0, .int .u64 0, .int .u64 0, .int .u64 0, .int .u64 0, .int .u64 0, .int .u64 0, .int .u64 0, .int .u64 0, .int .u64 0, .int .i64 0, .int .i64 0, .int .i64 0, .int .i64 0, .int .i64 0, .int .i64 0, .int .u64 0, .int .u64 0, .int .u64 0, .int .u64 0, .int .u64 0, .int .u64 0, .int .u64 0, .int .u64 0, .int .u64 0, .int .u64 0, .int .i64 0, .int .i64 0, .int .i64 0, .int .i64 0, .int .i64 0, .int .i64 0, .int .i64 0] 63))
  have BZ := Lib.hid (heap_alloc_new w (.cells #[.int .u64 0, .int .u64 0, .int .u64 0, .int .u64 0, .int .u64 0, .int .u64 0, .int .u64 0, .int .u64 0, .int .u64 0, .int .u64 0, .int .i64 0, .int .i64 0, .int .i64 0, .int .i64 0, .int .i64 0, .int .i64 0, .int .u64 0, .int .u64 0, .int .u64 0, .int .u64 0, .int .u64 0, .int .u64 0, .int .u64 0, .int .u64 0, .int .u64 0, .int .u64 0, .int .i64 0, .int .i64 0, .int .i64 0, .int .i64 0, .int .i64 0, .int .i64 0, .int .i64 0] 63))
  have F0 := Lib.hid ((Fr.refl (fun _ => False) w).alloc (.cells #[.int .u64 0, .int .u64 0, .int .u64 0, .int .u64 0, .int .u64 0, .int .u64 0, .int .u64 0, .int .u64 0, .int .u64 0, .int .u64 0, .int .i64 0, .int .i64 0, .int .i64 0, .int .i64 0, .int .i64 0, .int .i64 0, .int .u64 0, .int .u64 0, .int .u64 0, .int .u64 0, .int .u64 0, .int .u64 0, .int .u64 0, .int .u64 0, .int .u64 0, .int .u64 0, .int .i64 0, .int .i64 0, .int .i64 0, .int .i64 0, .int .i64 0, .int .i64 0, .int .i64 0] 63))
  obtain ⟨x, is, hr, hc⟩ := ensFirstS (w.alloc (.cells #[.int .u64 0, .int .u64 0, .int .u64 0, .int .u64 0, .int .u64 0, .int .u64 0, .int .u64 0, .int .u64 0, .int .u64 0, .int .u64 0, .int .i64 0, .int .i64 0, .int .i64 0, .int .i64 0, .int .i64 0, .int .i64 0, .int .u64 0, .int .u64 0, .int .u64 0, .int .u64 0, .int .u64 0, .int .u64 0, .int .u64 0, .int .u64 0, .int .u64 0, .int .u64 0, .int .i64 0, .int .i64 0, .int .i64 0, .int .i64 0, .int .i64 0, .int .i64 0, .int .i64 0] 63)) lab d r es big HS.out hb
  refine ⟨x, is, hr, ?_⟩
  have HC := Lib.hid hc
  have HR := Lib.hid hr
  obtain ⟨c, hcl⟩ : ∃ c, r.clock = c := ⟨_, rfl⟩
  have HCl := Lib.hid hcl
  have HKp := Lib.hid (fun W (f : Fr (fun _ => False) (w.alloc (.cells #[.int .u64 0, .int .u64 0, .int .u64 0, .int .u64 0, .int .u64 0, .int .u64 0, .int .u64 0, .int .u64 0, .int .u64 0, .int .u64 0, .int .i64 0, .int .i64 0, .int .i64 0, .int .i64 0, .int .i64 0, .int .i64 0, .int .u64 0, .int .u64 0, .int .u64 0, .int .u64 0, .int .u64 0, .int .u64 0, .int .u64 0, .int .u64 0, .int .u64 0, .int .u64 0, .int .i64 0, .int .i64 0, .int .i64 0, .int .i64 0, .int .i64 0, .int .i64 0, .int .i64 0] 63)) W) => keptS W lab d r es big x.id (HS.out.fr f (fun _ h => h.elim)) (by omega))
  clear h hr hc hlen
  have fin : ∀ {w9 : World}, True → True := fun _ => trivial
  cases hq : (is && decide (x.due ≤ c))
  · have hn := Lib.hid (show dueO r x is = none from by unfold dueO; rw [hcl, hq]; rfl)
    clear hcl
    go_enter Tryd.func33, Tryd.ntmps33
    go_wp2_with fail
    refine HC.out.mono ?_
    rintro e w2 ⟨rfl, f2⟩
    have F2 := Lib.hid f2
    have B2 := Lib.hid (blk_alloc (f2.blk BZ.out (fun h => h)) (.cells #[.int .i64 x.due, .int .i64 x.stamp, .int .u64 x.id.hi, .int .u64 x.id.lo] 113))
    have G2 := Lib.hid ((F0.out.then_ f2 (fun _ h => h.elim)).alloc (.cells #[.int .i64 x.due, .int .i64 x.stamp, .int .u64 x.id.hi, .int .u64 x.id.lo] 113))
    have x0 := blk_cell (heap_alloc_new w2 (.cells #[.int .i64 x.due, .int .i64 x.stamp, .int .u64 x.id.hi, .int .u64 x.id.lo] 113)) 0 rfl
    have c7 := (HS.out.fr (f2.alloc (.cells #[.int .i64 x.due, .int .i64 x.stamp, .int .u64 x.id.hi, .int .u64 x.id.lo] 113)) (fun _ h => h.elim)).cells.2.2.2.2.1
    rw [HCl.out] at c7
    clear f2
    go_upto_region 4 with fail
    go_cut [25] from 16 (fun v25 w' => v25 = .bool false ∧ Fr (fun _ => False) (w2.alloc (.cells #[.int .i64 x.due, .int .i64 x.stamp, .int .u64 x.id.hi, .int .u64 x.id.lo] 113)) w')
    case first =>
      cases is
      · go_quiet (fail)
        go_wp2_with fail
        go_meet
        exact ⟨rfl, (Fr.refl _ _).drewN _⟩
      · have g : ¬ x.due ≤ c := by simpa using hq
        clear hq
        go_quiet (fail)
        go_wp2_with fail
        go_meet
        exact ⟨by first | rfl | simp [g], (Fr.refl _ _).drewN _⟩
    case rest =>
    obtain ⟨rfl, f3⟩ := hcut
    have B3 := Lib.hid (f3.blk B2.out (fun h => h))
    have G3 := Lib.hid (G2.out.then_ f3 (fun _ h => h.elim))
    clear f3
    go_wp2_with (first | ((refine wpList_store_row rfl 63 (.tmp 2) (.tmp 32) rfl w.heap.size #[.int .u64 0, .int .u64 0, .int .u64 0, .int .u64 0, .int .u64 0, .int .u64 0, .int .u64 0, .int .u64 0, .int .u64 0, .int .u64 0, .int .i64 0, .int .i64 0, .int .i64 0, .int .i64 0, .int .i64 0, .int .i64 0, .int .u64 0, .int .u64 0, .int .u64 0, .int .u64 0, .int .u64 0, .int .u64 0, .int .u64 0, .int .u64 0, .int .u64 0, .int .u64 0, .int .i64 0, .int .i64 0, .int .i64 0, .int .i64 0, .int .i64 0, .int .i64 0, .int .i64 0] rfl rfl B3.out rfl rfl (by simp [Value.oneCell']) ?_); intro w9 hb9 f9; have HB9 := Lib.hid hb9; have F9 := Lib.hid f9; clear hb9 f9) | fail)
    refine bodyPost_ret (results_cell2 (p := 2) (q := 3) rfl _ _ w.heap.size 63 _ (0, 0) _ rfl HB9.out Tryd.underlying63 rfl rfl) rfl ?_
    exact ⟨by rw [hn.out]; rfl, G3.out.then_ F9.out (fun k hk => .inr (by omega))⟩
  · have hn := Lib.hid (show dueO r x is = keptR r x.id from by unfold dueO; rw [hcl, hq]; rfl)
    obtain ⟨rfl, g0⟩ : is = true ∧ x.due ≤ c := by simpa using hq
    obtain ⟨O, hO⟩ : ∃ O, ((keptR r x.id).getD Kp.zero).cells.toArray = O := ⟨_, rfl⟩
    have hOs : O.size = 33 := by rw [← hO]; rfl
    have HOo := Lib.hid (show O.all (·.oneCell') = true from by rw [← hO]; simp [Kp.cells, Tx.cells, Value.oneCell'])
    obtain ⟨bs, hbs⟩ : ∃ b, (keptR r x.id).isSome = b := ⟨_, rfl⟩
    rw [hn.out, hO, hbs]
    rw [hO, hbs] at HKp
    clear hcl hO hbs hq
    go_enter Tryd.func33, Tryd.ntmps33
    go_wp2_with fail
    refine HC.out.mono ?_
    rintro e w2 ⟨rfl, f2⟩
    have B2 := Lib.hid (blk_alloc (f2.blk BZ.out (fun h => h)) (.cells #[.int .i64 x.due, .int .i64 x.stamp, .int .u64 x.id.hi, .int .u64 x.id.lo] 113))
    have F2 := Lib.hid (f2.alloc (.cells #[.int .i64 x.due, .int .i64 x.stamp, .int .u64 x.id.hi, .int .u64 x.id.lo] 113))
    have BX := Lib.hid (heap_alloc_new w2 (.cells #[.int .i64 x.due, .int .i64 x.stamp, .int .u64 x.id.hi, .int .u64 x.id.lo] 113))
    have x0 := blk_cell BX.out 0 rfl
    have c7 := (HS.out.fr F2.out (fun _ h => h.elim)).cells.2.2.2.2.1
    rw [HCl.out] at c7
    clear f2
    go_upto_region 4 with fail
    go_cut [25] from 16 (fun v25 w' => v25 = .bool true ∧ Fr (fun _ => False) (w2.alloc (.cells #[.int .i64 x.due, .int .i64 x.stamp, .int .u64 x.id.hi, .int .u64 x.id.lo] 113)) w')
    case first =>
      go_quiet (fail)
      go_wp2_with fail
      go_meet
      exact ⟨by first | rfl | simp [g0], (Fr.refl _ _).drewN _⟩
    case rest =>
    obtain ⟨rfl, f3⟩ := hcut
    have B3 := Lib.hid (f3.blk B2.out (fun h => h))
    have G3 := Lib.hid (F2.out.then_ f3 (fun _ h => h.elim))
    have bx := f3.blk BX.out (fun h => h)
    have x2 := blk_cell bx 2 rfl
    have x3 := blk_cell bx 3 rfl
    clear f3 bx
    go_wp2_with fail
    refine (HKp.out _ G3.out).mono ?_
    rintro e w4 ⟨rfl, f4⟩
    have B4 := Lib.hid (f4.blk B3.out (fun h => h))
    have G4 := Lib.hid ((F0.out.then_ G3.out (fun _ h => h.elim)).then_ f4 (fun _ h => h.elim))
    clear f4
    go_wp2_with (first | ((refine wpList_store_row rfl 63 (.tmp 2) (.tmp 30) rfl w.heap.size O rfl rfl B4.out (by rw [hOs]; rfl) (by rw [hOs]; rfl) HOo.out ?_); intro w9 hb9 f9; have HB9 := Lib.hid hb9; have F9 := Lib.hid f9; clear hb9 f9) | fail)
    refine bodyPost_ret (results_cell2 (p := 2) (q := 3) rfl _ _ w.heap.size 63 _ (0, 0) _ rfl HB9.out Tryd.underlying63 rfl (by rw [hOs]; rfl)) rfl ?_
    exact ⟨rfl, G4.out.then_ F9.out (fun k hk => .inr (by omega))⟩
end Go.Proofs.YtjchjpmgbmeohaaDoor

/- Books, plain: what every state is; each step keeps it, and its log takes it back. No program in sight. -/
set_option linter.unusedSimpArgs false
set_option linter.unusedVariables false
namespace Go.Proofs.YtjchjpmgbmeohaaDoor
open Go.RowKit

/-- Where things that have names stand. -/
def IxR {α β : Type} (xs : List α) (f : α → β) (g : β → Option Int) : Prop := ∀ (y : β) (i : Int), g y = some i ↔ ∃ (k : Nat) (x : α), i = k ∧ xs[k]? = some x ∧ f x = y
section
variable {α β : Type} {xs : List α} {f : α → β} {g : β → Option Int}
theorem ixr_none (h : IxR xs f g) (y : β) : g y = none ↔ ∀ x ∈ xs, f x ≠ y := by
  constructor
  · intro hn x hx e
    obtain ⟨k, hk, rfl⟩ := List.getElem_of_mem hx
    have := (h y k).2 ⟨k, _, rfl, List.getElem?_eq_getElem hk, e⟩
    rw [hn] at this
    cases this
  · intro hn
    cases hx : g y with
    | none => rfl
    | some i =>
      obtain ⟨k, x, -, h2, h3⟩ := (h y i).1 hx
      exact absurd h3 (hn x (List.mem_of_getElem? h2))
theorem ixr_inj (h : IxR xs f g) {k j : Nat} {x y : α} (hk : xs[k]? = some x) (hj : xs[j]? = some y) (e : f x = f y) : k = j := by
  have h1 := (h (f x) k).2 ⟨k, x, rfl, hk, rfl⟩
  have h2 := (h (f x) j).2 ⟨j, y, rfl, hj, e.symm⟩
  rw [h1] at h2
  have := Option.some.inj h2
  omega
theorem ixr_push (h : IxR xs f g) {x : α} (hn : g (f x) = none) : IxR (xs ++ [x]) f (upd g (f x) (some (xs.length : Int))) := by
  intro y i
  have hno := (ixr_none h (f x)).1 hn
  by_cases e : y = f x
  · subst e
    rw [upd_self]
    constructor
    · intro hi
      obtain rfl : (xs.length : Int) = i := Option.some.inj hi
      exact ⟨xs.length, x, rfl, by simp, rfl⟩
    · rintro ⟨k, z, rfl, h2, h3⟩
      by_cases hk : k < xs.length
      · rw [List.getElem?_append_left hk] at h2
        exact absurd h3 (hno z (List.mem_of_getElem? h2))
      · have := (List.getElem?_eq_some_iff.1 h2).1
        rw [List.length_append, List.length_singleton] at this
        rw [show k = xs.length by omega]
  · rw [upd_ne _ _ e, h]
    constructor
    · rintro ⟨k, z, rfl, h2, h3⟩
      exact ⟨k, z, rfl, by rw [List.getElem?_append_left (List.getElem?_eq_some_iff.1 h2).1]; exact h2, h3⟩
    · rintro ⟨k, z, rfl, h2, h3⟩
      by_cases hk : k < xs.length
      · exact ⟨k, z, rfl, by rwa [List.getElem?_append_left hk] at h2, h3⟩
      · have := (List.getElem?_eq_some_iff.1 h2).1
        rw [List.length_append, List.length_singleton] at this
        obtain rfl : k = xs.length := by omega
        rw [List.getElem?_append_right (Nat.le_refl _)] at h2
        simp at h2
        subst h2
        exact absurd h3.symm e
theorem ixr_set (h : IxR xs f g) {k : Nat} {x old : α} (hk : xs[k]? = some old) (e : f x = f old) : IxR (xs.set k x) f g := by
  intro y i
  have hkl := (List.getElem?_eq_some_iff.1 hk).1
  rw [h]
  constructor
  · rintro ⟨j, z, rfl, h2, h3⟩
    by_cases hj : j = k
    · subst hj
      rw [hk] at h2
      cases h2
      exact ⟨j, x, rfl, by rw [List.getElem?_set_self hkl], by rw [e, h3]⟩
    · exact ⟨j, z, rfl, by rw [List.getElem?_set_ne (fun e => hj e.symm)]; exact h2, h3⟩
  · rintro ⟨j, z, rfl, h2, h3⟩
    by_cases hj : j = k
    · subst hj
      rw [List.getElem?_set_self hkl] at h2
      cases h2
      exact ⟨j, old, rfl, hk, by rw [← e, h3]⟩
    · rw [List.getElem?_set_ne (fun e => hj e.symm)] at h2
      exact ⟨j, z, rfl, h2, h3⟩
end
def EndsR (ks : List Kp) (f : Int → Option Itm) : Prop := ∀ s x, f s = some x ↔ ∃ m ∈ ks, m.move.stamp = s ∧ dueB m = true ∧ x = m.itm
/-- What every state is that calls have made. -/
structure Good (r : Raw) : Prop where
  na : r.accs.length ≤ 32
  nk : r.kept.length ≤ 96
  ids : IxR r.accs (fun a => a.id) r.ids
  nms : IxR r.kept (fun k => k.move.id) r.nms
  sts : IxR r.kept (fun k => k.move.stamp) r.sts
  ends : EndsR r.kept r.ends
  top : ∀ m ∈ r.kept, m.move.stamp ≤ r.stamp
  s0 : 0 ≤ r.stamp
  s1 : r.stamp ≤ 1099511627776 + r.accs.length + r.kept.length
  ris : r.kept.Pairwise (fun a b => a.move.stamp < b.move.stamp)
  lim : (∀ m ∈ r.kept, 0 ≤ m.fate ∧ m.fate ≤ 4) ∧ (0 ≤ r.clock ∧ r.clock ≤ 1099511627776) ∧ r.stamp = r.accs.length + r.kept.length
/-- What the log of one step takes back. -/
def Backs (r : Raw) (es : List Ent) (r' : Raw) (es' : List Ent) : Prop := ∃ news, es' = news ++ es ∧ FitsN r' news ∧ undoAll r' news = r
theorem Backs.refl (r : Raw) (es : List Ent) : Backs r es r es := ⟨[], rfl, trivial, rfl⟩
theorem Backs.trans {r r1 r2 : Raw} {es es1 es2 : List Ent} (h : Backs r es r1 es1) (k : Backs r1 es1 r2 es2) : Backs r es r2 es2 := by
  obtain ⟨n1, rfl, f1, u1⟩ := h
  obtain ⟨n2, rfl, f2, u2⟩ := k
  exact ⟨n2 ++ n1, by simp, FitsN.append.2 ⟨f2, by rw [u2]; exact f1⟩, by rw [undoAll_append, u2, u1]⟩
theorem good_empty : Good Raw.empty where
  na := by simp [Raw.empty]
  nk := by simp [Raw.empty]
  ids := fun y i => by simp [Raw.empty]
  nms := fun y i => by simp [Raw.empty]
  sts := fun y i => by simp [Raw.empty]
  ends := fun s x => by simp [Raw.empty]
  top := fun m hm => by simp [Raw.empty] at hm
  s0 := by simp [Raw.empty]
  s1 := by simp [Raw.empty]
  ris := by simp [Raw.empty]
  lim := by simp [Raw.empty]
section
variable {r r' : Raw} {es es' : List Ent}
theorem Good.next (g : Good r) : r.ends (r.stamp + 1) = none ∧ r.sts (r.stamp + 1) = none := by
  constructor
  · cases hx : r.ends (r.stamp + 1) with
    | none => rfl
    | some x =>
      obtain ⟨m, hm, h1, -, -⟩ := (g.ends _ _).1 hx
      have := g.top m hm
      omega
  · rw [ixr_none g.sts]
    intro x hx e
    have := g.top x hx
    have e : x.move.stamp = r.stamp + 1 := e
    omega
theorem open_good {a : Acc} {c : Int} (g : Good r) (h : OpenR r es a c r' es') : Good r' ∧ Backs r es r' es' := by
  cases h with
  | full h => exact ⟨g, .refl _ _⟩
  | there h h2 => exact ⟨g, .refl _ _⟩
  | done h h2 b1 b2 b3 b4 b5 =>
    have h1 := g.s0
    have h3 := g.s1
    refine ⟨⟨by simp; omega, g.nk, ixr_push (x := { a with stamp := r.stamp + 1 }) g.ids h2, g.nms, g.sts, g.ends, fun m hm => by have := g.top m hm; show m.move.stamp ≤ r.stamp + 1; omega, by show 0 ≤ r.stamp + 1; omega, by simp; omega, g.ris, g.lim.1, g.lim.2.1, by have := g.lim.2.2; simp; omega⟩, [.accCut b1 b2 r.accs.length, .idDrop b3 b4 { a with stamp := r.stamp + 1 }, .stDec b5], rfl, ?_, ?_⟩
    · refine ⟨by simp [Ent.fits], trivial, ⟨?_, ?_⟩, trivial⟩
      · show 0 ≤ r.stamp + 1; omega
      · show r.stamp + 1 ≤ _; have := g.na; have := g.nk; omega
    · simp only [undoAll, List.foldl_cons, List.foldl_nil, Ent.undo]
      rw [upd_back _ _ _ h2, List.take_left' rfl]
      simp
theorem turn_good {a : Acc} {c : Int} (g : Good r) (h : TurnR r es a c r' es') : Good r' ∧ Backs r es r' es' := by
  cases h with
  | none h => exact ⟨g, .refl _ _⟩
  | done i old hi h b0 b1 b2 =>
    have hil := (List.getElem?_eq_some_iff.1 h).1
    have hid : old.id = a.id := by
      obtain ⟨k, x, e, h2, h3⟩ := (g.ids _ _).1 hi
      have : i = k := by omega
      subst this
      rw [h] at h2
      cases h2
      exact h3
    refine ⟨⟨by simpa using g.na, g.nk, ixr_set g.ids h (show a.id = old.id from hid.symm), g.nms, g.sts, g.ends, g.top, g.s0, by simpa using g.s1, g.ris, g.lim.1, g.lim.2.1, by simpa using g.lim.2.2⟩, [.accPut b0 b1 b2 i old], rfl, ⟨by simpa [Ent.fits] using hil, trivial⟩, ?_⟩
    simp only [undoAll, List.foldl_cons, List.foldl_nil, Ent.undo, List.set_set]
    rw [show r.accs.set i old = r.accs from by
      apply List.ext_getElem?
      intro j
      rw [List.getElem?_set]
      split
      · rename_i e; subst e; rw [h]
      · rfl]
theorem kept_back {ks : List Kp} {i : Nat} {k x : Kp} (h : ks[i]? = some k) : (ks.set i x).set i k = ks := by
  have hil := (List.getElem?_eq_some_iff.1 h).1
  rw [List.set_set]
  apply List.ext_getElem?
  intro j
  rw [List.getElem?_set]
  split
  · rename_i e; subst e; rw [h]
  · rfl
theorem keep_good {a m : Tx} {wt : Bool} {c : Int} (g : Good r) (h : KeepR r es a m wt c r' es') : Good r' ∧ Backs r es r' es' := by
  obtain ⟨hne, hns⟩ := g.next
  have hs0 := g.s0
  have hs1 := g.s1
  have hna := g.na
  have hnk := g.nk
  have hks : (kept1 a m wt (r.stamp + 1) r.clock).move.stamp = r.stamp + 1 := rfl
  have lims : ∀ k ∈ r.kept ++ [kept1 a m wt (r.stamp + 1) r.clock], 0 ≤ k.fate ∧ k.fate ≤ 4 := fun k hk => by
    rcases List.mem_append.1 hk with hk | hk
    · exact g.lim.1 k hk
    · rw [List.mem_singleton.1 hk]; unfold kept1; cases wt <;> simp
  cases h with
  | full h => exact ⟨g, .refl _ _⟩
  | there h h2 => exact ⟨g, .refl _ _⟩
  | rests h h2 hd b1 b2 b3 b4 b5 b6 =>
    refine ⟨⟨g.na, by simp; omega, g.ids, ixr_push (x := kept1 a m wt (r.stamp + 1) r.clock) g.nms h2, ixr_push (x := kept1 a m wt (r.stamp + 1) r.clock) g.sts hns, fun s x => ?_, fun k hk => ?_, by show 0 ≤ r.stamp + 1; omega, by simp; omega, List.pairwise_append.2 ⟨g.ris, List.pairwise_singleton .., fun x hx y hy => by rw [List.mem_singleton.1 hy, hks]; have := g.top x hx; omega⟩, lims, g.lim.2.1, by have := g.lim.2.2; simp; omega⟩, [.nmDrop b1 b2 b3 m (kept1 a m wt (r.stamp + 1) r.clock), .kepCut b4 b5 r.kept.length, .stDec b6], rfl, ?_, ?_⟩
    · show r.ends s = some x ↔ _
      rw [g.ends]
      constructor
      · rintro ⟨k, hk, h3⟩; exact ⟨k, List.mem_append_left _ hk, h3⟩
      · rintro ⟨k, hk, h3, h4, h5⟩
        rcases List.mem_append.1 hk with hk | hk
        · exact ⟨k, hk, h3, h4, h5⟩
        · rw [List.mem_singleton.1 hk, hd] at h4; cases h4
    · rcases List.mem_append.1 hk with hk | hk
      · have := g.top k hk; show _ ≤ r.stamp + 1; omega
      · rw [List.mem_singleton.1 hk, hks]; exact Int.le_refl _
    · exact ⟨trivial, by simp [Ent.fits, Ent.undo], ⟨by show 0 ≤ r.stamp + 1; omega, by show r.stamp + 1 ≤ _; omega⟩, trivial⟩
    · simp only [undoAll, List.foldl_cons, List.foldl_nil, Ent.undo]
      rw [upd_back _ _ _ h2, hks, upd_back _ _ _ hns, List.take_left' rfl]
      simp
  | waits h h2 hd b1 b2 b3 b4 b5 b6 b7 b8 =>
    have hxs : (kept1 a m wt (r.stamp + 1) r.clock).itm.stamp = r.stamp + 1 := rfl
    refine ⟨⟨g.na, by simp; omega, g.ids, ixr_push (x := kept1 a m wt (r.stamp + 1) r.clock) g.nms h2, ixr_push (x := kept1 a m wt (r.stamp + 1) r.clock) g.sts hns, fun s x => ?_, fun k hk => ?_, by show 0 ≤ r.stamp + 1; omega, by simp; omega, List.pairwise_append.2 ⟨g.ris, List.pairwise_singleton .., fun x hx y hy => by rw [List.mem_singleton.1 hy, hks]; have := g.top x hx; omega⟩, lims, g.lim.2.1, by have := g.lim.2.2; simp; omega⟩, [.enDrop b7 b8 (kept1 a m wt (r.stamp + 1) r.clock).itm, .nmDrop b1 b2 b3 m (kept1 a m wt (r.stamp + 1) r.clock), .kepCut b4 b5 r.kept.length, .stDec b6], rfl, ?_, ?_⟩
    · show upd r.ends (r.stamp + 1) _ s = some x ↔ _
      by_cases e : s = r.stamp + 1
      · subst e
        rw [upd_self]
        constructor
        · intro hx
          obtain rfl := Option.some.inj hx
          exact ⟨_, List.mem_append_right _ (List.mem_singleton.2 rfl), hks, hd, rfl⟩
        · rintro ⟨k, hk, h3, h4, h5⟩
          rcases List.mem_append.1 hk with hk | hk
          · have := g.top k hk; omega
          · rw [List.mem_singleton.1 hk] at h5; rw [h5]
      · rw [upd_ne _ _ e, g.ends]
        constructor
        · rintro ⟨k, hk, h3⟩; exact ⟨k, List.mem_append_left _ hk, h3⟩
        · rintro ⟨k, hk, h3, h4, h5⟩
          rcases List.mem_append.1 hk with hk | hk
          · exact ⟨k, hk, h3, h4, h5⟩
          · rw [List.mem_singleton.1 hk, hks] at h3; exact absurd h3.symm e
    · rcases List.mem_append.1 hk with hk | hk
      · have := g.top k hk; show _ ≤ r.stamp + 1; omega
      · rw [List.mem_singleton.1 hk, hks]; exact Int.le_refl _
    · exact ⟨trivial, trivial, by simp [Ent.fits, Ent.undo], ⟨by show 0 ≤ r.stamp + 1; omega, by show r.stamp + 1 ≤ _; omega⟩, trivial⟩
    · simp only [undoAll, List.foldl_cons, List.foldl_nil, Ent.undo]
      rw [hxs, upd_back _ _ _ hne, upd_back _ _ _ h2, hks, upd_back _ _ _ hns, List.take_left' rfl]
      simp
theorem ris_set {ks : List Kp} (h : ks.Pairwise (fun a b => a.move.stamp < b.move.stamp)) {i : Nat} {k x : Kp} (hk : ks[i]? = some k) (hx : x.move = k.move) : (ks.set i x).Pairwise (fun a b => a.move.stamp < b.move.stamp) := by
  have hil := (List.getElem?_eq_some_iff.1 hk).1
  have h1 : (ks.map (fun k => k.move.stamp)).Pairwise (· < ·) := List.pairwise_map.2 h
  have e : (ks.set i x).map (fun k => k.move.stamp) = ks.map (fun k => k.move.stamp) := by
    apply List.ext_getElem?
    intro j
    rw [List.getElem?_map, List.getElem?_map, List.getElem?_set]
    split
    · rename_i e; subst e; rw [hk]; simp [hil, hx]
    · rfl
  rw [← e] at h1
  exact List.pairwise_map.1 h1
theorem end_good {id : Nm} {fate c : Int} (g : Good r) (h : EndR r es id fate c r' es') : Good r' ∧ Backs r es r' es' := by
  have tops : ∀ {i : Nat} {k x : Kp}, r.kept[i]? = some k → x.move = k.move → ∀ m ∈ r.kept.set i x, m.move.stamp ≤ r.stamp := fun {i k x} hk hx m hm => by
    rcases List.mem_or_eq_of_mem_set hm with hm | rfl
    · exact g.top m hm
    · rw [hx]; exact g.top k (List.mem_of_getElem? hk)
  have lims : ∀ {i : Nat} {k : Kp}, (1 < fate ∧ fate ≤ 4) → ∀ m ∈ r.kept.set i { k with fate := fate }, 0 ≤ m.fate ∧ m.fate ≤ 4 := fun {i k} h2 m hm => by
    rcases List.mem_or_eq_of_mem_set hm with hm | rfl
    · exact g.lim.1 m hm
    · exact ⟨by show 0 ≤ fate; omega, h2.2⟩
  have due0 : ∀ {k : Kp}, 1 < fate → dueB { k with fate := fate } = false := fun {k} hf => by
    unfold dueB
    rw [show (({ k with fate := fate } : Kp).fate == 1) = false from by simp; omega]; rfl
  cases h with
  | none h => exact ⟨g, .refl _ _⟩
  | bad k h h1 h2 => exact ⟨g, .refl _ _⟩
  | rests i k hi h h1 h2 hd b0 b1 b2 =>
    have hil := (List.getElem?_eq_some_iff.1 h).1
    have hdk : dueB k = false := by
      rcases hd with hd | hd
      · exact hd
      · cases hq : dueB k with
        | false => rfl
        | true =>
          have := (g.ends k.move.stamp k.itm).2 ⟨k, List.mem_of_getElem? h, rfl, hq, rfl⟩
          rw [hd] at this; cases this
    refine ⟨⟨g.na, by simpa using g.nk, g.ids, ixr_set g.nms h rfl, ixr_set g.sts h rfl, fun s x => ?_, tops h rfl, g.s0, by simpa using g.s1, ris_set g.ris h rfl, lims h2, g.lim.2.1, by simpa using g.lim.2.2⟩, [.kepPut b0 b1 b2 i k], rfl, ⟨by simpa [Ent.fits] using hil, trivial⟩, ?_⟩
    · show r.ends s = some x ↔ _
      rw [g.ends]
      constructor
      · rintro ⟨m, hm, h3, h4, h5⟩
        obtain ⟨j, hj, rfl⟩ := List.getElem_of_mem hm
        by_cases e : j = i
        · subst e
          rw [List.getElem?_eq_getElem hj] at h
          rw [Option.some.inj h, hdk] at h4; cases h4
        · exact ⟨_, List.mem_iff_getElem?.2 ⟨j, by rw [List.getElem?_set_ne (fun x => e x.symm), List.getElem?_eq_getElem hj]⟩, h3, h4, h5⟩
      · rintro ⟨m, hm, h3, h4, h5⟩
        obtain ⟨j, hj⟩ := List.mem_iff_getElem?.1 hm
        by_cases e : j = i
        · subst e
          rw [List.getElem?_set_self hil] at hj
          cases hj
          rw [due0 h2.1] at h4; cases h4
        · rw [List.getElem?_set_ne (fun x => e x.symm)] at hj
          exact ⟨m, List.mem_of_getElem? hj, h3, h4, h5⟩
    · simp only [undoAll, List.foldl_cons, List.foldl_nil, Ent.undo]
      rw [kept_back h]
  | waits i k hi h h1 h2 hd hs b0 b1 b2 b3 b4 =>
    have hil := (List.getElem?_eq_some_iff.1 h).1
    have hek : r.ends k.move.stamp = some k.itm := (g.ends _ _).2 ⟨k, List.mem_of_getElem? h, rfl, hd, rfl⟩
    refine ⟨⟨g.na, by simpa using g.nk, g.ids, ixr_set g.nms h rfl, ixr_set g.sts h rfl, fun s x => ?_, tops h rfl, g.s0, by simpa using g.s1, ris_set g.ris h rfl, lims h2, g.lim.2.1, by simpa using g.lim.2.2⟩, [.kepPut b0 b1 b2 i k, .enPut b3 b4 k.itm], rfl, ⟨by simpa [Ent.fits] using hil, ?_, trivial⟩, ?_⟩
    · show upd r.ends k.move.stamp none s = some x ↔ _
      by_cases e0 : s = k.move.stamp
      · subst e0
        rw [upd_self]
        constructor
        · intro hx; cases hx
        · rintro ⟨m, hm, h3, h4, h5⟩
          obtain ⟨j, hj⟩ := List.mem_iff_getElem?.1 hm
          by_cases e : j = i
          · subst e
            rw [List.getElem?_set_self hil] at hj
            cases hj
            rw [due0 h2.1] at h4; cases h4
          · rw [List.getElem?_set_ne (fun x => e x.symm)] at hj
            exact absurd (ixr_inj g.sts hj h h3) e
      · rw [upd_ne _ _ e0, g.ends]
        constructor
        · rintro ⟨m, hm, h3, h4, h5⟩
          obtain ⟨j, hj, rfl⟩ := List.getElem_of_mem hm
          by_cases e : j = i
          · subst e
            rw [List.getElem?_eq_getElem hj] at h
            rw [Option.some.inj h] at h3
            exact absurd h3.symm e0
          · exact ⟨_, List.mem_iff_getElem?.2 ⟨j, by rw [List.getElem?_set_ne (fun x => e x.symm), List.getElem?_eq_getElem hj]⟩, h3, h4, h5⟩
        · rintro ⟨m, hm, h3, h4, h5⟩
          obtain ⟨j, hj⟩ := List.mem_iff_getElem?.1 hm
          by_cases e : j = i
          · subst e
            rw [List.getElem?_set_self hil] at hj
            cases hj
            rw [due0 h2.1] at h4; cases h4
          · rw [List.getElem?_set_ne (fun x => e x.symm)] at hj
            exact ⟨m, List.mem_of_getElem? hj, h3, h4, h5⟩
    · show upd r.ends k.move.stamp none k.itm.stamp = none
      exact upd_self _ _ _
    · simp only [undoAll, List.foldl_cons, List.foldl_nil, Ent.undo]
      rw [kept_back h, show k.itm.stamp = k.move.stamp from rfl, upd_again _ _ _ hek]
theorem time_good {now : Int} (g : Good r) (h : TimeR r es now r' es') : Good r' ∧ Backs r es r' es' := by
  cases h with
  | no h => exact ⟨g, .refl _ _⟩
  | goes h h2 b0 b1 => exact ⟨⟨g.na, g.nk, g.ids, g.nms, g.sts, g.ends, g.top, g.s0, g.s1, g.ris, g.lim.1, ⟨by show 0 ≤ now; have := g.lim.2.1.1; omega, h2⟩, g.lim.2.2⟩, [.clkSet b0 b1 r.clock], rfl, ⟨trivial, trivial⟩, rfl⟩
end
end Go.Proofs.YtjchjpmgbmeohaaDoor

/- Books: a state of its own, behind a world: labels hidden. -/
set_option linter.unusedSimpArgs false
set_option linter.unusedVariables false
namespace Go.Proofs.YtjchjpmgbmeohaaDoor
open Go.RowKit

/-- A state all of whose blocks are newer than w0; nothing older was written. -/
def Alv (w0 w : World) (d : Dd) (r : Raw) (es : List Ent) (big : Nat) : Prop := ∃ lab, Sta w lab d r es big ∧ (∀ k, lab k ≠ 0 → w0.heap.size ≤ k) ∧ Fr (fun _ => False) w0 w
section
variable {w0 w w' : World} {d : Dd} {r r' : Raw} {es es' : List Ent} {big big' n : Nat} {lab lab' : Nat → Nat}
theorem alv_step (hl : ∀ k, lab k ≠ 0 → w0.heap.size ≤ k) (f : Fr (fun _ => False) w0 w) (h : Sta w' lab' d r' es' big') (p : Stp n w lab w' lab') (hn : w0.heap.size ≤ n) : Alv w0 w' d r' es' big' := by
  refine ⟨lab', h, fun k hk => ?_, f.then_ p.fr (fun k hk => .inr (hl k hk.1))⟩
  by_cases hlt : k < n
  · rw [p.lx k hlt] at hk
    exact hl k hk
  · omega
theorem Alv.fr (h : Alv w0 w d r es big) (f : Fr (fun _ => False) w w') : Alv w0 w' d r es big := by
  obtain ⟨lab, h1, h2, h3⟩ := h
  exact ⟨lab, h1.fr f (fun _ h => h.elim), h2, h3.then_ f (fun _ h => h.elim)⟩
theorem Alv.old (h : Alv w0 w d r es big) : Fr (fun _ => False) w0 w := by
  obtain ⟨lab, h1, h2, h3⟩ := h
  exact h3
theorem Alv.more (h : Alv w0 w d r es big) (hb : big ≤ big') : Alv w0 w d r es big' := by
  obtain ⟨lab, h1, h2, h3⟩ := h
  exact ⟨lab, h1.more hb, h2, h3⟩
/-- What one calls its own beside a state: written, that is nothing to the state. -/
theorem Alv.frs {S : Nat → Prop} (h : Alv w0 w d r es big) (f : Fr S w w') (hs : ∀ k, S k → w0.heap.size ≤ k) (ho : ∀ lab, Sta w lab d r es big → ∀ k, S k → lab k = 0) : Alv w0 w' d r es big := by
  obtain ⟨lab, h1, h2, h3⟩ := h
  exact ⟨lab, h1.fr f (ho lab h1), h2, h3.then_ f (fun k hk => .inr (hs k hk))⟩
end
theorem newA (w : World) : Calls Tryd.prog 15 #[] w fun e w' => ∃ d, e = .returned (.pointer (some ⟨d.B, 0, none⟩)) ∧ Alv w w' d Raw.empty [] 0 :=
  (newS w).mono fun e w' ⟨lab, d, he, h, hl, hf⟩ => ⟨d, he, lab, h, hl, hf⟩
section
variable {w0 w : World} {d : Dd} {r : Raw} {es : List Ent} {big : Nat}
theorem openA (h : Alv w0 w d r es big) (a : Acc) (hb : big ≤ 10000) (h0 : 0 ≤ r.stamp) (h1 : r.stamp ≤ 4611686018427387904) (hlen : r.accs.length ≤ 10000) :
    Calls Tryd.prog 16 #[.pointer (some ⟨d.B, 0, none⟩), .agg #[.int .u64 a.id.hi, .int .u64 a.id.lo, .int .u64 a.dp.hi, .int .u64 a.dp.lo, .int .u64 a.dq.hi, .int .u64 a.dq.lo, .int .u64 a.cp.hi, .int .u64 a.cp.lo, .int .u64 a.cq.hi, .int .u64 a.cq.lo, .int .i64 a.ledger, .int .i64 a.code, .int .i64 a.flags, .int .i64 a.stamp]] w fun e w' => ∃ c r' es', e = .returned (.int .i64 c) ∧ OpenR r es a c r' es' ∧ Alv w0 w' d r' es' (big + 4) := by
  obtain ⟨lab, h2, hl, hf⟩ := h
  exact (openS w lab d r es big a h2 hb h0 h1 hlen).mono fun e w' ⟨c, lab', r', es', he, hr, hs, hp⟩ => ⟨c, r', es', he, hr, alv_step hl hf hs hp hf.size⟩
theorem keepA (h : Alv w0 w d r es big) (a m : Tx) (wt : Bool) (hb : big ≤ 80000) (h0 : 0 ≤ r.stamp) (h1 : r.stamp ≤ 4611686018427387904) (hlen : r.kept.length ≤ 10000) (hfr : r.ends (r.stamp + 1) = none) :
    Calls Tryd.prog 18 #[.pointer (some ⟨d.B, 0, none⟩), .agg #[.int .u64 a.id.hi, .int .u64 a.id.lo, .int .u64 a.debit.hi, .int .u64 a.debit.lo, .int .u64 a.credit.hi, .int .u64 a.credit.lo, .int .u64 a.amount.hi, .int .u64 a.amount.lo, .int .u64 a.pending.hi, .int .u64 a.pending.lo, .int .i64 a.timeout, .int .i64 a.ledger, .int .i64 a.code, .int .i64 a.flags, .int .i64 a.stamp, .int .i64 a.born], .agg #[.int .u64 m.id.hi, .int .u64 m.id.lo, .int .u64 m.debit.hi, .int .u64 m.debit.lo, .int .u64 m.credit.hi, .int .u64 m.credit.lo, .int .u64 m.amount.hi, .int .u64 m.amount.lo, .int .u64 m.pending.hi, .int .u64 m.pending.lo, .int .i64 m.timeout, .int .i64 m.ledger, .int .i64 m.code, .int .i64 m.flags, .int .i64 m.stamp, .int .i64 m.born], .bool wt] w fun e w' => ∃ c r' es', e = .returned (.int .i64 c) ∧ KeepR r es a m wt c r' es' ∧ Alv w0 w' d r' es' (big + 7) := by
  obtain ⟨lab, h2, hl, hf⟩ := h
  exact (keepFS w lab d r es big a m wt h2 hb h0 h1 hlen hfr).mono fun e w' ⟨c, lab', r', es', he, hr, hs, hp⟩ => ⟨c, r', es', he, hr, alv_step hl hf hs hp hf.size⟩
theorem roomA (h : Alv w0 w d r es big) : Calls Tryd.prog 17 #[.pointer (some ⟨d.B, 0, none⟩)] w fun e w' => e = .returned (.bool (decide (r.kept.length < 96))) ∧ Fr (fun _ => False) w w' := by
  obtain ⟨lab, h2, hl, hf⟩ := h
  exact roomS w lab d r es big h2
theorem clockA (h : Alv w0 w d r es big) : Calls Tryd.prog 37 #[.pointer (some ⟨d.B, 0, none⟩)] w fun e w' => e = .returned (.int .i64 r.clock) ∧ Fr (fun _ => False) w w' := by
  obtain ⟨lab, h2, hl, hf⟩ := h
  exact clockS w lab d r es big h2
theorem stampA (h : Alv w0 w d r es big) : Calls Tryd.prog 21 #[.pointer (some ⟨d.B, 0, none⟩)] w fun e w' => e = .returned (.int .i64 r.stamp) ∧ Fr (fun _ => False) w w' := by
  obtain ⟨lab, h2, hl, hf⟩ := h
  exact stampS w lab d r es big h2
theorem accountsA (h : Alv w0 w d r es big) (hn : r.accs.length ≤ 100000) : Calls Tryd.prog 19 #[.pointer (some ⟨d.B, 0, none⟩)] w fun e w' => ∃ g cap, e = .returned (.slice g r.accs.length cap) ∧ w'.ownsRow 0 26 14 (.slice g r.accs.length cap) r.accs.length (r.accs.flatMap Acc.cells) ∧ (∀ k, (Value.slice g r.accs.length cap).ownBlock = some k → w.heap.size ≤ k) ∧ Fr (fun _ => False) w w' := by
  obtain ⟨lab, h2, hl, hf⟩ := h
  exact accountsS w lab d r es big h2 hn
theorem keepsA (h : Alv w0 w d r es big) (hn : r.kept.length ≤ 100000) : Calls Tryd.prog 20 #[.pointer (some ⟨d.B, 0, none⟩)] w fun e w' => ∃ g cap, e = .returned (.slice g r.kept.length cap) ∧ w'.ownsRow 0 63 33 (.slice g r.kept.length cap) r.kept.length (r.kept.flatMap Kp.cells) ∧ (∀ k, (Value.slice g r.kept.length cap).ownBlock = some k → w.heap.size ≤ k) ∧ Fr (fun _ => False) w w' := by
  obtain ⟨lab, h2, hl, hf⟩ := h
  exact keepsS w lab d r es big h2 hn
end
end Go.Proofs.YtjchjpmgbmeohaaDoor
