/- Several texts in one, for the law BooksBack: DoD, DoE, StO, SmD, BkS, QuietG, LdA, Back, BoF. Each says what it shows; conditions: what each theorem names. -/
import Derived.Test.YtjchjpmgbmeohaaDoorMk11
import Derived.Test.YtjchjpmgbmeohaaDoorMk6
import Derived.Test.YtjchjpmgbmeohaaDoorMk3
import Derived.BigQuiet
import Derived.Test.YtjchjpmgbmeohaaDoorMk10
import Derived.Test.YtjchjpmgbmeohaaDoorMk5
import Derived.Test.YtjchjpmgbmeohaaDoorMk7
import Derived.Deep.RegionHeld3
/- Both sides: kind 6; whatever kind. -/
set_option linter.unusedSimpArgs false
set_option linter.unusedVariables false
namespace Go.Proofs.YtjchjpmgbmeohaaDoor
open Go.RowKit

theorem BtX.booksX {F : Nat → Prop} {w0 w w' : World} {b : Nat} {d : Dd} {M : Nat} {r r' : Raw} {es es' : List Ent} {big big' : Nat} {m : RM} {ms : List (Raw × List Ent)} {lab lab' q : Nat → Nat} {mv wv : Value} {id : Nat} {st : List (Nat × Nat)} (h : BtX F w0 w b d M r es big m ms lab q mv wv id st) (hs : Sta w' lab' d r' es' big') (p : Stp w.heap.size w lab w' lab') : BtX F w0 w' b d M r' es' big' m ms lab' q mv wv id st :=
  h.frs hs p.fr (fun k hk hs => hs.1 (h.q0 k hk).1) (fun k hk h0 => by rw [p.lx k hk, h0]) (fun k hk => h.l0 k hk.1) (fun k hk => by
    by_cases hlt : k < w.heap.size
    · rw [p.lx k hlt] at hk
      exact h.l0 k hk
    · have := h.fr.size; omega)
theorem row_last {w : World} {g n cap : Nat} {T : TypeId} {xs : List Value} {x : Value} (h : w.ownsRow 0 T 1 (.slice (some ⟨g, 0, none⟩) (n + 1) cap) (n + 1) (xs ++ [x])) (hn : xs.length = n) : w.cell? ⟨g, n, none⟩ = some x := by
  rw [h.cellAt n (by omega), List.getElem?_append_right (by omega), hn, Nat.sub_self]; rfl
section
variable {F : Nat → Prop} {w0 w : World} {b : Nat} {d : Dd} {M : Nat} {r : Raw} {es : List Ent} {big : Nat} {ms : List (Raw × List Ent)}
attribute [-go_sem] loadCells
set_option maxRecDepth 8000 in
set_option maxHeartbeats 6400000 in
theorem does_6 (h : Bt F w0 w b d M r es big r.rm ms) (g : Good r) (mk : MkOk r es ms) (hb : big ≤ 9000) (c : Cl) (hk : c.kind = 6) (hms : ms.length ≤ 1000) :
    Calls Tryd.prog 24 #[.pointer (some ⟨b, 0, none⟩), .agg c.cells.toArray] w (DoesP F w0 w b d big r es ms c.kind) := by
  have H0 := Lib.hid (h.box (.cells c.cells.toArray 53))
  have HB := Lib.hid (heap_alloc_new w (.cells c.cells.toArray 53))
  have HG := Lib.hid g
  have HMk := Lib.hid mk
  have HNa := Lib.hid (And.intro g.na (And.intro g.nk (And.intro g.s0 g.s1)))
  have HNr := Lib.hid (show r.rm.accs.length ≤ 100000 ∧ r.rm.kept.length ≤ 100000 ∧ 0 ≤ r.rm.stamp ∧ r.rm.stamp ≤ 4611686018427387904 from by have := g.na; have := g.nk; have := g.s0; have := g.s1; show r.accs.length ≤ _ ∧ r.kept.length ≤ _ ∧ 0 ≤ r.stamp ∧ r.stamp ≤ _; omega)
  have HFn := Lib.hid (show ∀ k, F k → k < w.heap.size from fun k hk => by obtain ⟨lab, q, mv, wv, id, st, h⟩ := h; exact (h.ff k hk).2.2)
  obtain ⟨b0, b1⟩ := H0.out.cells
  obtain ⟨l1, l2, l3, l4, k0, k47, k50⟩ := cl_loads (P := Tryd.prog) (W := (w.alloc (.cells c.cells.toArray 53)).drew) (blk_drew HB.out)
  have k0 : (w.alloc (.cells c.cells.toArray 53)).cell? ⟨w.heap.size, 0, none⟩ = some (.int .i64 6) := by rw [← hk]; exact k0
  have HK := Lib.hid hk
  obtain ⟨W, hW⟩ : ∃ W, w.alloc (.cells c.cells.toArray 53) = W := ⟨_, rfl⟩
  have FW := Lib.hid (show Fr (fun k => ¬ F k) w W from by rw [← hW]; exact (Fr.refl _ w).alloc _)
  obtain ⟨lab, q, mv, wv, id, st, hx⟩ := H0.out
  cases ms with
  | nil =>
    obtain ⟨am, cm, rfl, -, -⟩ := own_form hx.mrk
    have b2 := blk_cell hx.blk 2 rfl
    have wm : IntKind.i64.wrap (-1) = -1 := IntWalk.i64_in _ (by omega)
    have HWe := Lib.hid hW
    clear h g mk hk hx hms l1 l2 l3 l4 k47 k50 hW
    go_enter Tryd.func24, Tryd.ntmps24
    go_wp2_with fail
    go_ret
    have hk := HK.out
    exact ⟨rfl, M, r, es, [], (H0.out.more (by omega)).less (fun k hk => .inl hk), HG.out, HMk.out, fun h => by omega, by rw [HWe.out]; exact FW.out, Nat.le_succ _⟩
  | cons x ms =>
    cases st with
    | nil => have := hx.len; simp at this
    | cons p st =>
    obtain ⟨N, hN⟩ : ∃ N, ms.length = N := ⟨_, rfl⟩
    have hN1 : (x :: ms).length = N + 1 := by rw [← hN]; rfl
    have hNs : st.length = N := by have := hx.len; rw [hN1] at this; simpa using this
    have hmr := hx.mrk
    have hwr := hx.was
    rw [hN1] at hmr hwr hms
    obtain ⟨gm, cm, rfl⟩ := own_some hmr (by omega)
    obtain ⟨gw, cw, rfl⟩ := own_some hwr (by omega)
    have hcm : N + 1 ≤ cm := by
      obtain ⟨a', c', e', hc, -⟩ := own_form hmr
      simp only [Value.slice.injEq] at e'
      omega
    have hcw : N + 1 ≤ cw := by
      obtain ⟨a', c', e', hc, -⟩ := own_form hwr
      simp only [Value.slice.injEq] at e'
      omega
    have cellM : ∀ {W' : World}, W'.ownsRow 0 3 1 (.slice (some ⟨gm, 0, none⟩) (N + 1) cm) (x :: ms).length ((x :: ms).reverse.map fun x => Value.int .i64 x.2.length) → W'.cell? ⟨gm, N, none⟩ = some (.int .i64 x.2.length) := fun h => by
      rw [hN1, List.reverse_cons, List.map_append] at h
      exact row_last h (by simp [hN])
    have cellW : ∀ {W' : World}, W'.ownsRow 0 57 1 (.slice (some ⟨gw, 0, none⟩) (N + 1) cw) (x :: ms).length ((p :: st).reverse.map fun p => Value.pointer (some ⟨p.2, 0, none⟩)) → W'.cell? ⟨gw, N, none⟩ = some (.pointer (some ⟨p.2, 0, none⟩)) := fun h => by
      rw [hN1, List.reverse_cons, List.map_append] at h
      exact row_last h (by simp [hNs])
    have HCM := Lib.hid (fun W' => @cellM W')
    have HCW := Lib.hid (fun W' => @cellW W')
    have wN : IntKind.i64.wrap ((N : Int) + 1 - 1) = N := by rw [IntWalk.i64_in _ (by omega)]; omega
    have wN2 : IntKind.i64.wrap (N : Int) = N := IntWalk.i64_in _ (by omega)
    have wN3 : (N : Int) + 1 - 1 = N := by omega
    have i0 : (0 : Int) ≤ N := by omega
    have i1 : (N : Int) < N + 1 := by omega
    have i2 : (N : Int) ≤ cm := by omega
    have i3 : (N : Int) ≤ cw := by omega
    have i4 : N ≤ cm := by omega
    have i5 : N ≤ cw := by omega
    have b2 := blk_cell hx.blk 2 rfl
    have cM := cellM hx.mrk
    have HX := Lib.hid hx
    have HNN := Lib.hid hN
    obtain ⟨news, hes, hft, hun⟩ := mk.1
    have HBk := Lib.hid (show Calls Tryd.prog 28 #[.pointer (some ⟨d.B, 0, none⟩), .int .i64 x.2.length] W.drew fun e w' => e = .returned (.tuple #[]) ∧ ∃ lab', BtX (fun k => F k ∨ k = w.heap.size) w0 w' b d M x.1 x.2 big r.rm (x :: ms) lab' q (.slice (some ⟨gm, 0, none⟩) (N + 1) cm) (.slice (some ⟨gw, 0, none⟩) (N + 1) cw) id (p :: st) ∧ Fr (fun k => lab k ≠ 0 ∧ lab k ≠ 9) W w' from by
      have hd := hx.frs (hx.sta.drew) (Fr.refl (fun _ => False) _).drew (fun _ _ h => h) (fun _ _ h => h) (fun _ h => h.elim) hx.l0
      rw [hW] at hd
      have hs := hd.sta
      rw [hes] at hs
      have := g.na; have := g.nk
      refine (backS W.drew lab d r news x.2 big hs hft (by omega) (by omega) (by omega)).mono fun e w' ⟨he, lab', hs', hp⟩ => ?_
      rw [hun] at hs'
      exact ⟨he, lab', hd.booksX hs' hp, (Fr.refl _ W).drew.then_ hp.fr (fun k hk => .inl hk)⟩)
    have HFl := Lib.hid (show ∀ k, F k → lab k = 0 from fun k hk => (hx.ff k (.inl hk)).1)
    have HMg := Lib.hid mk.2
    have hbl := blk_lt hx.blk
    have HWe := Lib.hid hW
    clear hW
    clear h g mk hk hx hms l1 l2 l3 l4 k47 k50 hmr hwr cellM cellW hes hft hun hN hN1 hNs hcm hcw HB
    go_enter Tryd.func24, Tryd.ntmps24
    go_upto_region 19 with fail
    have hW := HWe.out
    (try rw [hW])
    rw [hW] at b0 b1 b2 cM hbl
    clear k0 hW
    go_region_held3 (fun w' => w'.cell? ⟨b, 0, none⟩ = some (Value.pointer (some ⟨d.B, 0, none⟩)) ∧ w'.cell? ⟨b, 2, none⟩ = some (Value.slice (some ⟨gm, 0, none⟩) (N + 1) cm) ∧ w'.cell? ⟨gm, N, none⟩ = some (Value.int .i64 x.2.length))
      (first | exact ⟨b0, b2, cM⟩ | exact ⟨q0, q2, qM⟩ | go_keep)
      (first | (go_at_call 28; go_must (with_reducible refine HBk.out.mono ?_); rintro e w2 ⟨rfl, lab2, hx2, f2⟩; have q0 := blk_cell hx2.blk 0 rfl; have q1 := blk_cell hx2.blk 1 rfl; have q2 := blk_cell hx2.blk 2 rfl; have q3 := blk_cell hx2.blk 3 rfl; have z1 := blk_free hx2.blk 1; have z2 := blk_free hx2.blk 2; have z3 := blk_free hx2.blk 3; have qM := HCM.out _ hx2.mrk; have qW := HCW.out _ hx2.was; have hl2 := blk_lt hx2.blk; have HX2 := Lib.hid hx2; have F2 := Lib.hid f2; clear hx2 f2))
    clear b0 b1 b2 cM
    have hpp := HX2.out
    have hNN := HNN.out
    subst hNN
    have hpop := BtX.pop hpp rfl
    have HP := Lib.hid hpop
    clear hpp hpop
    go_wp2_with fail
    go_ret
    have hk := HK.out
    refine ⟨rfl, p.2, x.1, x.2, ms, (HP.out.1.more (by omega)).less (fun k hk => .inl hk), HMg.out.1, HMg.out.2, fun h => by omega, ?_, by simp only [List.length_cons]; omega⟩
    refine (FW.out.then_ F2.out (fun k hk => .inl (fun hF => hk.1 (HFl.out k hF)))).then_ HP.out.2 (fun k hk => .inl (fun hF => ?_))
    have h1 := (HX2.out.ff k (.inl hF)).2.1
    rw [show k = b from hk, HX2.out.qb] at h1
    cases h1
theorem does_any (h : Bt F w0 w b d M r es big r.rm ms) (g : Good r) (mk : MkOk r es ms) (hb : big ≤ 9000) (hms : ms.length ≤ 1000) (c : Cl) : Calls Tryd.prog 24 #[.pointer (some ⟨b, 0, none⟩), .agg c.cells.toArray] w (DoesP F w0 w b d big r es ms c.kind) := by
  by_cases h0 : c.kind = 0
  · exact does_0 h g mk hb c h0
  by_cases h1 : c.kind = 1
  · exact does_1 h g mk hb c h1
  by_cases h2 : c.kind = 2
  · exact does_2 h g mk hb c h2
  by_cases h3 : c.kind = 3
  · exact does_3 h g mk hb c h3
  by_cases h4 : c.kind = 4
  · exact does_4 h g mk hb c h4
  by_cases h5 : c.kind = 5
  · exact does_5 h g mk hb c h5 hms
  by_cases h6 : c.kind = 6
  · exact does_6 h g mk hb c h6 hms
  exact does_x h g mk hb c (by omega)
end
end Go.Proofs.YtjchjpmgbmeohaaDoor

/- Both sides: start; great; a script's calls. -/
set_option linter.unusedSimpArgs false
set_option linter.unusedVariables false
namespace Go.Proofs.YtjchjpmgbmeohaaDoor
open Go.RowKit

def StartP (w : World) (e : Ending) (w' : World) : Prop := ∃ b d M, e = .returned (.pointer (some ⟨b, 0, none⟩)) ∧ Bt (fun _ => False) w w' b d M Raw.empty [] 0 Raw.empty.rm []
theorem start_any (w : World) : Calls Tryd.prog 23 #[] w (StartP w) := by
  have HN := Lib.hid (newS w)
  go_enter Tryd.func23, Tryd.ntmps23
  go_wp2_with fail
  refine HN.out.mono ?_
  rintro e w1 ⟨lab, d, rfl, hs, hl, hf⟩
  have HS := Lib.hid hs
  have HL := Lib.hid hl
  have HF := Lib.hid hf
  clear hs hl hf
  go_wp2_with fail
  go_ret
  have f2 := ((Fr.refl (fun _ => False) w1).alloc (.cells #[.slice none 0 0, .slice none 0 0, .int .i64 0, .int .i64 0] 56)).alloc (.cells #[.pointer (some ⟨d.B, 0, none⟩), .pointer (some ⟨w1.heap.size, 0, none⟩), .slice none 0 0, .slice none 0 0] 61)
  have hz : ((w1.alloc (.cells #[.slice none 0 0, .slice none 0 0, .int .i64 0, .int .i64 0] 56)).alloc (.cells #[.pointer (some ⟨d.B, 0, none⟩), .pointer (some ⟨w1.heap.size, 0, none⟩), .slice none 0 0, .slice none 0 0] 61)).heap.size = w1.heap.size + 2 := by simp
  have hws := HF.out.size
  refine ⟨w1.heap.size + 1, d, w1.heap.size, by first | rfl | simp, lab, (fun k => if k = w1.heap.size then 2 else if k = w1.heap.size + 1 then 1 else 0), .slice none 0 0, .slice none 0 0, 2, [], ⟨HS.out.fr f2 (fun _ h => h.elim), blk1 w1 _ _, World.ownsRow_nil _ _ _ _, World.ownsRow_nil _ _ _ _, rfl, ?_, fun i p x hp => (by simp at hp), by simp, fun j hj => by simp at hj; omega, by simp, fun k hk => (by cases hk), fun k hk => (by cases hk), fun k hk => (by cases hk), fun k hk => ?_, HL.out, HF.out.then_ f2 (fun _ h => h.elim), fun k hk => hk.elim⟩⟩
  · refine ⟨.slice none 0 0, .slice none 0 0, blk_alloc (heap_alloc_new w1 _) _, World.ownsRow_nil _ _ _ _, World.ownsRow_nil _ _ _ _, by simp, fun k hk => (by cases hk), fun k hk => (by cases hk), fun k hk => (by cases hk), fun k hk => ?_⟩
    have hk : (if k = w1.heap.size then 2 else if k = w1.heap.size + 1 then 1 else 0) = 2 := hk
    by_cases e : k = w1.heap.size
    · omega
    · rw [if_neg e] at hk; split at hk <;> cases hk
  · have hk : (if k = w1.heap.size then 2 else if k = w1.heap.size + 1 then 1 else 0) ≠ 0 := hk
    have hkk : k = w1.heap.size ∨ k = w1.heap.size + 1 := by
      by_cases e : k = w1.heap.size
      · exact .inl e
      · rw [if_neg e] at hk
        by_cases e2 : k = w1.heap.size + 1
        · exact .inr e2
        · rw [if_neg e2] at hk; exact absurd rfl hk
    exact ⟨HS.out.free (by omega), by omega, by omega⟩
/-- A script among the arguments. -/
def Scr (w : World) (a : Option Addr) (cs : List Cl) : Prop := Row w a (cs.flatMap Cl.cells)
theorem cl_len (c : Cl) : c.cells.length = 51 := rfl
theorem scr_at {w : World} {a : Option Addr} {cs : List Cl} (h : Scr w a cs) {j : Nat} (hj : j < cs.length) : ∃ b off, a = some ⟨b, off, none⟩ ∧ w.rangeAt b (off + j * 51) cs[j].cells := by
  have h0 := flat_get (f := Cl.cells) (n := 51) cl_len cs j hj 0 (by omega)
  obtain ⟨b, off, rfl, -⟩ := h (j * 51 + 0) (.int .i64 cs[j].kind) (by rw [h0]; rfl)
  refine ⟨b, off, rfl, fun i v hv => ?_⟩
  have hi : i < 51 := by have := (List.getElem?_eq_some_iff.1 hv).1; rwa [cl_len] at this
  obtain ⟨b', off', e, hc⟩ := h (j * 51 + i) v (by rw [flat_get (f := Cl.cells) (n := 51) cl_len cs j hj i hi, hv])
  simp only [Option.some.injEq, Addr.mk.injEq, and_true] at e
  obtain ⟨rfl, rfl⟩ := e
  rwa [Nat.add_assoc]
theorem Scr.fr {w w' : World} {a : Option Addr} {cs : List Cl} (h : Scr w a cs) (hf : Fr (fun _ => False) w w') : Scr w' a cs := Row.fr h hf (fun _ _ h => h)
theorem cl_one (c : Cl) : c.cells.toArray.all (·.oneCell') = true := by simp [Cl.cells, Acc.cells, Tx.cells, Value.oneCell']
def GreatP (w : World) (n : Nat) (e : Ending) (w' : World) : Prop := (∃ g, e = .returned (.bool g) ∧ (g = false → n ≤ 200)) ∧ Fr (fun _ => False) w w'
set_option maxRecDepth 4000 in
set_option maxHeartbeats 3200000 in
theorem great_any (w : World) (a : Option Addr) (cap : Nat) (cs : List Cl) (h : Scr w a cs) (hn : cs.length ≤ 140737488355328) :
    Calls Tryd.prog 22 #[.slice a cs.length cap] w (GreatP w cs.length) := by
  have HS := Lib.hid h
  obtain ⟨n, hnl⟩ : ∃ n, cs.length = n := ⟨_, rfl⟩
  have HN := Lib.hid hnl
  rw [hnl] at hn
  rw [hnl]
  clear h hnl
  go_enter Tryd.func22, Tryd.ntmps22
  go_wp2_with fail
  go_loopw [7] (fun iv wr => ∃ j : Nat, j ≤ n ∧ iv = .int .i64 j ∧ Fr (fun _ => False) w wr) (fun iv _ => ((n : Int) - intOf iv).toNat)
  case atStart => exact ⟨0, by omega, rfl, Fr.refl _ _⟩
  case round =>
    obtain ⟨j, hj, rfl, hf⟩ := hrel
    have HF := Lib.hid hf
    by_cases hjm : j < n
    · have hjI : (j : Int) < n := by omega
      have hjJ : (0 : Int) ≤ j := by omega
      obtain ⟨g, off, rfl, hr⟩ := scr_at (HS.out.fr hf) (show j < cs.length from by rw [HN.out]; exact hjm)
      obtain ⟨x, hx⟩ : ∃ x, cs[j]'(by rw [HN.out]; exact hjm) = x := ⟨_, rfl⟩
      rw [hx] at hr
      have HR := Lib.hid (World.rangeAt_alloc hr (.cells #[.int .i64 0, .int .u64 0, .int .u64 0, .int .u64 0, .int .u64 0, .int .u64 0, .int .u64 0, .int .u64 0, .int .u64 0, .int .u64 0, .int .u64 0, .int .i64 0, .int .i64 0, .int .i64 0, .int .i64 0, .int .u64 0, .int .u64 0, .int .u64 0, .int .u64 0, .int .u64 0, .int .u64 0, .int .u64 0, .int .u64 0, .int .u64 0, .int .u64 0, .int .i64 0, .int .i64 0, .int .i64 0, .int .i64 0, .int .i64 0, .int .i64 0, .int .u64 0, .int .u64 0, .int .u64 0, .int .u64 0, .int .u64 0, .int .u64 0, .int .u64 0, .int .u64 0, .int .u64 0, .int .u64 0, .int .i64 0, .int .i64 0, .int .i64 0, .int .i64 0, .int .i64 0, .int .i64 0, .bool false, .int .u64 0, .int .u64 0, .int .i64 0] 53))
      have HR0 := Lib.hid hr
      have HBz := Lib.hid (heap_alloc_new wr (.cells #[.int .i64 0, .int .u64 0, .int .u64 0, .int .u64 0, .int .u64 0, .int .u64 0, .int .u64 0, .int .u64 0, .int .u64 0, .int .u64 0, .int .u64 0, .int .i64 0, .int .i64 0, .int .i64 0, .int .i64 0, .int .u64 0, .int .u64 0, .int .u64 0, .int .u64 0, .int .u64 0, .int .u64 0, .int .u64 0, .int .u64 0, .int .u64 0, .int .u64 0, .int .i64 0, .int .i64 0, .int .i64 0, .int .i64 0, .int .i64 0, .int .i64 0, .int .u64 0, .int .u64 0, .int .u64 0, .int .u64 0, .int .u64 0, .int .u64 0, .int .u64 0, .int .u64 0, .int .u64 0, .int .u64 0, .int .i64 0, .int .i64 0, .int .i64 0, .int .i64 0, .int .i64 0, .int .i64 0, .bool false, .int .u64 0, .int .u64 0, .int .i64 0] 53))
      have w1 : IntKind.i64.wrap ((j : Int) + 1) = j + 1 := IntWalk.i64_in _ (by omega)
      obtain ⟨tm, htm⟩ : ∃ t, x.move.timeout = t := ⟨_, rfl⟩
      have HTm := Lib.hid htm
      clear hf hr hx htm
      go_upto_region 4 with (first | (refine wpList_load_mid rfl 53 (.tmp 9) rfl g (off + j * 51) rfl _ _ HR0.out Tryd.underlying53 rfl rfl ?_) | (refine wpList_load_mid rfl 53 (.tmp 9) rfl g (off + j * 51) rfl _ _ HR.out Tryd.underlying53 rfl rfl ?_) | ((refine wpList_store_row rfl 53 (.tmp 4) (.tmp 10) rfl wr.heap.size x.cells.toArray rfl rfl HBz.out rfl rfl (cl_one x) ?_); intro w9 hb9 f9; have HB9 := Lib.hid hb9; have F9 := Lib.hid f9; clear hb9 f9) | fail)
      have G9 := Lib.hid (show Fr (fun _ => False) w w9 from HF.out.then_ (((Fr.refl (fun _ => False) wr).alloc _).then_ F9.out (fun k hk => .inr (by omega))) (fun _ h => h.elim))
      have x41 : w9.cell? ⟨wr.heap.size, 41, none⟩ = some (.int .i64 tm) := by rw [← HTm.out]; exact blk_cell HB9.out 41 rfl
      by_cases t1 : tm < 0
      · go_wp2_with fail
        go_ret
        exact ⟨⟨true, rfl, fun h => by cases h⟩, G9.out⟩
      · by_cases t2 : 1099511627776 < tm
        · go_wp2_with fail
          go_ret
          exact ⟨⟨true, rfl, fun h => by cases h⟩, G9.out⟩
        · go_wp2_with fail
          go_roundw
          case rel => exact ⟨j + 1, by omega, by go_num, G9.out⟩
          case measure => simp [intOf]; omega
    · obtain rfl : j = n := by omega
      have hjI : ¬ (j : Int) < j := by omega
      clear hf
      go_wp2_with fail
      go_ret
      refine ⟨⟨decide (200 < (j : Int)), by first | rfl | simp, fun h => ?_⟩, HF.out⟩
      have := of_decide_eq_false h
      omega
end Go.Proofs.YtjchjpmgbmeohaaDoor

/- A whole block is stored over. -/
set_option linter.unusedSimpArgs false
set_option linter.unusedVariables false
namespace Go.Proofs.YtjchjpmgbmeohaaDoor
open Go.RowKit

/-- A store of a whole struct into a block that is known, as an equation. -/
theorem st_over {P : Program} (w : World) {g : Nat} {Z C : Array Value} {T : TypeId} (hb : w.heap[g]? = some (.cells Z T (0, 0))) (hs : Z.size = C.size) (h1 : C.all (·.oneCell') = true) : ∃ W : World, (storeCells ⟨g, 0, none⟩ C.toList).run P w = .ok () W ∧ W.heap[g]? = some (.cells C T (0, 0)) ∧ Fr (fun k => k = g) w W := by
  have hth : w.there g 0 C.size := fun j hj => by
    have hz : Z[0 + j]? = some (Z[0 + j]'(by omega)) := Array.getElem?_eq_getElem (by omega)
    exact ⟨by rw [blk_cell hb (0 + j) hz]; rfl, blk_free hb _⟩
  refine ⟨_, st_mid w g 0 C hth h1, ?_, setCells_fr g C.toList 0 _⟩
  have key : ∀ (l : List Value) (o : Nat) (W : World) (X : Array Value), W.heap[g]? = some (.cells X T (0, 0)) → o + l.length = X.size → ∃ Y : Array Value, (W.setCells g o l).heap[g]? = some (.cells Y T (0, 0)) ∧ Y.toList = X.toList.take o ++ l := by
    intro l
    induction l with
    | nil => intro o W X hW ho; exact ⟨X, hW, by rw [List.append_nil, List.take_of_length_le (by simp at ho ⊢; omega)]⟩
    | cons v l ih =>
      intro o W X hW ho
      obtain ⟨Y, hY, e⟩ := ih (o + 1) (W.setCell ⟨g, o, none⟩ v) (X.setIfInBounds o v) (blk_set hW o v) (by simp at ho ⊢; omega)
      refine ⟨Y, hY, ?_⟩
      rw [e]
      have ho' : o < X.toList.length := by simp at ho ⊢; omega
      rw [Array.toList_setIfInBounds, List.take_add_one, List.getElem?_set_self ho', List.take_set, List.set_eq_of_length_le (by simp; omega)]
      simp
  obtain ⟨Y, hY, e⟩ := key C.toList 0 _ Z hb (by simp; omega)
  rw [hY]
  have : Y = C := Array.ext' (by rw [e]; simp)
  rw [this]
end Go.Proofs.YtjchjpmgbmeohaaDoor

/- Both sides: foreign blocks; another state of the document's in the place of the one that stood. -/
set_option linter.unusedSimpArgs false
set_option linter.unusedVariables false
namespace Go.Proofs.YtjchjpmgbmeohaaDoor
open Go.RowKit

theorem fnd_dec {α : Type} {xs : List α} {o : Option α} {i : Int} (h : FndZ xs o i) : decide (0 ≤ i) = o.isSome := by
  rcases h with ⟨rfl, rfl⟩ | ⟨j, k, rfl, rfl, -⟩
  · rfl
  · simp
section
variable {F : Nat → Prop} {w0 w w' : World} {b : Nat} {d : Dd} {M M2 : Nat} {r : Raw} {es : List Ent} {big : Nat} {m m2 : RM} {ms : List (Raw × List Ent)} {n1 n2 : Nat}
theorem Bt.new (h : Bt F w0 w b d M r es big m ms) (f : Fr (fun _ => False) w w') : Bt (fun k => F k ∨ (w.heap.size ≤ k ∧ k < w'.heap.size)) w0 w' b d M r es big m ms := by
  obtain ⟨lab, q, mv, wv, id, st, h⟩ := h
  have k := h.frs (h.sta.fr f (fun _ h => h.elim)) f (fun _ _ h => h) (fun _ _ h => h) (fun _ h => h.elim) h.l0
  refine ⟨lab, q, mv, wv, id, st, { k with ff := fun j hj => hj.elim (fun hj => k.ff j hj) (fun e => ⟨h.sta.free e.1, ?_, e.2⟩) }⟩
  by_cases h0 : q j = 0
  · exact h0
  · exact absurd (h.q0 _ h0).2.2 (by omega)
theorem bmCopy (h : Bt F w0 w b d M r es big r.rm ms) (g : Good r) : Calls Tryd.prog 26 #[.pointer (some ⟨M, 0, none⟩)] w fun e w' => ∃ M2, e = .returned (.pointer (some ⟨M2, 0, none⟩)) ∧ MS w' (fun k => w.heap.size ≤ k ∧ k < w'.heap.size) M2 r.rm ∧ Fr (fun _ => False) w w' := by
  obtain ⟨q, hm⟩ := h.cur
  exact mCopy w q M r.rm hm (by have := g.na; show r.accs.length ≤ _; omega) (by have := g.nk; show r.kept.length ≤ _; omega)
theorem Bt.swap (h : Bt (fun k => n1 ≤ k ∧ k < n2) w0 w b d M r es big m ms) (hc : MS w (fun k => n1 ≤ k ∧ k < n2) M2 m2) (h0 : w0.heap.size ≤ n1) : Bt (fun _ => False) w0 (w.setCell ⟨b, 1, none⟩ (.pointer (some ⟨M2, 0, none⟩))) b d M2 r es big m2 ms ∧ Fr (fun k => k = b) w (w.setCell ⟨b, 1, none⟩ (.pointer (some ⟨M2, 0, none⟩))) := by
  obtain ⟨lab, q, mv, wv, id, st, h⟩ := h
  have f : Fr (fun k => k = b) w (w.setCell ⟨b, 1, none⟩ (.pointer (some ⟨M2, 0, none⟩))) := (Fr.refl (fun k => k = b) w).set1 _
  obtain ⟨id2, i2, hid⟩ := fresh_id (id :: st.map (·.1))
  obtain ⟨Q, hQ⟩ : ∃ Q : Nat → Nat, Q = fun k => if n1 ≤ k ∧ k < n2 then id2 else q k := ⟨_, rfl⟩
  have Qin : ∀ k, n1 ≤ k ∧ k < n2 → Q k = id2 := fun k hk => by rw [hQ]; exact if_pos hk
  have Qout : ∀ k, ¬ (n1 ≤ k ∧ k < n2) → Q k = q k := fun k hk => by rw [hQ]; exact if_neg hk
  have Qq : ∀ k, q k ≠ 0 → Q k = q k := fun k hk => Qout k (fun hF => hk (h.ff k hF).2.1)
  have qb1 : ∀ p ∈ (id :: st.map (·.1)), ∀ k, q k = p → ¬ k = b := fun p hp k hk e => by
    have := h.two p hp
    rw [e, h.qb] at hk
    omega
  have hnd := h.nd
  rw [List.nodup_cons] at hnd
  refine ⟨⟨lab, Q, mv, wv, id2, st, ⟨h.sta.fr f (fun k hk => by rw [hk]; exact (h.q0 b (by rw [h.qb]; decide)).1), ?_, own_fr h.mrk f (fun k hk => (h.qm k hk).2), own_fr h.was f (fun k hk => (h.qw k hk).2), h.len, ?_, fun i p x hp hx => ?_, ?_, fun j hj => ?_, ?_, fun k hk => ?_, fun k hk => ?_, h.mw, fun k hk => ?_, h.l0, h.fr.then_ f (fun k hk => .inr (by rw [hk]; exact (h.q0 b (by rw [h.qb]; decide)).2.1)), fun k hk => hk.elim⟩⟩, f⟩
  · have := blk_set h.blk 1 (.pointer (some ⟨M2, 0, none⟩))
    simpa using this
  · refine (hc.fr f (fun k hk e => ?_)).mono (fun k hk => Qin k hk) (fun k hk => ?_)
    · have := (h.ff k hk).2.1
      rw [show k = b from e, h.qb] at this
      cases this
    · have hk : Q k = id2 := hk
      by_cases hF : n1 ≤ k ∧ k < n2
      · exact Nat.lt_of_lt_of_le (h.ff k hF).2.2 f.size
      · rw [Qout k hF] at hk
        exact Nat.lt_of_lt_of_le (h.q0 k (by omega)).2.2 f.size
  · have hpm : p.1 ∈ id :: st.map (·.1) := List.mem_cons_of_mem _ (List.mem_map.2 ⟨p, List.mem_of_getElem? hp, rfl⟩)
    have h2 := h.two p.1 hpm
    refine ((h.old i p x hp hx).fr f (qb1 p.1 hpm)).mono (fun k hk => ?_) (fun k hk => ?_)
    · have hk : q k = p.1 := hk
      show Q k = p.1
      rw [Qq k (by omega), hk]
    · have hk : Q k = p.1 := hk
      by_cases hF : n1 ≤ k ∧ k < n2
      · have := hid p.1 hpm
        rw [Qin k hF] at hk
        omega
      · rw [Qout k hF] at hk
        exact Nat.lt_of_lt_of_le (h.q0 k (by omega)).2.2 f.size
  · rw [List.nodup_cons]
    refine ⟨fun hm => ?_, hnd.2⟩
    have := hid id2 (List.mem_cons_of_mem _ hm)
    omega
  · rcases List.mem_cons.1 hj with rfl | hj
    · exact i2
    · exact h.two j (List.mem_cons_of_mem _ hj)
  · rw [Qq b (by rw [h.qb]; decide), h.qb]
  · have := h.qm k hk
    exact ⟨by rw [Qq k (by rw [this.1]; decide), this.1], this.2⟩
  · have := h.qw k hk
    exact ⟨by rw [Qq k (by rw [this.1]; decide), this.1], this.2⟩
  · by_cases hF : n1 ≤ k ∧ k < n2
    · exact ⟨(h.ff k hF).1, by omega, Nat.lt_of_lt_of_le (h.ff k hF).2.2 f.size⟩
    · rw [Qout k hF] at hk
      obtain ⟨h1, h2, h3⟩ := h.q0 k hk
      exact ⟨h1, h2, Nat.lt_of_lt_of_le h3 f.size⟩
/-- A box that a part of an answer lies in. -/
def BoxP (w : World) (T : TypeId) (C : Array Value) (bk : Bool) (v1 v2 : Value) (w' : World) : Prop := ∃ g, v1 = .pointer (some ⟨g, 0, none⟩) ∧ v2 = .bool bk ∧ w'.heap[g]? = some (.cells C T (0, 0)) ∧ Fr (fun _ => False) w w'
end
end Go.Proofs.YtjchjpmgbmeohaaDoor

/- Books: what the laws' alive asks. -/
set_option linter.unusedSimpArgs false
set_option linter.unusedVariables false
namespace Go.Proofs.YtjchjpmgbmeohaaDoor
open Go.RowKit

theorem most_lt {w : World} (h : Most w) : 0 < w.heap.size := World.block_lt_of_cell? w _ h.hi
def one15 : Nm := ⟨0, 1⟩
def ac15 (s : Int) : Acc := ⟨⟨0, 1⟩, ⟨0, 0⟩, ⟨0, 0⟩, ⟨0, 0⟩, ⟨0, 0⟩, 0, 0, 2, s⟩
theorem ac15_ok : (ac15 1).ok := by
  refine ⟨⟨?_, ?_, ?_, ?_⟩, ⟨?_, ?_, ?_, ?_⟩, ⟨?_, ?_, ?_, ?_⟩, ⟨?_, ?_, ?_, ?_⟩, ⟨?_, ?_, ?_, ?_⟩, ?_, ?_, ?_, ?_⟩ <;> decide
theorem ac15_r : moreR (ac15 1) true one15 = 33 := by kernel_rfl
set_option maxRecDepth 4000 in
set_option maxHeartbeats 3200000 in
theorem alive15_any (w : World) (hm : Most w) : Calls Tryd.prog 9 #[] w fun e w' => e = .returned (.bool true) ∧ Fr (fun _ => False) w w' := by
  have HM := Lib.hid hm
  have HML := Lib.hid (most_lt hm)
  clear hm
  go_enter Tryd.func9, Tryd.ntmps9
  go_wp2_with fail
  refine (newS w).mono ?_
  rintro e w1 ⟨lab, d, rfl, h1, hl1, f1⟩
  have HO := Lib.hid (show Calls Tryd.prog 16 #[.pointer (some ⟨d.B, 0, none⟩), .agg #[.int .u64 0, .int .u64 1, .int .u64 0, .int .u64 0, .int .u64 0, .int .u64 0, .int .u64 0, .int .u64 0, .int .u64 0, .int .u64 0, .int .i64 0, .int .i64 0, .int .i64 2, .int .i64 0]] w1 (OpenPost w1 lab d Raw.empty [] 0 (ac15 0)) from openS w1 lab d Raw.empty [] 0 (ac15 0) h1 (by omega) (by decide) (by decide) (by decide))
  have F1 := Lib.hid f1
  have Hl1 := Lib.hid hl1
  clear h1 hl1 f1
  go_wp2_with fail
  refine HO.out.mono ?_
  rintro e w2 ⟨c, lab2, r2, es2, rfl, ho, h2, p2⟩
  have F2 := Lib.hid (F1.out.then_ p2.fr (fun k hk => .inr (Hl1.out k hk.1)))
  have hr : c = 0 ∧ r2.accs.length ≤ 1000000 ∧ acctR r2 one15 = some (ac15 1) := by
    cases ho with
    | full g => exact absurd g (by decide)
    | there g g2 => exact absurd g2 (by decide)
    | done g g2 b1 b2 b3 b4 b5 => exact ⟨rfl, by show ([] ++ [_]).length ≤ _; simp, by show (upd _ _ _ _).bind _ = _; rw [show (ac15 0).id = one15 from rfl, upd_self]; rfl⟩
  obtain ⟨rfl, hlen, hfind⟩ := hr
  have HA := acctS w2 lab2 d r2 es2 _ one15 h2 hlen
  rw [hfind] at HA
  have HAc := Lib.hid (show Calls Tryd.prog 32 #[.pointer (some ⟨d.B, 0, none⟩), .agg #[.int .u64 0, .int .u64 1]] w2 fun e w' => e = .returned (.tuple #[.agg #[.int .u64 0, .int .u64 1, .int .u64 0, .int .u64 0, .int .u64 0, .int .u64 0, .int .u64 0, .int .u64 0, .int .u64 0, .int .u64 0, .int .i64 0, .int .i64 0, .int .i64 2, .int .i64 1], .bool true]) ∧ Fr (fun _ => False) w2 w' from HA)
  clear ho h2 p2 hlen hfind HA
  go_wp2_with fail
  refine HAc.out.mono ?_
  rintro e w3 ⟨rfl, f3⟩
  have F3 := Lib.hid ((F2.out.then_ f3 (fun _ h => h.elim)).alloc (.cells #[.int .u64 0, .int .u64 1, .int .u64 0, .int .u64 0, .int .u64 0, .int .u64 0, .int .u64 0, .int .u64 0, .int .u64 0, .int .u64 0, .int .i64 0, .int .i64 0, .int .i64 2, .int .i64 1] 26))
  have BA := Lib.hid (heap_alloc_new w3 (.cells #[.int .u64 0, .int .u64 1, .int .u64 0, .int .u64 0, .int .u64 0, .int .u64 0, .int .u64 0, .int .u64 0, .int .u64 0, .int .u64 0, .int .i64 0, .int .i64 0, .int .i64 2, .int .i64 1] 26))
  have HD := Debit_any (w3.alloc (.cells #[.int .u64 0, .int .u64 1, .int .u64 0, .int .u64 0, .int .u64 0, .int .u64 0, .int .u64 0, .int .u64 0, .int .u64 0, .int .u64 0, .int .i64 0, .int .i64 0, .int .i64 2, .int .i64 1] 26)) (ac15 1) one15 false ac15_ok ⟨by decide, by decide, by decide, by decide⟩ (HM.out.fr F3.out (fun h => h))
  rw [ac15_r] at HD
  rw [show moreA (ac15 1) true one15 false = ac15 1 from by kernel_rfl] at HD
  have HDb := Lib.hid (show Calls Tryd.prog 11 #[.agg #[.int .u64 0, .int .u64 1, .int .u64 0, .int .u64 0, .int .u64 0, .int .u64 0, .int .u64 0, .int .u64 0, .int .u64 0, .int .u64 0, .int .i64 0, .int .i64 0, .int .i64 2, .int .i64 1], .agg #[.int .u64 0, .int .u64 1], .bool false] (w3.alloc (.cells #[.int .u64 0, .int .u64 1, .int .u64 0, .int .u64 0, .int .u64 0, .int .u64 0, .int .u64 0, .int .u64 0, .int .u64 0, .int .u64 0, .int .i64 0, .int .i64 0, .int .i64 2, .int .i64 1] 26)) fun e w' => e = .returned (.tuple #[.agg #[.int .u64 0, .int .u64 1, .int .u64 0, .int .u64 0, .int .u64 0, .int .u64 0, .int .u64 0, .int .u64 0, .int .u64 0, .int .u64 0, .int .i64 0, .int .i64 0, .int .i64 2, .int .i64 1], .int .i64 33]) ∧ Fr (fun _ => False) (w3.alloc (.cells #[.int .u64 0, .int .u64 1, .int .u64 0, .int .u64 0, .int .u64 0, .int .u64 0, .int .u64 0, .int .u64 0, .int .u64 0, .int .u64 0, .int .i64 0, .int .i64 0, .int .i64 2, .int .i64 1] 26)) w' from HD)
  clear f3 HD
  go_wp2_with (first | ((with_reducible refine wpList_load_row_w ?lw 26 _ rfl w3.heap.size rfl 26 _ _ _ BA.out Tryd.underlying26 rfl rfl ?_); (case lw => rfl)) | fail)
  refine HDb.out.mono ?_
  rintro e w4 ⟨rfl, f4⟩
  have F4 := Lib.hid ((F3.out.then_ f4 (fun _ h => h.elim)).alloc (.cells #[.int .u64 0, .int .u64 1, .int .u64 0, .int .u64 0, .int .u64 0, .int .u64 0, .int .u64 0, .int .u64 0, .int .u64 0, .int .u64 0, .int .i64 0, .int .i64 0, .int .i64 2, .int .i64 1] 26))
  have m13 := blk_cell (blk_alloc (f4.blk BA.out (fun h => h)) (.cells #[.int .u64 0, .int .u64 1, .int .u64 0, .int .u64 0, .int .u64 0, .int .u64 0, .int .u64 0, .int .u64 0, .int .u64 0, .int .u64 0, .int .i64 0, .int .i64 0, .int .i64 2, .int .i64 1] 26)) 13 rfl
  clear f4
  go_wp2_with fail
  go_ret
  exact ⟨rfl, F4.out⟩
end Go.Proofs.YtjchjpmgbmeohaaDoor

/- A region that draws, whose operations read and whose callees make new memory alone: one walk, over the class of worlds that keep what was. -/
set_option linter.unusedSimpArgs false
set_option linter.unusedVariables false
namespace Go.Proofs.YtjchjpmgbmeohaaDoor
open Go.RowKit

theorem class_fr (W : World) : ∃ (T : Type) (G : T → World), Nonempty T ∧ (∀ n, Fr (fun _ => False) W (G n)) ∧ (∀ w', Fr (fun _ => False) W w' → ∃ n, w' = G n) :=
  ⟨{w' : World // Fr (fun _ => False) W w'}, fun n => n.1, ⟨⟨W, Fr.refl _ _⟩⟩, fun n => n.2, fun w' h => ⟨⟨w', h⟩, rfl⟩⟩
theorem wp_region_quiet_G {P : Program} {T : Type} (G : T → World) {id : Nat} {Q : Exit → Act → World → Prop} {a : Act} {w : World} {l : List Oper} (hm : P.follows .mixedOrders = true) (hB : Region.lexB .any l.toArray = true) (h0 : ∃ n, w.drew = G n)
    (h : wpQuiet P l.toArray (fun w' => ∃ n, w' = G n) (fun a' => ∀ w', (∃ n, w' = G n) → Q .normal a' w') l a) : (Code.region id l.toArray true).wp P Q a w :=
  wp_region_quiet (C := fun w' => ∃ n, w' = G n) hm hB h0 (by simpa using h)
/-- The document finds an account: which one is told. -/
theorem rmAcctV {w : World} {T : Nat → Prop} {M : Nat} {r : Raw} (h : MS w T M r.rm) (g : Good r) (id : Nm) : Calls Tryd.prog 35 #[.pointer (some ⟨M, 0, none⟩), .agg #[.int .u64 id.hi, .int .u64 id.lo]] w fun e w' => e = .returned (.int .i64 ((r.ids id).getD (-1))) ∧ Fr (fun _ => False) w w' :=
  (mAcct w T M r.rm id h (by have := g.na; show r.accs.length ≤ _; omega)).mono fun e w' ⟨⟨i, he, hi⟩, f⟩ => ⟨by
    rw [he]
    rcases hi with ⟨rfl, hn⟩ | ⟨k, x, rfl, h1, h2⟩
    · rw [(ixr_none g.ids id).2 (fun x hx => hn x hx)]; rfl
    · rw [(g.ids id k).2 ⟨k, x, rfl, h1, h2⟩]; rfl, f⟩
theorem acct_val {r : Raw} (g : Good r) (id : Nm) : decide (0 ≤ (r.ids id).getD (-1)) = (acctR r id).isSome := by
  rw [acctR]
  cases hx : r.ids id with
  | none => rfl
  | some v =>
    obtain ⟨k, x, rfl, h1, h2⟩ := (g.ids id v).1 hx
    show decide (0 ≤ (k : Int)) = (atZ r.accs k).isSome
    rw [atZ_nat, h1]
    simp
end Go.Proofs.YtjchjpmgbmeohaaDoor

/- Books' Load, plain: what is loaded, part by part. -/
set_option linter.unusedSimpArgs false
set_option linter.unusedVariables false
namespace Go.Proofs.YtjchjpmgbmeohaaDoor
open Go.RowKit

theorem cell_lt' {w : World} {g : Nat} {o : Nat} {v : Value} (h : w.cell? ⟨g, o, none⟩ = some v) : g < w.heap.size := by
  by_cases hg : g < w.heap.size
  · exact hg
  · have : w.heap[g]? = none := Array.getElem?_eq_none (by omega)
    simp [World.cell?, this] at h
theorem row_atf {α : Type} {f : α → List Value} {sz : Nat} {T : TypeId} (hf : ∀ x, (f x).length = sz) {w : World} {a : Option Addr} {cap n : Nat} {l : List α} (h : w.ownsRow 0 T sz (.slice a n cap) n (l.flatMap f)) (hn : l.length = n) {j : Nat} {y : α} (hy : l[j]? = some y) :
    ∃ g, a = some ⟨g, 0, none⟩ ∧ (j : Int) < n ∧ w.rangeAt g (j * sz) (f y).toArray.toList := by
  obtain ⟨hl, hy2⟩ := List.getElem?_eq_some_iff.1 hy
  obtain ⟨gk, ck, e0⟩ := own_some h (by omega)
  simp only [Value.slice.injEq] at e0
  obtain ⟨rfl, -, rfl⟩ := e0
  have hr := rw_range (f := f) (sz := sz) hf h hn hl
  rw [hy2] at hr
  exact ⟨gk, rfl, by omega, hr⟩
/-- No two of them have the same. -/
def Dist {α β : Type} (f : α → β) (l : List α) : Prop := ∀ (i j : Nat) (x y : α), l[i]? = some x → l[j]? = some y → f x = f y → i = j
def LdOk (xs : List Acc) (ks : List Kp) (c s : Int) : Prop := xs.length ≤ 32 ∧ ks.length ≤ 96 ∧ (0 ≤ c ∧ c ≤ 1099511627776) ∧ (0 ≤ s ∧ s ≤ 1099511627776) ∧ Dist (fun a => a.id) xs ∧ Dist (fun k => k.move.id) ks ∧ Dist (fun k => k.move.stamp) ks ∧ ∀ k ∈ ks, 0 ≤ k.fate ∧ k.fate ≤ 4
structure LdG (r : Raw) : Prop where
  ids : IxR r.accs (fun a => a.id) r.ids
  nms : IxR r.kept (fun k => k.move.id) r.nms
  sts : IxR r.kept (fun k => k.move.stamp) r.sts
  ends : EndsR r.kept r.ends
  fat : ∀ m ∈ r.kept, 0 ≤ m.fate ∧ m.fate ≤ 4
section
variable {r r0 : Raw}
theorem ldg_empty : LdG Raw.empty := ⟨good_empty.ids, good_empty.nms, good_empty.sts, good_empty.ends, good_empty.lim.1⟩
theorem LdG.addA (g : LdG r) {a : Acc} (h : r.ids a.id = none) : LdG { r with accs := r.accs ++ [a], ids := upd r.ids a.id (some (r.accs.length : Int)) } := ⟨ixr_push g.ids h, g.nms, g.sts, g.ends, g.fat⟩
theorem LdG.noEnd (g : LdG r) {k : Kp} (h : r.sts k.move.stamp = none) : r.ends k.move.stamp = none := by
  cases hx : r.ends k.move.stamp with
  | none => rfl
  | some x =>
    obtain ⟨m, hm, h1, -, -⟩ := (g.ends _ _).1 hx
    exact absurd h1 ((ixr_none g.sts _).1 h m hm)
theorem LdG.addK (g : LdG r) {k : Kp} (h1 : r.nms k.move.id = none) (h2 : r.sts k.move.stamp = none) (hf : 0 ≤ k.fate ∧ k.fate ≤ 4) {f : Int → Option Itm} (hr : (dueB k = false ∧ f = r.ends) ∨ (dueB k = true ∧ f = upd r.ends k.move.stamp (some k.itm))) :
    LdG { r with kept := r.kept ++ [k], nms := upd r.nms k.move.id (some (r.kept.length : Int)), sts := upd r.sts k.move.stamp (some (r.kept.length : Int)), ends := f } := by
  refine ⟨g.ids, ixr_push g.nms h1, ixr_push g.sts h2, fun s x => ?_, fun m hm => ?_⟩
  · show f s = some x ↔ _
    rcases hr with ⟨hd, rfl⟩ | ⟨hd, rfl⟩
    · rw [g.ends]
      constructor
      · rintro ⟨m, hm, h3⟩; exact ⟨m, List.mem_append_left _ hm, h3⟩
      · rintro ⟨m, hm, h3, h4, h5⟩
        rcases List.mem_append.1 hm with hm | hm
        · exact ⟨m, hm, h3, h4, h5⟩
        · rw [List.mem_singleton.1 hm, hd] at h4; cases h4
    · by_cases e : s = k.move.stamp
      · subst e
        rw [upd_self]
        constructor
        · intro hx
          obtain rfl := Option.some.inj hx
          exact ⟨k, List.mem_append_right _ (List.mem_singleton.2 rfl), rfl, hd, rfl⟩
        · rintro ⟨m, hm, h3, h4, h5⟩
          rcases List.mem_append.1 hm with hm | hm
          · exact absurd h3 ((ixr_none g.sts _).1 h2 m hm)
          · rw [List.mem_singleton.1 hm] at h5; rw [h5]
      · rw [upd_ne _ _ e, g.ends]
        constructor
        · rintro ⟨m, hm, h3⟩; exact ⟨m, List.mem_append_left _ hm, h3⟩
        · rintro ⟨m, hm, h3, h4, h5⟩
          rcases List.mem_append.1 hm with hm | hm
          · exact ⟨m, hm, h3, h4, h5⟩
          · rw [List.mem_singleton.1 hm] at h3; exact absurd h3.symm e
  · rcases List.mem_append.1 hm with hm | hm
    · exact g.fat m hm
    · rw [List.mem_singleton.1 hm]; exact hf
theorem ixr_dup {α β : Type} {xs : List α} {f : α → β} {g : β → Option Int} {i : Nat} {a : α} (h : IxR (xs.take i) f g) (ha : xs[i]? = some a) (hs : (g (f a)).isSome = true) : ¬ Dist f xs := by
  intro hd
  obtain ⟨z, hz⟩ := Option.isSome_iff_exists.1 hs
  obtain ⟨k, x, -, h2, h3⟩ := (h _ _).1 hz
  have hk : k < i := by
    have := (List.getElem?_eq_some_iff.1 h2).1
    rw [List.length_take] at this
    omega
  rw [List.getElem?_take_of_lt hk] at h2
  have := hd k i x a h2 ha h3
  omega
theorem ixr_uniq {α β : Type} {xs : List α} {f : α → β} {g g' : β → Option Int} (h : IxR xs f g) (h' : IxR xs f g') : g = g' := by
  funext y
  apply Option.ext
  intro i
  rw [h, h']
theorem ixr_dist {α β : Type} {xs : List α} {f : α → β} {g : β → Option Int} (h : IxR xs f g) : Dist f xs := fun _ _ _ _ hx hy e => ixr_inj h hx hy e
theorem good_ok (g : Good r) (hs : r.stamp ≤ 1099511627776) : LdOk r.accs r.kept r.clock r.stamp := ⟨g.na, g.nk, g.lim.2.1, ⟨g.s0, hs⟩, ixr_dist g.ids, ixr_dist g.nms, ixr_dist g.sts, g.lim.1⟩
theorem ldg_same (g : LdG r) (g0 : Good r0) (ha : r.accs = r0.accs) (hk : r.kept = r0.kept) (hc : r.clock = r0.clock) (hs : r.stamp = r0.stamp) : r = r0 := by
  obtain ⟨a, k, i, n, s, e, c, p⟩ := r
  obtain ⟨a', k', i', n', s', e', c', p'⟩ := r0
  obtain ⟨gi, gn, gs, ge, -⟩ := g
  have hi' := g0.ids
  have hn' := g0.nms
  have hs' := g0.sts
  have he' := g0.ends
  simp only at ha hk hc hs gi gn gs ge hi' hn' hs' he'
  subst ha hk hc hs
  obtain rfl := ixr_uniq gi hi'
  obtain rfl := ixr_uniq gn hn'
  obtain rfl := ixr_uniq gs hs'
  obtain rfl : e = e' := by
    funext y
    apply Option.ext
    intro x
    rw [ge, he']
  rfl
theorem dist_twice {α β : Type} {f : α → β} {l : List α} (h : Dist f (l ++ l)) : l = [] := by
  cases l with
  | nil => rfl
  | cons x t =>
    exfalso
    have := h 0 (t.length + 1) x x (by simp) (by simp) rfl
    omega
end
/-- A state that lies in new blocks alone. -/
structure LdS (w w' : World) (lab : Nat → Nat) (d : Dd) (r : Raw) (es : List Ent) (big : Nat) : Prop where
  s : Sta w' lab d r es big
  hi : ∀ k, lab k ≠ 0 → w.heap.size ≤ k
  f : Fr (fun _ => False) w w'
section
variable {w w1 w2 : World} {lab lab2 : Nat → Nat} {d : Dd} {r r2 : Raw} {es es2 : List Ent} {big big2 : Nat}
theorem LdS.fr (h : LdS w w1 lab d r es big) (f : Fr (fun _ => False) w1 w2) : LdS w w2 lab d r es big := ⟨h.s.fr f (fun _ h => h.elim), h.hi, h.f.then_ f (fun _ h => h.elim)⟩
theorem LdS.step (h : LdS w w1 lab d r es big) (s : Sta w2 lab2 d r2 es2 big2) (p : Stp w1.heap.size w1 lab w2 lab2) : LdS w w2 lab2 d r2 es2 big2 := by
  refine ⟨s, fun k hk => ?_, h.f.then_ p.fr (fun k hk => .inr (h.hi k hk.1))⟩
  by_cases hl : k < w1.heap.size
  · rw [p.lx k hl] at hk; exact h.hi k hk
  · have := h.f.size; omega
theorem LdS.change {S : Nat → Prop} (h : LdS w w1 lab d r es big) (s : Sta w2 lab d r2 es2 big2) (f : Fr S w1 w2) (hS : ∀ k, S k → lab k ≠ 0) : LdS w w2 lab d r2 es2 big2 := ⟨s, h.hi, h.f.then_ f (fun k hk => .inr (h.hi k (hS k hk)))⟩
theorem LdS.more (h : LdS w w1 lab d r es big) (hb : big ≤ big2) : LdS w w1 lab d r es big2 := ⟨h.s.more hb, h.hi, h.f⟩
end
def LoadP (w : World) (xs : List Acc) (ks : List Kp) (c s : Int) (e : Ending) (w' : World) : Prop :=
  (e = .returned (.tuple #[.pointer none, .int .i64 1]) ∧ ¬ LdOk xs ks c s ∧ Fr (fun _ => False) w w') ∨ ∃ lab d r, e = .returned (.tuple #[.pointer (some ⟨d.B, 0, none⟩), .int .i64 0]) ∧ LdS w w' lab d r [] 2000 ∧ r.accs = xs ∧ r.kept = ks ∧ r.clock = c ∧ r.stamp = s ∧ LdG r ∧ (0 ≤ c ∧ c ≤ 1099511627776 ∧ 0 ≤ s ∧ s ≤ 1099511627776 ∧ xs.length ≤ 32 ∧ ks.length ≤ 96)
end Go.Proofs.YtjchjpmgbmeohaaDoor

/- BooksBack. -/
set_option linter.unusedSimpArgs false
set_option linter.unusedVariables false
namespace Go.Proofs.YtjchjpmgbmeohaaDoor
open Go.RowKit

attribute [-go_sem] loadCells
set_option maxRecDepth 8000 in
set_option maxHeartbeats 25600000 in
theorem back_any (w : World) (hm : Most w) (a a2 : Option Addr) (cap cap2 : Nat) (cs cs2 : List Cl) (id : Nm) (hs : Scr w a cs) (hn : cs.length ≤ 140737488355328) (hs2 : Scr w a2 cs2) (hn2 : cs2.length ≤ 140737488355328) :
    Calls Tryd.prog 6 #[.slice a cs.length cap, .slice a2 cs2.length cap2, .agg #[.int .u64 id.hi, .int .u64 id.lo]] w fun e w' => e = .returned (.bool true) ∧ Fr (fun _ => False) w w' := by
  have F0 := Lib.hid ((Fr.refl (fun _ => False) w).alloc (.cells #[.int .u64 id.hi, .int .u64 id.lo] 24))
  have HBi := Lib.hid (heap_alloc_new w (.cells #[.int .u64 id.hi, .int .u64 id.lo] 24))
  obtain ⟨gi, hgi⟩ : ∃ g, w.heap.size = g := ⟨_, rfl⟩
  rw [hgi] at HBi
  have HAl := Lib.hid (alive15_any (w.alloc (.cells #[.int .u64 id.hi, .int .u64 id.lo] 24)) (hm.fr F0.out (fun h => h)))
  have HGr := Lib.hid (fun W (f : Fr (fun _ => False) w W) => great_any W a cap cs (hs.fr f) hn)
  have HGr2 := Lib.hid (fun W (f : Fr (fun _ => False) w W) => great_any W a2 cap2 cs2 (hs2.fr f) hn2)
  have HSt := Lib.hid (fun W => start_any W)
  have HS := Lib.hid hs
  have HS2 := Lib.hid hs2
  obtain ⟨n, hnl⟩ : ∃ n, cs.length = n := ⟨_, rfl⟩
  have HN := Lib.hid hnl
  rw [hnl] at HGr
  rw [hnl]
  obtain ⟨n2, hnl2⟩ : ∃ n, cs2.length = n := ⟨_, rfl⟩
  have HN2 := Lib.hid hnl2
  rw [hnl2] at HGr2
  rw [hnl2]
  clear hs hnl hn hs2 hnl2 hn2
  go_enter Tryd.func6, Tryd.ntmps6
  go_wp2_with fail
  refine HAl.out.mono ?_
  rintro e w1 ⟨rfl, f1⟩
  clear hgi
  have F1 := Lib.hid (F0.out.then_ f1 (fun _ h => h.elim))
  have HBi1 := Lib.hid (f1.blk HBi.out (fun h => h))
  clear f1
  go_wp2_with fail
  refine (HGr.out w1 F1.out).mono ?_
  rintro e w2 ⟨⟨gr, rfl, hgr⟩, f2⟩
  have F2 := Lib.hid (F1.out.then_ f2 (fun _ h => h.elim))
  have HBi2 := Lib.hid (f2.blk HBi1.out (fun h => h))
  clear f2
  cases gr with
  | true =>
    clear hgr
    go_wp2_with fail
    go_ret
    exact ⟨rfl, F2.out⟩
  | false =>
  have hn : n ≤ 200 := hgr rfl
  clear hgr
  go_wp2_with fail
  refine (HGr2.out w2 F2.out).mono ?_
  rintro e w3 ⟨⟨gr, rfl, hgr⟩, f3⟩
  have F3 := Lib.hid (F2.out.then_ f3 (fun _ h => h.elim))
  have HBi3 := Lib.hid (f3.blk HBi2.out (fun h => h))
  clear f3
  cases gr with
  | true =>
    clear hgr
    go_wp2_with fail
    go_ret
    exact ⟨rfl, F3.out⟩
  | false =>
  have hn2 : n2 ≤ 200 := hgr rfl
  clear hgr
  go_wp2_with fail
  refine (HSt.out w3).mono ?_
  rintro e w4 ⟨b, d, M0, rfl, h4⟩
  have H4 := Lib.hid h4
  clear h4
  go_wp2_with fail
  go_loopw [35] (fun iv wr => ∃ j : Nat, j ≤ n ∧ iv = .int .i64 j ∧ ∃ M r es ms, Bt (fun _ => False) w3 wr b d M r es (8 * j) r.rm ms ∧ Good r ∧ MkOk r es ms ∧ ms.length ≤ j) (fun iv _ => ((n : Int) - intOf iv).toNat)
  case atStart => exact ⟨0, by omega, rfl, M0, Raw.empty, [], [], H4.out, good_empty, trivial, Nat.le_refl _⟩
  case round =>
    obtain ⟨j, hj, rfl, M, r, es, ms, hb, hg, hmk, hml⟩ := hrel
    have HBt := Lib.hid hb
    have HG := Lib.hid hg
    have HMk := Lib.hid hmk
    by_cases hjm : j < n
    · as_aux_lemma =>
        have hjI : (j : Int) < n := by omega
        have hjJ : (0 : Int) ≤ j := by omega
        obtain ⟨g, off, rfl, hr⟩ := scr_at (HS.out.fr (F3.out.then_ hb.old0 (fun _ h => h.elim))) (show j < cs.length from by rw [HN.out]; exact hjm)
        obtain ⟨x, hx⟩ : ∃ x, cs[j]'(by rw [HN.out]; exact hjm) = x := ⟨_, rfl⟩
        rw [hx] at hr
        have HR := Lib.hid (World.rangeAt_alloc hr (.cells #[.int .i64 0, .int .u64 0, .int .u64 0, .int .u64 0, .int .u64 0, .int .u64 0, .int .u64 0, .int .u64 0, .int .u64 0, .int .u64 0, .int .u64 0, .int .i64 0, .int .i64 0, .int .i64 0, .int .i64 0, .int .u64 0, .int .u64 0, .int .u64 0, .int .u64 0, .int .u64 0, .int .u64 0, .int .u64 0, .int .u64 0, .int .u64 0, .int .u64 0, .int .i64 0, .int .i64 0, .int .i64 0, .int .i64 0, .int .i64 0, .int .i64 0, .int .u64 0, .int .u64 0, .int .u64 0, .int .u64 0, .int .u64 0, .int .u64 0, .int .u64 0, .int .u64 0, .int .u64 0, .int .u64 0, .int .i64 0, .int .i64 0, .int .i64 0, .int .i64 0, .int .i64 0, .int .i64 0, .bool false, .int .u64 0, .int .u64 0, .int .i64 0] 53))
        have HR0 := Lib.hid hr
        have HBz := Lib.hid (heap_alloc_new wr (.cells #[.int .i64 0, .int .u64 0, .int .u64 0, .int .u64 0, .int .u64 0, .int .u64 0, .int .u64 0, .int .u64 0, .int .u64 0, .int .u64 0, .int .u64 0, .int .i64 0, .int .i64 0, .int .i64 0, .int .i64 0, .int .u64 0, .int .u64 0, .int .u64 0, .int .u64 0, .int .u64 0, .int .u64 0, .int .u64 0, .int .u64 0, .int .u64 0, .int .u64 0, .int .i64 0, .int .i64 0, .int .i64 0, .int .i64 0, .int .i64 0, .int .i64 0, .int .u64 0, .int .u64 0, .int .u64 0, .int .u64 0, .int .u64 0, .int .u64 0, .int .u64 0, .int .u64 0, .int .u64 0, .int .u64 0, .int .i64 0, .int .i64 0, .int .i64 0, .int .i64 0, .int .i64 0, .int .i64 0, .bool false, .int .u64 0, .int .u64 0, .int .i64 0] 53))
        have w1' : IntKind.i64.wrap ((j : Int) + 1) = j + 1 := IntWalk.i64_in _ (by omega)
        clear hr hx
        clear hb hg hmk
        go_upto_region 9 with (first | (refine wpList_load_mid rfl 53 (.tmp 37) rfl g (off + j * 51) rfl _ _ HR0.out Tryd.underlying53 rfl rfl ?_) | (refine wpList_load_mid rfl 53 (.tmp 37) rfl g (off + j * 51) rfl _ _ HR.out Tryd.underlying53 rfl rfl ?_) | ((refine wpList_store_row rfl 53 (.tmp 9) (.tmp 38) rfl wr.heap.size x.cells.toArray rfl rfl HBz.out rfl rfl (cl_one x) ?_); intro w9 hb9 f9; have HB9 := Lib.hid hb9; have F9 := Lib.hid f9; clear hb9 f9) | fail)
        have G9 := Lib.hid (((Fr.refl (fun _ => False) wr).alloc (.cells #[.int .i64 0, .int .u64 0, .int .u64 0, .int .u64 0, .int .u64 0, .int .u64 0, .int .u64 0, .int .u64 0, .int .u64 0, .int .u64 0, .int .u64 0, .int .i64 0, .int .i64 0, .int .i64 0, .int .i64 0, .int .u64 0, .int .u64 0, .int .u64 0, .int .u64 0, .int .u64 0, .int .u64 0, .int .u64 0, .int .u64 0, .int .u64 0, .int .u64 0, .int .i64 0, .int .i64 0, .int .i64 0, .int .i64 0, .int .i64 0, .int .i64 0, .int .u64 0, .int .u64 0, .int .u64 0, .int .u64 0, .int .u64 0, .int .u64 0, .int .u64 0, .int .u64 0, .int .u64 0, .int .u64 0, .int .i64 0, .int .i64 0, .int .i64 0, .int .i64 0, .int .i64 0, .int .i64 0, .bool false, .int .u64 0, .int .u64 0, .int .i64 0] 53)).then_ F9.out (fun k hk => .inr (by omega)))
        have HBt9 := Lib.hid (HBt.out.frF G9.out)
        have HDo := Lib.hid (does_any HBt9.out HG.out HMk.out (by omega) (by omega) x)
        go_wp2_with (first | ((with_reducible refine wpList_load_row_w ?lw 53 _ rfl wr.heap.size rfl 53 _ _ _ HB9.out Tryd.underlying53 rfl rfl ?_); (case lw => rfl)) | fail)
        refine HDo.out.mono ?_
        rintro e w10 ⟨rfl, M', r', es', ms', h', g', mk', -, -, hl'⟩
        have H10 := Lib.hid h'
        have G10 := Lib.hid g'
        have MK10 := Lib.hid mk'
        clear h' g' mk'
        go_wp2_with fail
        go_roundw
        case rel => exact ⟨j + 1, by omega, by go_num, M', r', es', ms', H10.out.more (by omega), G10.out, MK10.out, by omega⟩
        case measure => simp [intOf]; omega
    · obtain rfl : j = n := by omega
      have hjI : ¬ (j : Int) < j := by omega
      have HF3 := Lib.hid (F3.out.then_ hb.old0 (fun _ h => h.elim))
      have HBi4 := Lib.hid (hb.old0.blk HBi3.out (fun h => h))
      obtain ⟨b0, b1⟩ := hb.cells
      obtain ⟨wa, hwa⟩ : ∃ W, W = wr := ⟨_, rfl⟩
      subst hwa
      have HCp := Lib.hid (bmCopy HBt.out HG.out)
      clear hb hg hmk
      go_wp2_with fail
      refine HCp.out.mono ?_
      rintro e wb ⟨M2, rfl, hms2, fb⟩
      have Fb := Lib.hid fb
      have HM2 := Lib.hid hms2
      have HBb := Lib.hid ((HBt.out.new fb).less (F2 := fun k => wa.heap.size ≤ k ∧ k < wb.heap.size) (fun k hk => .inr hk))
      have b0 := fb.cell b0 (fun h => h)
      clear hms2 fb b1
      go_wp2_with fail
      refine (btMark HBb.out).mono ?_
      rintro e wc ⟨rfl, fc⟩
      have HBc := Lib.hid (HBb.out.frF fc)
      have HMc := Lib.hid (HM2.out.fr fc (fun _ _ h => h))
      have HW := Lib.hid (show w3.heap.size ≤ wa.heap.size from HBt.out.old0.size)
      clear fc b0
      obtain ⟨nb, hnb⟩ : ∃ k, wb.heap.size = k := ⟨_, rfl⟩
      obtain ⟨na, hna⟩ : ∃ k, wa.heap.size = k := ⟨_, rfl⟩
      rw [hnb, hna] at HBc HMc
      rw [hna] at HW
      clear hnb hna
      go_wp2_with fail
      go_loopw [55] (fun iv wr => ∃ i : Nat, i ≤ n2 ∧ iv = .int .i64 i ∧ ∃ M' r' es', Bt (fun k => na ≤ k ∧ k < nb) w3 wr b d M' r' es' (8 * j + 8 * i) r'.rm ms ∧ Good r' ∧ Backs r es r' es' ∧ MS wr (fun k => na ≤ k ∧ k < nb) M2 r.rm) (fun iv _ => ((n2 : Int) - intOf iv).toNat)
      case atStart => exact ⟨0, by omega, rfl, M, r, es, HBc.out, HG.out, Backs.refl _ _, HMc.out⟩
      case round =>
        obtain ⟨i, hi, rfl, M', r', es', hb', hg', hbk, hm2⟩ := hrel
        have HBt' := Lib.hid hb'
        have HG' := Lib.hid hg'
        have HBk' := Lib.hid hbk
        have HM2' := Lib.hid hm2
        have HFr := Lib.hid (F3.out.then_ hb'.old0 (fun _ h => h.elim))
        by_cases him : i < n2
        · as_aux_lemma =>
            have hiI : (i : Int) < n2 := by omega
            have hiJ : (0 : Int) ≤ i := by omega
            obtain ⟨g, off, rfl, hr⟩ := scr_at (HS2.out.fr HFr.out) (show i < cs2.length from by rw [HN2.out]; exact him)
            obtain ⟨x, hx⟩ : ∃ x, cs2[i]'(by rw [HN2.out]; exact him) = x := ⟨_, rfl⟩
            rw [hx] at hr
            have HR := Lib.hid (World.rangeAt_alloc hr (.cells #[.int .i64 0, .int .u64 0, .int .u64 0, .int .u64 0, .int .u64 0, .int .u64 0, .int .u64 0, .int .u64 0, .int .u64 0, .int .u64 0, .int .u64 0, .int .i64 0, .int .i64 0, .int .i64 0, .int .i64 0, .int .u64 0, .int .u64 0, .int .u64 0, .int .u64 0, .int .u64 0, .int .u64 0, .int .u64 0, .int .u64 0, .int .u64 0, .int .u64 0, .int .i64 0, .int .i64 0, .int .i64 0, .int .i64 0, .int .i64 0, .int .i64 0, .int .u64 0, .int .u64 0, .int .u64 0, .int .u64 0, .int .u64 0, .int .u64 0, .int .u64 0, .int .u64 0, .int .u64 0, .int .u64 0, .int .i64 0, .int .i64 0, .int .i64 0, .int .i64 0, .int .i64 0, .int .i64 0, .bool false, .int .u64 0, .int .u64 0, .int .i64 0] 53))
            have HR0 := Lib.hid hr
            have HBz := Lib.hid (heap_alloc_new wr (.cells #[.int .i64 0, .int .u64 0, .int .u64 0, .int .u64 0, .int .u64 0, .int .u64 0, .int .u64 0, .int .u64 0, .int .u64 0, .int .u64 0, .int .u64 0, .int .i64 0, .int .i64 0, .int .i64 0, .int .i64 0, .int .u64 0, .int .u64 0, .int .u64 0, .int .u64 0, .int .u64 0, .int .u64 0, .int .u64 0, .int .u64 0, .int .u64 0, .int .u64 0, .int .i64 0, .int .i64 0, .int .i64 0, .int .i64 0, .int .i64 0, .int .i64 0, .int .u64 0, .int .u64 0, .int .u64 0, .int .u64 0, .int .u64 0, .int .u64 0, .int .u64 0, .int .u64 0, .int .u64 0, .int .u64 0, .int .i64 0, .int .i64 0, .int .i64 0, .int .i64 0, .int .i64 0, .int .i64 0, .bool false, .int .u64 0, .int .u64 0, .int .i64 0] 53))
            have w1' : IntKind.i64.wrap ((i : Int) + 1) = i + 1 := IntWalk.i64_in _ (by omega)
            clear hr hx
            clear hb' hg' hbk hm2
            go_upto_region 16 with (first | (refine wpList_load_mid rfl 53 (.tmp 57) rfl g (off + i * 51) rfl _ _ HR0.out Tryd.underlying53 rfl rfl ?_) | (refine wpList_load_mid rfl 53 (.tmp 57) rfl g (off + i * 51) rfl _ _ HR.out Tryd.underlying53 rfl rfl ?_) | ((refine wpList_store_row rfl 53 (.tmp 13) (.tmp 58) rfl wr.heap.size x.cells.toArray rfl rfl HBz.out rfl rfl (cl_one x) ?_); intro w9 hb9 f9; have HB9 := Lib.hid hb9; have F9 := Lib.hid f9; clear hb9 f9) | fail)
            have G9 := Lib.hid (((Fr.refl (fun _ => False) wr).alloc (.cells #[.int .i64 0, .int .u64 0, .int .u64 0, .int .u64 0, .int .u64 0, .int .u64 0, .int .u64 0, .int .u64 0, .int .u64 0, .int .u64 0, .int .u64 0, .int .i64 0, .int .i64 0, .int .i64 0, .int .i64 0, .int .u64 0, .int .u64 0, .int .u64 0, .int .u64 0, .int .u64 0, .int .u64 0, .int .u64 0, .int .u64 0, .int .u64 0, .int .u64 0, .int .i64 0, .int .i64 0, .int .i64 0, .int .i64 0, .int .i64 0, .int .i64 0, .int .u64 0, .int .u64 0, .int .u64 0, .int .u64 0, .int .u64 0, .int .u64 0, .int .u64 0, .int .u64 0, .int .u64 0, .int .u64 0, .int .i64 0, .int .i64 0, .int .i64 0, .int .i64 0, .int .i64 0, .int .i64 0, .bool false, .int .u64 0, .int .u64 0, .int .i64 0] 53)).then_ F9.out (fun k hk => .inr (by omega)))
            have HBt9 := Lib.hid (HBt'.out.frF G9.out)
            have HM9 := Lib.hid (HM2'.out.fr G9.out (fun _ _ h => h))
            obtain ⟨kd, hkd⟩ : ∃ k, x.kind = k := ⟨_, rfl⟩
            have HKd := Lib.hid hkd
            have x0 : w9.cell? ⟨wr.heap.size, 0, none⟩ = some (.int .i64 kd) := by rw [← hkd]; exact blk_cell HB9.out 0 rfl
            clear hkd
            by_cases hk5 : kd < 5
            · have HDo := Lib.hid (does_any HBt9.out HG'.out (mk_step HMk.out HBk'.out) (by omega) (by omega) x)
              go_wp2_with (first | ((with_reducible refine wpList_load_row_w ?lw 53 _ rfl wr.heap.size rfl 53 _ _ _ HB9.out Tryd.underlying53 rfl rfl ?_); (case lw => rfl)) | fail)
              refine HDo.out.mono ?_
              rintro e w10 ⟨rfl, M3, r3, es3, ms3, h3, g3, -, hb3, f3, -⟩
              obtain ⟨rfl, hb4⟩ := hb3 (by rw [HKd.out]; exact hk5)
              have H10 := Lib.hid h3
              have G10 := Lib.hid g3
              have B10 := Lib.hid (HBk'.out.trans hb4)
              have M10 := Lib.hid (HM9.out.fr f3 (fun k hk hn => hn hk))
              clear h3 g3 hb3 hb4 f3
              go_wp2_with fail
              go_roundw
              case rel => exact ⟨i + 1, by omega, by go_num, M3, r3, es3, H10.out.more (by omega), G10.out, B10.out, M10.out⟩
              case measure => simp [intOf]; omega
            · go_wp2_with fail
              go_roundw
              case rel => exact ⟨i + 1, by omega, by go_num, M', r', es', HBt9.out.more (by omega), HG'.out, HBk'.out, HM9.out⟩
              case measure => simp [intOf]; omega
        · obtain rfl : i = n2 := by omega
          have hiI : ¬ (i : Int) < i := by omega
          obtain ⟨wd, hwd⟩ : ∃ W, W = wr := ⟨_, rfl⟩
          subst hwd
          obtain ⟨b0, -⟩ := hb'.cells
          have HBx := Lib.hid (btBack (x := (r, es)) HBt'.out HBk'.out HG'.out (by omega))
          clear hb' hg' hbk hm2
          go_wp2_with fail
          refine HBx.out.mono ?_
          rintro e we ⟨rfl, hbe, fe⟩
          have hme := HM2'.out.fr fe (fun k hk hn => hn hk)
          have hsw := hbe.swap hme HW.out
          have HSw := Lib.hid hsw.1
          have F5 := Lib.hid hsw.1.old0
          have hbb : ∃ x, we.cell? ⟨b, 1, none⟩ = some x := ⟨_, hbe.cells.2⟩
          obtain ⟨xb, hxb⟩ := hbb
          have hzf : we.frozen? ⟨b, 1, none⟩ = false := by
            obtain ⟨lab, q, mv, wv, jd, st, h⟩ := hbe
            exact blk_free h.blk 1
          clear hbe fe hme hsw b0
          go_wp2_with fail
          refine (same_any HSw.out HG.out).mono ?_
          rintro e w5 ⟨rfl, f5⟩
          have HB5 := Lib.hid (HSw.out.frF f5)
          clear f5 hxb hzf
          -- what is found
          have HF5 := Lib.hid (HB5.out.old0)
          have hbi5 := HF5.out.blk HBi3.out (fun h => h)
          have HI0 := Lib.hid (show w5.cell? ⟨gi, 0, none⟩ = some (.int .u64 id.hi) from blk_cell hbi5 0 rfl)
          have HI1 := Lib.hid (show w5.cell? ⟨gi, 1, none⟩ = some (.int .u64 id.lo) from blk_cell hbi5 1 rfl)
          have HB0 := Lib.hid HB5.out.cells.1
          obtain ⟨Q2, hQ2⟩ := HB5.out.cur
          have HMS := Lib.hid hQ2
          obtain ⟨av, kv, hbM, -, hkr, -⟩ := hQ2
          have hkr : w5.ownsRow 0 63 33 kv r.kept.length (r.kept.flatMap Kp.cells) := hkr
          obtain ⟨ak, capk, rfl, -, -⟩ := own_form hkr
          have HMc1 := Lib.hid (show w5.cell? ⟨M2, 1, none⟩ = some (.slice ak r.kept.length capk) from blk_cell hbM 1 rfl)
          have HKr := Lib.hid hkr
          obtain ⟨C1, hC1⟩ : ∃ C, ((keptR r id).getD Kp.zero).cells.toArray = C := ⟨_, rfl⟩
          have C1s : C1.size = 33 := by rw [← hC1]; rfl
          have HC1o := Lib.hid (show C1.all (·.oneCell') = true from by rw [← hC1]; simp [Kp.cells, Tx.cells, Value.oneCell'])
          obtain ⟨bk, hbk⟩ : ∃ x, (keptR r id).isSome = x := ⟨_, rfl⟩
          obtain ⟨C2, hC2⟩ : ∃ C, ((acctR r id).getD Acc.zero).cells.toArray = C := ⟨_, rfl⟩
          have C2s : C2.size = 14 := by rw [← hC2]; rfl
          have HC2o := Lib.hid (show C2.all (·.oneCell') = true from by rw [← hC2]; simp [Acc.cells, Value.oneCell'])
          obtain ⟨ba, hba⟩ : ∃ x, (acctR r id).isSome = x := ⟨_, rfl⟩
          have hKp := fun W (f : Fr (fun _ => False) w5 W) => btKept (HB5.out.frF f) HG.out id
          rw [hC1, hbk] at hKp
          have HKp := Lib.hid hKp
          have hAc := fun W (f : Fr (fun _ => False) w5 W) => btAcct (HB5.out.frF f) HG.out id
          rw [hC2, hba] at hAc
          have HAc := Lib.hid hAc
          have HNm := Lib.hid (fun W (f : Fr (fun _ => False) w5 W) => rmName (HMS.out.fr f (fun _ _ h => h)) HG.out id)
          have hAn : ∀ W, Fr (fun _ => False) w5 W → Calls Tryd.prog 35 #[.pointer (some ⟨M2, 0, none⟩), .agg #[.int .u64 id.hi, .int .u64 id.lo]] W fun e w' => (∃ i, e = .returned (.int .i64 i) ∧ decide (0 ≤ i) = ba) ∧ Fr (fun _ => False) W w' :=
            fun W f => (rmAcct (HMS.out.fr f (fun _ _ h => h)) HG.out id).mono fun e w' ⟨⟨i, he, hi⟩, f⟩ => ⟨⟨i, he, by rw [fnd_dec hi, hba]⟩, f⟩
          have HAn := Lib.hid hAn
          have HC1 := Lib.hid hC1
          have HBk1 := Lib.hid hbk
          have HBa1 := Lib.hid hba
          have FA := Lib.hid (Fr.refl (fun _ => False) w5)
          clear hbi5 hbM hkr hC1 hbk hC2 hba hKp hAc hAn
          go_upto_region 23 with fail
          have b0 := FA.out.cell HB0.out (fun h => h)
          have i0 := FA.out.cell HI0.out (fun h => h)
          have i1 := FA.out.cell HI1.out (fun h => h)
          have li := ld_nm (P := Tryd.prog) (W := w5.drew) i0 i1
          go_cut [14, 15] from 79 (fun va vb w' => BoxP w5 63 C1 bk va vb w')
          case first =>
            have Fy := Lib.hid (show Fr (fun _ => False) w5 w5.drew from (Fr.refl _ _).drew)
            have Fz := Lib.hid (show Fr (fun _ => False) w5 (w5.alloc (.cells #[.int .u64 0, .int .u64 0, .int .u64 0, .int .u64 0, .int .u64 0, .int .u64 0, .int .u64 0, .int .u64 0, .int .u64 0, .int .u64 0, .int .i64 0, .int .i64 0, .int .i64 0, .int .i64 0, .int .i64 0, .int .i64 0, .int .u64 0, .int .u64 0, .int .u64 0, .int .u64 0, .int .u64 0, .int .u64 0, .int .u64 0, .int .u64 0, .int .u64 0, .int .u64 0, .int .i64 0, .int .i64 0, .int .i64 0, .int .i64 0, .int .i64 0, .int .i64 0, .int .i64 0] 63)).drew from ((Fr.refl (fun _ => False) w5).alloc (.cells #[.int .u64 0, .int .u64 0, .int .u64 0, .int .u64 0, .int .u64 0, .int .u64 0, .int .u64 0, .int .u64 0, .int .u64 0, .int .u64 0, .int .i64 0, .int .i64 0, .int .i64 0, .int .i64 0, .int .i64 0, .int .i64 0, .int .u64 0, .int .u64 0, .int .u64 0, .int .u64 0, .int .u64 0, .int .u64 0, .int .u64 0, .int .u64 0, .int .u64 0, .int .u64 0, .int .i64 0, .int .i64 0, .int .i64 0, .int .i64 0, .int .i64 0, .int .i64 0, .int .i64 0] 63)).drew)
            have BZz := Lib.hid (blk_drew (heap_alloc_new w5 (.cells #[.int .u64 0, .int .u64 0, .int .u64 0, .int .u64 0, .int .u64 0, .int .u64 0, .int .u64 0, .int .u64 0, .int .u64 0, .int .u64 0, .int .i64 0, .int .i64 0, .int .i64 0, .int .i64 0, .int .i64 0, .int .i64 0, .int .u64 0, .int .u64 0, .int .u64 0, .int .u64 0, .int .u64 0, .int .u64 0, .int .u64 0, .int .u64 0, .int .u64 0, .int .u64 0, .int .i64 0, .int .i64 0, .int .i64 0, .int .i64 0, .int .i64 0, .int .i64 0, .int .i64 0] 63)))
            have FYy := Lib.hid (FA.out.then_ Fy.out (fun _ h => h.elim))
            have FZz := Lib.hid (FA.out.then_ Fz.out (fun _ h => h.elim))
            have c0 := Fz.out.cell b0 (fun h => h)
            have lj := ld_nm (P := Tryd.prog) (W := (w5.alloc (.cells #[.int .u64 0, .int .u64 0, .int .u64 0, .int .u64 0, .int .u64 0, .int .u64 0, .int .u64 0, .int .u64 0, .int .u64 0, .int .u64 0, .int .i64 0, .int .i64 0, .int .i64 0, .int .i64 0, .int .i64 0, .int .i64 0, .int .u64 0, .int .u64 0, .int .u64 0, .int .u64 0, .int .u64 0, .int .u64 0, .int .u64 0, .int .u64 0, .int .u64 0, .int .u64 0, .int .i64 0, .int .i64 0, .int .i64 0, .int .i64 0, .int .i64 0, .int .i64 0, .int .i64 0] 63)).drew) (Fz.out.cell i0 (fun h => h)) (Fz.out.cell i1 (fun h => h))
            go_region_held3 (fun w' => w'.cell? ⟨b, 0, none⟩ = some (Value.pointer (some ⟨d.B, 0, none⟩)) ∧ (loadCells ⟨gi, 0, none⟩ 2).run Tryd.prog w' = .ok #[.int .u64 id.hi, .int .u64 id.lo] w')
              (first | exact ⟨b0, li⟩ | exact ⟨q0, lq⟩ | exact ⟨s0, ls⟩ | exact ⟨t0, lt⟩ | exact ⟨c0, lj⟩)
              (first
                | (go_at_call 30; (with_reducible refine (HKp.out _ FYy.out).mono ?_); rintro e w8 ⟨rfl, f8⟩; have g8 := Fy.out.then_ f8 (fun _ h => h.elim); have q0 := g8.cell b0 (fun h => h); have lq := ld_nm (P := Tryd.prog) (W := w8) (g8.cell i0 (fun h => h)) (g8.cell i1 (fun h => h)); have g8a := g8.alloc (.cells #[.int .u64 0, .int .u64 0, .int .u64 0, .int .u64 0, .int .u64 0, .int .u64 0, .int .u64 0, .int .u64 0, .int .u64 0, .int .u64 0, .int .i64 0, .int .i64 0, .int .i64 0, .int .i64 0, .int .i64 0, .int .i64 0, .int .u64 0, .int .u64 0, .int .u64 0, .int .u64 0, .int .u64 0, .int .u64 0, .int .u64 0, .int .u64 0, .int .u64 0, .int .u64 0, .int .i64 0, .int .i64 0, .int .i64 0, .int .i64 0, .int .i64 0, .int .i64 0, .int .i64 0] 63); have t0 := g8a.cell b0 (fun h => h); have lt := ld_nm (P := Tryd.prog) (W := w8.alloc (.cells #[.int .u64 0, .int .u64 0, .int .u64 0, .int .u64 0, .int .u64 0, .int .u64 0, .int .u64 0, .int .u64 0, .int .u64 0, .int .u64 0, .int .i64 0, .int .i64 0, .int .i64 0, .int .i64 0, .int .i64 0, .int .i64 0, .int .u64 0, .int .u64 0, .int .u64 0, .int .u64 0, .int .u64 0, .int .u64 0, .int .u64 0, .int .u64 0, .int .u64 0, .int .u64 0, .int .i64 0, .int .i64 0, .int .i64 0, .int .i64 0, .int .i64 0, .int .i64 0, .int .i64 0] 63)) (g8a.cell i0 (fun h => h)) (g8a.cell i1 (fun h => h)); obtain ⟨W9, hse, hb9, f9⟩ := st_over (P := Tryd.prog) (w8.alloc (.cells #[.int .u64 0, .int .u64 0, .int .u64 0, .int .u64 0, .int .u64 0, .int .u64 0, .int .u64 0, .int .u64 0, .int .u64 0, .int .u64 0, .int .i64 0, .int .i64 0, .int .i64 0, .int .i64 0, .int .i64 0, .int .i64 0, .int .u64 0, .int .u64 0, .int .u64 0, .int .u64 0, .int .u64 0, .int .u64 0, .int .u64 0, .int .u64 0, .int .u64 0, .int .u64 0, .int .i64 0, .int .i64 0, .int .i64 0, .int .i64 0, .int .i64 0, .int .i64 0, .int .i64 0] 63)) (C := C1) (heap_alloc_new w8 (.cells #[.int .u64 0, .int .u64 0, .int .u64 0, .int .u64 0, .int .u64 0, .int .u64 0, .int .u64 0, .int .u64 0, .int .u64 0, .int .u64 0, .int .i64 0, .int .i64 0, .int .i64 0, .int .i64 0, .int .i64 0, .int .i64 0, .int .u64 0, .int .u64 0, .int .u64 0, .int .u64 0, .int .u64 0, .int .u64 0, .int .u64 0, .int .u64 0, .int .u64 0, .int .u64 0, .int .i64 0, .int .i64 0, .int .i64 0, .int .i64 0, .int .i64 0, .int .i64 0, .int .i64 0] 63)) (by rw [C1s]; rfl) HC1o.out; have f9' := ((Fr.refl (fun _ => False) w8).alloc (.cells #[.int .u64 0, .int .u64 0, .int .u64 0, .int .u64 0, .int .u64 0, .int .u64 0, .int .u64 0, .int .u64 0, .int .u64 0, .int .u64 0, .int .i64 0, .int .i64 0, .int .i64 0, .int .i64 0, .int .i64 0, .int .i64 0, .int .u64 0, .int .u64 0, .int .u64 0, .int .u64 0, .int .u64 0, .int .u64 0, .int .u64 0, .int .u64 0, .int .u64 0, .int .u64 0, .int .i64 0, .int .i64 0, .int .i64 0, .int .i64 0, .int .i64 0, .int .i64 0, .int .i64 0] 63)).then_ f9 (fun k hk => .inr (by omega)); have g9 := g8.then_ f9' (fun _ h => h.elim); have s0 := g9.cell b0 (fun h => h); have ls := ld_nm (P := Tryd.prog) (W := W9) (g9.cell i0 (fun h => h)) (g9.cell i1 (fun h => h)); have F89 := Lib.hid g9; have HB9 := Lib.hid hb9; clear f8 f9 f9' hb9 g8 g8a g9)
                | (go_at_call 30; (with_reducible refine (HKp.out _ FZz.out).mono ?_); rintro e w8 ⟨rfl, f8⟩; have g8 := Fz.out.then_ f8 (fun _ h => h.elim); have bz8 := f8.blk BZz.out (fun h => h); have q0 := g8.cell b0 (fun h => h); have lq := ld_nm (P := Tryd.prog) (W := w8) (g8.cell i0 (fun h => h)) (g8.cell i1 (fun h => h)); obtain ⟨W9, hse, hb9, f9⟩ := st_over (P := Tryd.prog) w8 (C := C1) bz8 (by rw [C1s]; rfl) HC1o.out; have g9 := g8.then_ f9 (fun k hk => .inr (by omega)); have s0 := g9.cell b0 (fun h => h); have ls := ld_nm (P := Tryd.prog) (W := W9) (g9.cell i0 (fun h => h)) (g9.cell i1 (fun h => h)); have F89 := Lib.hid g9; have HB9 := Lib.hid hb9; clear f8 f9 hb9 g8 bz8 g9))
            all_goals
              clear hse
              go_wp2_with fail
              go_meet
              exact ⟨_, rfl, rfl, HB9.out, F89.out⟩
          case rest =>
          obtain ⟨g14, rfl, rfl, hb14, f6⟩ := hcut
          have HB14 := Lib.hid hb14
          have FB := Lib.hid f6
          clear hb14 f6 b0 i0 i1 li
          have i0 := FB.out.cell HI0.out (fun h => h)
          have i1 := FB.out.cell HI1.out (fun h => h)
          have li := ld_nm (P := Tryd.prog) i0 i1
          go_wp2_with fail
          refine (HNm.out _ FB.out).mono ?_
          rintro e w7 ⟨⟨ik, rfl, hik⟩, f7⟩
          have HIk := Lib.hid hik
          have FC := Lib.hid (FB.out.then_ f7 (fun _ h => h.elim))
          have HB14' := Lib.hid (f7.blk HB14.out (fun h => h))
          clear hik f7 i0 i1 li
          go_upto_region 25 with fail
          have b0 := FC.out.cell HB0.out (fun h => h)
          have i0 := FC.out.cell HI0.out (fun h => h)
          have i1 := FC.out.cell HI1.out (fun h => h)
          have li := ld_nm (P := Tryd.prog) (W := w7.drew) i0 i1
          go_cut [17, 18] from 91 (fun va vb w' => BoxP w7 26 C2 ba va vb w')
          case first =>
            have Fy := Lib.hid (show Fr (fun _ => False) w7 w7.drew from (Fr.refl _ _).drew)
            have Fz := Lib.hid (show Fr (fun _ => False) w7 (w7.alloc (.cells #[.int .u64 0, .int .u64 0, .int .u64 0, .int .u64 0, .int .u64 0, .int .u64 0, .int .u64 0, .int .u64 0, .int .u64 0, .int .u64 0, .int .i64 0, .int .i64 0, .int .i64 0, .int .i64 0] 26)).drew from ((Fr.refl (fun _ => False) w7).alloc (.cells #[.int .u64 0, .int .u64 0, .int .u64 0, .int .u64 0, .int .u64 0, .int .u64 0, .int .u64 0, .int .u64 0, .int .u64 0, .int .u64 0, .int .i64 0, .int .i64 0, .int .i64 0, .int .i64 0] 26)).drew)
            have BZz := Lib.hid (blk_drew (heap_alloc_new w7 (.cells #[.int .u64 0, .int .u64 0, .int .u64 0, .int .u64 0, .int .u64 0, .int .u64 0, .int .u64 0, .int .u64 0, .int .u64 0, .int .u64 0, .int .i64 0, .int .i64 0, .int .i64 0, .int .i64 0] 26)))
            have FYy := Lib.hid (FC.out.then_ Fy.out (fun _ h => h.elim))
            have FZz := Lib.hid (FC.out.then_ Fz.out (fun _ h => h.elim))
            have c0 := Fz.out.cell b0 (fun h => h)
            have lj := ld_nm (P := Tryd.prog) (W := (w7.alloc (.cells #[.int .u64 0, .int .u64 0, .int .u64 0, .int .u64 0, .int .u64 0, .int .u64 0, .int .u64 0, .int .u64 0, .int .u64 0, .int .u64 0, .int .i64 0, .int .i64 0, .int .i64 0, .int .i64 0] 26)).drew) (Fz.out.cell i0 (fun h => h)) (Fz.out.cell i1 (fun h => h))
            go_region_held3 (fun w' => w'.cell? ⟨b, 0, none⟩ = some (Value.pointer (some ⟨d.B, 0, none⟩)) ∧ (loadCells ⟨gi, 0, none⟩ 2).run Tryd.prog w' = .ok #[.int .u64 id.hi, .int .u64 id.lo] w')
              (first | exact ⟨b0, li⟩ | exact ⟨q0, lq⟩ | exact ⟨s0, ls⟩ | exact ⟨t0, lt⟩ | exact ⟨c0, lj⟩)
              (first
                | (go_at_call 32; (with_reducible refine (HAc.out _ FYy.out).mono ?_); rintro e w8 ⟨rfl, f8⟩; have g8 := Fy.out.then_ f8 (fun _ h => h.elim); have q0 := g8.cell b0 (fun h => h); have lq := ld_nm (P := Tryd.prog) (W := w8) (g8.cell i0 (fun h => h)) (g8.cell i1 (fun h => h)); have g8a := g8.alloc (.cells #[.int .u64 0, .int .u64 0, .int .u64 0, .int .u64 0, .int .u64 0, .int .u64 0, .int .u64 0, .int .u64 0, .int .u64 0, .int .u64 0, .int .i64 0, .int .i64 0, .int .i64 0, .int .i64 0] 26); have t0 := g8a.cell b0 (fun h => h); have lt := ld_nm (P := Tryd.prog) (W := w8.alloc (.cells #[.int .u64 0, .int .u64 0, .int .u64 0, .int .u64 0, .int .u64 0, .int .u64 0, .int .u64 0, .int .u64 0, .int .u64 0, .int .u64 0, .int .i64 0, .int .i64 0, .int .i64 0, .int .i64 0] 26)) (g8a.cell i0 (fun h => h)) (g8a.cell i1 (fun h => h)); obtain ⟨W9, hse, hb9, f9⟩ := st_over (P := Tryd.prog) (w8.alloc (.cells #[.int .u64 0, .int .u64 0, .int .u64 0, .int .u64 0, .int .u64 0, .int .u64 0, .int .u64 0, .int .u64 0, .int .u64 0, .int .u64 0, .int .i64 0, .int .i64 0, .int .i64 0, .int .i64 0] 26)) (C := C2) (heap_alloc_new w8 (.cells #[.int .u64 0, .int .u64 0, .int .u64 0, .int .u64 0, .int .u64 0, .int .u64 0, .int .u64 0, .int .u64 0, .int .u64 0, .int .u64 0, .int .i64 0, .int .i64 0, .int .i64 0, .int .i64 0] 26)) (by rw [C2s]; rfl) HC2o.out; have f9' := ((Fr.refl (fun _ => False) w8).alloc (.cells #[.int .u64 0, .int .u64 0, .int .u64 0, .int .u64 0, .int .u64 0, .int .u64 0, .int .u64 0, .int .u64 0, .int .u64 0, .int .u64 0, .int .i64 0, .int .i64 0, .int .i64 0, .int .i64 0] 26)).then_ f9 (fun k hk => .inr (by omega)); have g9 := g8.then_ f9' (fun _ h => h.elim); have s0 := g9.cell b0 (fun h => h); have ls := ld_nm (P := Tryd.prog) (W := W9) (g9.cell i0 (fun h => h)) (g9.cell i1 (fun h => h)); have F89 := Lib.hid g9; have HB9 := Lib.hid hb9; clear f8 f9 f9' hb9 g8 g8a g9)
                | (go_at_call 32; (with_reducible refine (HAc.out _ FZz.out).mono ?_); rintro e w8 ⟨rfl, f8⟩; have g8 := Fz.out.then_ f8 (fun _ h => h.elim); have bz8 := f8.blk BZz.out (fun h => h); have q0 := g8.cell b0 (fun h => h); have lq := ld_nm (P := Tryd.prog) (W := w8) (g8.cell i0 (fun h => h)) (g8.cell i1 (fun h => h)); obtain ⟨W9, hse, hb9, f9⟩ := st_over (P := Tryd.prog) w8 (C := C2) bz8 (by rw [C2s]; rfl) HC2o.out; have g9 := g8.then_ f9 (fun k hk => .inr (by omega)); have s0 := g9.cell b0 (fun h => h); have ls := ld_nm (P := Tryd.prog) (W := W9) (g9.cell i0 (fun h => h)) (g9.cell i1 (fun h => h)); have F89 := Lib.hid g9; have HB9 := Lib.hid hb9; clear f8 f9 hb9 g8 bz8 g9))
            all_goals
              clear hse
              go_wp2_with fail
              go_meet
              exact ⟨_, rfl, rfl, HB9.out, F89.out⟩
          case rest =>
          obtain ⟨g17, rfl, rfl, -, f8⟩ := hcut
          have FD := Lib.hid (FC.out.then_ f8 (fun _ h => h.elim))
          have HB14'' := Lib.hid (f8.blk HB14'.out (fun h => h))
          clear f8 b0 i0 i1 li
          rename World => w8
          have b0 := FD.out.cell HB0.out (fun h => h)
          obtain ⟨x, is, hfr, hdu⟩ := btDue (HB5.out.frF FD.out) HG.out (by omega)
          obtain ⟨D, hD⟩ : ∃ C, ((dueO r x is).getD Kp.zero).cells.toArray = C := ⟨_, rfl⟩
          have Ds : D.size = 33 := by rw [← hD]; rfl
          have HDo := Lib.hid (show D.all (·.oneCell') = true from by rw [← hD]; simp [Kp.cells, Tx.cells, Value.oneCell'])
          obtain ⟨bd, hbd⟩ : ∃ z, (dueO r x is).isSome = z := ⟨_, rfl⟩
          rw [hD, hbd] at hdu
          have HDu := Lib.hid hdu
          have HFi := Lib.hid hfr
          have HD := Lib.hid hD
          have HBd := Lib.hid hbd
          clear hfr hdu hD hbd
          go_wp2_with fail
          refine HDu.out.mono ?_
          rintro e w9 ⟨rfl, f9⟩
          have HBz := Lib.hid (heap_alloc_new w9 (.cells #[.int .u64 0, .int .u64 0, .int .u64 0, .int .u64 0, .int .u64 0, .int .u64 0, .int .u64 0, .int .u64 0, .int .u64 0, .int .u64 0, .int .i64 0, .int .i64 0, .int .i64 0, .int .i64 0, .int .i64 0, .int .i64 0, .int .u64 0, .int .u64 0, .int .u64 0, .int .u64 0, .int .u64 0, .int .u64 0, .int .u64 0, .int .u64 0, .int .u64 0, .int .u64 0, .int .i64 0, .int .i64 0, .int .i64 0, .int .i64 0, .int .i64 0, .int .i64 0, .int .i64 0] 63))
          have FE := Lib.hid (FD.out.then_ f9 (fun _ h => h.elim))
          have HB14c := Lib.hid (f9.blk HB14''.out (fun h => h))
          clear f9 b0
          go_wp2_with (first | ((refine wpList_store_row rfl 63 (.tmp 19) (.tmp 106) rfl w9.heap.size D rfl rfl HBz.out (by rw [Ds]; rfl) (by rw [Ds]; rfl) HDo.out ?_); intro w10 hb10 f10; have HB10 := Lib.hid hb10; have F10 := Lib.hid f10; clear hb10 f10) | fail)
          have G10 := Lib.hid (show Fr (fun _ => False) w9 w10 from ((Fr.refl (fun _ => False) w9).alloc _).then_ F10.out (fun k hk => .inr (by omega)))
          have FG := Lib.hid (FE.out.then_ G10.out (fun _ h => h.elim))
          refine (rmDue (HMS.out.fr FG.out (fun _ _ h => h)) HG.out HFi.out).mono ?_
          rintro e w11 ⟨⟨iq, rfl, hiq⟩, f11⟩
          have HIq := Lib.hid hiq
          have FH := Lib.hid (FG.out.then_ f11 (fun _ h => h.elim))
          have HB14d := Lib.hid (f11.blk (G10.out.blk HB14c.out (fun h => h)) (fun h => h))
          obtain ⟨g19, hg19⟩ : ∃ g, w9.heap.size = g := ⟨_, rfl⟩
          have HB19 := Lib.hid (show w11.heap[g19]? = some (.cells D 63 (0, 0)) from by rw [← hg19]; exact f11.blk HB10.out (fun h => h))
          clear hiq f11
          go_upto_region 28 with fail
          clear hg19
          go_cut [155] from 110 (fun vq w' => vq = .bool false ∧ Fr (fun _ => False) w11 w')
          case first =>
            obtain ⟨T, G, hne, hG, hS⟩ := class_fr w11
            haveI := hne
            have hg0 : ∃ n, w11.drew = G n := hS _ ((Fr.refl (fun _ => False) w11).drew)
            obtain ⟨iv, hiv⟩ : ∃ z, (r.ids id).getD (-1) = z := ⟨_, rfl⟩
            have hiv0 : decide (0 ≤ iv) = ba := by rw [← hiv, acct_val HG.out]; exact HBa1.out
            have hcl : ∀ n, Calls Tryd.prog 35 #[.pointer (some ⟨M2, 0, none⟩), .agg #[.int .u64 id.hi, .int .u64 id.lo]] (G n) fun e w' => e = .returned (.int .i64 iv) ∧ ∃ m, w' = G m := fun n => (rmAcctV (HMS.out.fr (FH.out.then_ (hG n) (fun _ h => h.elim)) (fun _ _ h => h)) HG.out id).mono fun e w' ⟨he, f⟩ => ⟨by rw [he, hiv], hS _ ((hG n).then_ f (fun _ h => h.elim))⟩
            have HCl := Lib.hid hcl
            have HGf := Lib.hid hG
            obtain ⟨nK, hnK⟩ : ∃ n, r.kept.length = n := ⟨_, rfl⟩
            have hkz := own_fr HKr.out FH.out (fun _ _ h => h)
            have hmc := FH.out.cell HMc1.out (fun h => h)
            rw [hnK] at hmc hkz
            have HKz := Lib.hid hkz
            have HMc2 := Lib.hid hmc
            have HNK := Lib.hid hnK
            have i0 := FH.out.cell HI0.out (fun h => h)
            have i1 := FH.out.cell HI1.out (fun h => h)
            have hld : ∀ n, (loadCells ⟨gi, 0, none⟩ 2).run Tryd.prog (G n) = .ok #[.int .u64 id.hi, .int .u64 id.lo] (G n) := fun n => ld_nm ((hG n).cell i0 (fun h => h)) ((hG n).cell i1 (fun h => h))
            clear hkz hmc hnK i0 i1 hG hS hcl hiv
            rcases HIk.out with ⟨hk0, hik⟩ | ⟨jk, kk, hk1, hik, hkj⟩
            · obtain rfl : bk = false := by rw [← HBk1.out, hk0]; rfl
              subst hik
              clear hk0
              rcases HIq.out with ⟨hd0, hiq⟩ | ⟨jd, kd, hd1, hiq, hdj⟩
              · obtain rfl : bd = false := by rw [← HBd.out, hd0]; rfl
                subst hiq
                clear hd0
                cases ba
                all_goals
                  first | (have hiv1 : 0 ≤ iv := by simpa using hiv0) | (have hiv1 : ¬ 0 ≤ iv := by simpa using hiv0)
                  as_aux_lemma =>
                    refine wp_region_quiet_G G (by kernel_rfl) (by kernel_rfl) hg0 ?_
                    repeat (go_big_quiet_step ((go_at_call 35; exact HCl.out _)))
                    refine wpQuiet_nil ?_
                    rintro _ ⟨nq, rfl⟩
                    go_wp2_with fail
                    go_meet
                    exact ⟨by first | rfl | simp, HGf.out nq⟩
              · obtain rfl : bd = true := by rw [← HBd.out, hd1]; rfl
                subst hiq
                obtain ⟨gk, rfl, hjd, hrd⟩ := row_atf (f := Kp.cells) (sz := 33) (fun _ => rfl) HKz.out HNK.out hdj
                have hm1 : ∀ n, (G n).cell? ⟨M2, 1, none⟩ = some (.slice (some ⟨gk, 0, none⟩) nK capk) := fun n => (HGf.out n).cell HMc2.out (fun h => h)
                have hDk : kd.cells.toArray = D := by have := HD.out; rw [hd1] at this; exact this
                rw [hDk] at hrd
                have hed : ∀ W, (Op.equalIn 10000 63 (.agg D) (.agg D)).run Tryd.prog W = .ok true W := fun W => by rw [← hDk]; exact eqm_Kp kd W
                have hd00 : (0 : Int) ≤ jd := by omega
                have lb := fun n => ld_row (P := Tryd.prog) (W := G n) g19 D (n := 33) Ds ((HGf.out n).blk HB19.out (fun h => h))
                have lb2 := fun n => ld_range (P := Tryd.prog) (W := G n) (g := gk) (o := jd * 33) D (fun jz v hv => (HGf.out n).cell (p := ⟨gk, jd * 33 + jz, none⟩) (hrd jz v hv) (fun h => h)) Ds
                clear hrd hDk hd1 hdj
                cases ba
                all_goals
                  first | (have hiv1 : 0 ≤ iv := by simpa using hiv0) | (have hiv1 : ¬ 0 ≤ iv := by simpa using hiv0)
                  as_aux_lemma =>
                    refine wp_region_quiet_G G (by kernel_rfl) (by kernel_rfl) hg0 ?_
                    repeat (go_big_quiet_step ((go_at_call 35; exact HCl.out _)))
                    refine wpQuiet_nil ?_
                    rintro _ ⟨nq, rfl⟩
                    go_wp2_with fail
                    go_meet
                    exact ⟨by first | rfl | simp, HGf.out nq⟩
            · obtain rfl : bk = true := by rw [← HBk1.out, hk1]; rfl
              subst hik
              obtain ⟨gk, rfl, hjk, hrk⟩ := row_atf (f := Kp.cells) (sz := 33) (fun _ => rfl) HKz.out HNK.out hkj
              have hm1 : ∀ n, (G n).cell? ⟨M2, 1, none⟩ = some (.slice (some ⟨gk, 0, none⟩) nK capk) := fun n => (HGf.out n).cell HMc2.out (fun h => h)
              have hCk : kk.cells.toArray = C1 := by have := HC1.out; rw [hk1] at this; exact this
              rw [hCk] at hrk
              have hek : ∀ W, (Op.equalIn 10000 63 (.agg C1) (.agg C1)).run Tryd.prog W = .ok true W := fun W => by rw [← hCk]; exact eqm_Kp kk W
              have hk00 : (0 : Int) ≤ jk := by omega
              have lk := fun n => ld_row (P := Tryd.prog) (W := G n) g14 C1 (n := 33) C1s ((HGf.out n).blk HB14d.out (fun h => h))
              have lk2 := fun n => ld_range (P := Tryd.prog) (W := G n) (g := gk) (o := jk * 33) C1 (fun jz v hv => (HGf.out n).cell (p := ⟨gk, jk * 33 + jz, none⟩) (hrk jz v hv) (fun h => h)) C1s
              clear hrk hCk hk1 hkj
              rcases HIq.out with ⟨hd0, hiq⟩ | ⟨jd, kd, hd1, hiq, hdj⟩
              · obtain rfl : bd = false := by rw [← HBd.out, hd0]; rfl
                subst hiq
                clear hd0
                cases ba
                all_goals
                  first | (have hiv1 : 0 ≤ iv := by simpa using hiv0) | (have hiv1 : ¬ 0 ≤ iv := by simpa using hiv0)
                  as_aux_lemma =>
                    refine wp_region_quiet_G G (by kernel_rfl) (by kernel_rfl) hg0 ?_
                    repeat (go_big_quiet_step ((go_at_call 35; exact HCl.out _)))
                    refine wpQuiet_nil ?_
                    rintro _ ⟨nq, rfl⟩
                    go_wp2_with fail
                    go_meet
                    exact ⟨by first | rfl | simp, HGf.out nq⟩
              · obtain rfl : bd = true := by rw [← HBd.out, hd1]; rfl
                subst hiq
                obtain ⟨gk2, e2, hjd, hrd⟩ := row_atf (f := Kp.cells) (sz := 33) (fun _ => rfl) HKz.out HNK.out hdj
                obtain rfl : gk = gk2 := by simpa using e2
                clear e2
                have hDk : kd.cells.toArray = D := by have := HD.out; rw [hd1] at this; exact this
                rw [hDk] at hrd
                have hed : ∀ W, (Op.equalIn 10000 63 (.agg D) (.agg D)).run Tryd.prog W = .ok true W := fun W => by rw [← hDk]; exact eqm_Kp kd W
                have hd00 : (0 : Int) ≤ jd := by omega
                have lb := fun n => ld_row (P := Tryd.prog) (W := G n) g19 D (n := 33) Ds ((HGf.out n).blk HB19.out (fun h => h))
                have lb2 := fun n => ld_range (P := Tryd.prog) (W := G n) (g := gk) (o := jd * 33) D (fun jz v hv => (HGf.out n).cell (p := ⟨gk, jd * 33 + jz, none⟩) (hrd jz v hv) (fun h => h)) Ds
                clear hrd hDk hd1 hdj
                cases ba
                all_goals
                  first | (have hiv1 : 0 ≤ iv := by simpa using hiv0) | (have hiv1 : ¬ 0 ≤ iv := by simpa using hiv0)
                  as_aux_lemma =>
                    refine wp_region_quiet_G G (by kernel_rfl) (by kernel_rfl) hg0 ?_
                    repeat (go_big_quiet_step ((go_at_call 35; exact HCl.out _)))
                    refine wpQuiet_nil ?_
                    rintro _ ⟨nq, rfl⟩
                    go_wp2_with fail
                    go_meet
                    exact ⟨by first | rfl | simp, HGf.out nq⟩
          case rest =>
          obtain ⟨rfl, f12⟩ := hcut
          have HB12 := Lib.hid (HB5.out.frF (FH.out.then_ f12 (fun _ h => h.elim)))
          clear f12
          go_wp2_with fail
          go_loopw [158] (fun iv wr => ∃ y : Nat, y ≤ j ∧ iv = .int .i64 y ∧ ∃ M r es, Bt (fun _ => False) w3 wr b d M r es (8 * j + 8 * i + 8 * y) r.rm ms ∧ Good r ∧ MkOk r es ms) (fun iv _ => ((j : Int) - intOf iv).toNat)
          case atStart => exact ⟨0, by omega, rfl, M2, r, es, HB12.out, HG.out, HMk.out⟩
          case round =>
            obtain ⟨y, hy, rfl, M7, r7, es7, hb7, hg7, hmk7⟩ := hrel
            have HBt7 := Lib.hid hb7
            have HG7 := Lib.hid hg7
            have HMk7 := Lib.hid hmk7
            have HFr7 := Lib.hid (F3.out.then_ hb7.old0 (fun _ h => h.elim))
            by_cases hym : y < j
            · as_aux_lemma =>
                have hyI : (y : Int) < j := by omega
                have hyJ : (0 : Int) ≤ y := by omega
                obtain ⟨g, off, rfl, hr⟩ := scr_at (HS.out.fr HFr7.out) (show y < cs.length from by rw [HN.out]; exact hym)
                obtain ⟨x, hx⟩ : ∃ x, cs[y]'(by rw [HN.out]; exact hym) = x := ⟨_, rfl⟩
                rw [hx] at hr
                have HR := Lib.hid (World.rangeAt_alloc hr (.cells #[.int .i64 0, .int .u64 0, .int .u64 0, .int .u64 0, .int .u64 0, .int .u64 0, .int .u64 0, .int .u64 0, .int .u64 0, .int .u64 0, .int .u64 0, .int .i64 0, .int .i64 0, .int .i64 0, .int .i64 0, .int .u64 0, .int .u64 0, .int .u64 0, .int .u64 0, .int .u64 0, .int .u64 0, .int .u64 0, .int .u64 0, .int .u64 0, .int .u64 0, .int .i64 0, .int .i64 0, .int .i64 0, .int .i64 0, .int .i64 0, .int .i64 0, .int .u64 0, .int .u64 0, .int .u64 0, .int .u64 0, .int .u64 0, .int .u64 0, .int .u64 0, .int .u64 0, .int .u64 0, .int .u64 0, .int .i64 0, .int .i64 0, .int .i64 0, .int .i64 0, .int .i64 0, .int .i64 0, .bool false, .int .u64 0, .int .u64 0, .int .i64 0] 53))
                have HR0 := Lib.hid hr
                have HBz := Lib.hid (heap_alloc_new wr (.cells #[.int .i64 0, .int .u64 0, .int .u64 0, .int .u64 0, .int .u64 0, .int .u64 0, .int .u64 0, .int .u64 0, .int .u64 0, .int .u64 0, .int .u64 0, .int .i64 0, .int .i64 0, .int .i64 0, .int .i64 0, .int .u64 0, .int .u64 0, .int .u64 0, .int .u64 0, .int .u64 0, .int .u64 0, .int .u64 0, .int .u64 0, .int .u64 0, .int .u64 0, .int .i64 0, .int .i64 0, .int .i64 0, .int .i64 0, .int .i64 0, .int .i64 0, .int .u64 0, .int .u64 0, .int .u64 0, .int .u64 0, .int .u64 0, .int .u64 0, .int .u64 0, .int .u64 0, .int .u64 0, .int .u64 0, .int .i64 0, .int .i64 0, .int .i64 0, .int .i64 0, .int .i64 0, .int .i64 0, .bool false, .int .u64 0, .int .u64 0, .int .i64 0] 53))
                have w1' : IntKind.i64.wrap ((y : Int) + 1) = y + 1 := IntWalk.i64_in _ (by omega)
                clear hr hx
                clear hb7 hg7 hmk7
                go_upto_region 33 with (first | (refine wpList_load_mid rfl 53 (.tmp 160) rfl g (off + y * 51) rfl _ _ HR0.out Tryd.underlying53 rfl rfl ?_) | (refine wpList_load_mid rfl 53 (.tmp 160) rfl g (off + y * 51) rfl _ _ HR.out Tryd.underlying53 rfl rfl ?_) | ((refine wpList_store_row rfl 53 (.tmp 23) (.tmp 161) rfl wr.heap.size x.cells.toArray rfl rfl HBz.out rfl rfl (cl_one x) ?_); intro w9 hb9 f9; have HB9 := Lib.hid hb9; have F9 := Lib.hid f9; clear hb9 f9) | fail)
                have G9 := Lib.hid (((Fr.refl (fun _ => False) wr).alloc (.cells #[.int .i64 0, .int .u64 0, .int .u64 0, .int .u64 0, .int .u64 0, .int .u64 0, .int .u64 0, .int .u64 0, .int .u64 0, .int .u64 0, .int .u64 0, .int .i64 0, .int .i64 0, .int .i64 0, .int .i64 0, .int .u64 0, .int .u64 0, .int .u64 0, .int .u64 0, .int .u64 0, .int .u64 0, .int .u64 0, .int .u64 0, .int .u64 0, .int .u64 0, .int .i64 0, .int .i64 0, .int .i64 0, .int .i64 0, .int .i64 0, .int .i64 0, .int .u64 0, .int .u64 0, .int .u64 0, .int .u64 0, .int .u64 0, .int .u64 0, .int .u64 0, .int .u64 0, .int .u64 0, .int .u64 0, .int .i64 0, .int .i64 0, .int .i64 0, .int .i64 0, .int .i64 0, .int .i64 0, .bool false, .int .u64 0, .int .u64 0, .int .i64 0] 53)).then_ F9.out (fun k hk => .inr (by omega)))
                have HBt9 := Lib.hid (HBt7.out.frF G9.out)
                obtain ⟨kd, hkd⟩ : ∃ k, x.kind = k := ⟨_, rfl⟩
                have HKd := Lib.hid hkd
                have x0 : w9.cell? ⟨wr.heap.size, 0, none⟩ = some (.int .i64 kd) := by rw [← hkd]; exact blk_cell HB9.out 0 rfl
                clear hkd
                by_cases hk5 : kd < 5
                · have HDo := Lib.hid (does_any HBt9.out HG7.out HMk7.out (by omega) (by omega) x)
                  go_wp2_with (first | ((with_reducible refine wpList_load_row_w ?lw 53 _ rfl wr.heap.size rfl 53 _ _ _ HB9.out Tryd.underlying53 rfl rfl ?_); (case lw => rfl)) | fail)
                  refine HDo.out.mono ?_
                  rintro e w10 ⟨rfl, M3, r3, es3, ms3, h3, g3, mk3, hb3, -, -⟩
                  obtain ⟨e3, -⟩ := hb3 (by rw [HKd.out]; exact hk5)
                  rw [e3] at h3 mk3
                  have H10 := Lib.hid h3
                  have G10 := Lib.hid g3
                  have MK10 := Lib.hid mk3
                  clear h3 g3 hb3 mk3 e3
                  go_wp2_with fail
                  refine (same_any H10.out G10.out).mono ?_
                  rintro e w11 ⟨rfl, f11⟩
                  have H11 := Lib.hid (H10.out.frF f11)
                  clear f11
                  go_wp2_with fail
                  go_roundw
                  case rel => exact ⟨y + 1, by omega, by go_num, M3, r3, es3, H11.out.more (by omega), G10.out, MK10.out⟩
                  case measure => simp [intOf]; omega
                · go_wp2_with fail
                  go_roundw
                  case rel => exact ⟨y + 1, by omega, by go_num, M7, r7, es7, HBt9.out.more (by omega), HG7.out, HMk7.out⟩
                  case measure => simp [intOf]; omega
            · obtain rfl : y = j := by omega
              have hyI : ¬ (y : Int) < y := by omega
              clear hb7 hg7 hmk7
              go_wp2_with fail
              go_ret
              exact ⟨rfl, HFr7.out⟩

end Go.Proofs.YtjchjpmgbmeohaaDoor

/- Package order: Range, up to the turning. -/
set_option linter.unusedSimpArgs false
set_option linter.unusedVariables false
namespace Go.Proofs.YtjchjpmgbmeohaaDoor
open Go.RowKit

/-- Behind which place a range ends. -/
def hiP (ps : List Pr) (t2 : Int) : Nat := if t2 = 0 then ps.length else if (ps.map (·.1))[low ps t2]? = some t2 then low ps t2 + 1 else low ps t2
def rangeL (ps : List Pr) (a b : Int) : List Pr := (ps.drop (low ps a)).take (hiP ps b - low ps a)
/-- A slice of pairs of its own. -/
def OwnP (w : World) (S : Nat → Prop) (v : Value) (ps : List Pr) : Prop := w.ownsRow 0 121 2 v ps.length (prs ps) ∧ ∀ k, v.ownBlock = some k → S k
theorem OwnP.fr {w w' : World} {S S2 : Nat → Prop} {v : Value} {ps : List Pr} (h : OwnP w S v ps) (hf : Fr S2 w w') (hn : ∀ k, S k → ¬ S2 k) : OwnP w' S v ps := ⟨own_fr h.1 hf (fun k hk => hn k (h.2 k hk)), h.2⟩
theorem hiP_le (ps : List Pr) (t2 : Int) : hiP ps t2 ≤ ps.length := by
  unfold hiP
  split
  · exact Nat.le_refl _
  · have := low_le ps t2
    split
    · rename_i h
      have := (List.getElem?_eq_some_iff.1 h).1
      simp at this
      omega
    · exact this

set_option maxRecDepth 4000 in
set_option maxHeartbeats 6400000 in
theorem orange_up (w : World) (S : Nat → Prop) (L : Bq 5) (ps : List Pr) (fm t2 : Int) (h : IsO w S L ps) (hn : ps.length ≤ 100000) (hR : Ris ps) :
    Calls Tryd.prog 78 #[.pointer (some ⟨L.b, 5, none⟩), .int .i64 fm, .int .i64 t2, .bool false] w fun e w' => ∃ v, e = .returned v ∧ OwnP w' (Gro (fun _ => False) w w') v (rangeL ps fm t2) ∧ Fr (fun _ => False) w w' := by
  obtain ⟨i0, hi0, hz0, hz1, hz2⟩ := info_parts Tryd.infoPair
  have H := Lib.hid h
  have HF := Lib.hid (show ∀ W s, Fr (fun _ => False) w W → Calls Tryd.prog 100 #[.pointer (some ⟨L.b, 5, none⟩), .int .i64 s] W fun e w' => e = .returned (.int .i64 (low ps s)) ∧ Fr (fun _ => False) W w' from fun W s f => ofind_any W L S ps s (IsO.fr (S2 := fun _ => False) h f (fun _ _ h => h)) (by omega) hR)
  have hlo := low_le ps fm
  have hlt := low_le ps t2
  have hhi := hiP_le ps t2
  obtain ⟨v, hb, ho, -, -, -⟩ := h
  obtain ⟨a, cap, rfl, -, -⟩ := own_form ho
  have c0 := blk_cell hb 5 (L.get _)
  have Hb := Lib.hid hb
  have Ho := Lib.hid ho
  have hLlt := blk_lt hb
  clear hb ho
  go_enter Tryd.func78, Tryd.ntmps78
  go_wp2_with fail
  have Fw := Lib.hid ((Fr.refl (fun _ => False) w).drew)
  go_region_held3 (fun w' => w'.cell? ⟨L.b, 5, none⟩ = some (.slice a ps.length cap))
    (first | exact c0 | go_keep)
    (first
      | (go_at_call 100; go_must (with_reducible refine (HF.out _ fm (by repeat (first | (with_reducible exact Fr.refl _ _) | (with_reducible refine Fr.drew ?_) | (with_reducible refine Fr.drewN ?_ _) | (with_reducible refine Fr.alloc ?_ _) | (with_reducible refine Fr.set1 ?_ _) | (with_reducible refine Fr.setNew ?_ (by omega) _)))).mono ?_; rintro e w2 ⟨rfl, f2⟩; have F2 := Lib.hid (Fw.out.then_ (S2 := fun _ => False) f2 (fun _ h => h.elim)); have c0 := blk_cell (F2.out.blk Hb.out (fun h => h)) 5 (L.get _); clear f2)))
  clear c0
  have c0 := blk_cell (F2.out.blk Hb.out (fun h => h)) 5 (L.get _)
  go_upto_if 25 with fail
  go_cut [10] from 14 (fun s w' => s = .int .i64 (hiP ps t2) ∧ Fr (fun _ => False) w w')
  case first =>
    by_cases hz : t2 = 0
    · have hv := Lib.hid (show hiP ps t2 = ps.length from if_pos hz)
      have hq : (t2 != 0) = false := by simp [hz]
      clear hz
      obtain ⟨q, hq2⟩ : ∃ q, (t2 != 0) = q := ⟨_, rfl⟩
      rw [hq] at hq2
      subst hq2
      rw [hq]
      clear hq
      go_wp2_with fail
      go_meet
      exact ⟨by rw [hv.out], F2.out⟩
    · have hq : (t2 != 0) = true := by simpa using hz
      have hv := Lib.hid (show hiP ps t2 = if (ps.map (·.1))[low ps t2]? = some t2 then low ps t2 + 1 else low ps t2 from if_neg hz)
      rw [hq]
      clear hz hq
      obtain ⟨k, hk⟩ : ∃ k, low ps t2 = k := ⟨_, rfl⟩
      have HFt := Lib.hid (show ∀ W, Fr (fun _ => False) w W → Calls Tryd.prog 100 #[.pointer (some ⟨L.b, 5, none⟩), .int .i64 t2] W fun e w' => e = .returned (.int .i64 k) ∧ Fr (fun _ => False) W w' from fun W f => hk ▸ HF.out W t2 f)
      rw [hk] at hv hlt
      clear hk
      by_cases hkl : k < ps.length
      · have hklI : (k : Int) < ps.length := by omega
        obtain ⟨x, hx⟩ : ∃ x, ps[k].1 = x := ⟨_, rfl⟩
        have hget : (ps.map (·.1))[k]? = some x := by rw [List.getElem?_map, List.getElem?_eq_getElem hkl]; simp [hx]
        rw [hget] at hv
        obtain ⟨g, cap', e1⟩ := own_some Ho.out (by omega)
        simp only [Value.slice.injEq] at e1
        obtain ⟨rfl, -, rfl⟩ := e1
        have w1 : IntKind.i64.wrap ((k : Int) + 1) = k + 1 := IntWalk.i64_in _ (by omega)
        cases hxt : (x == t2)
        · have hv2 := Lib.hid (show hiP ps t2 = k from by rw [hv.out, if_neg (by simpa using hxt)])
          go_wp2_with (go_at_call 100; go_must (with_reducible refine (HFt.out _ F2.out).mono ?_; rintro e w3 ⟨rfl, f3⟩; have F3 := Lib.hid (F2.out.then_ (S2 := fun _ => False) f3 (fun _ h => h.elim)); have c3 := blk_cell (F3.out.blk Hb.out (fun h => h)) 5 (L.get _); have p0 := (own_pair (own_fr Ho.out F3.out (fun _ _ h => h)) rfl hkl).1; rw [hx] at p0; clear f3))
          go_meet
          exact ⟨by rw [hv2.out], F3.out⟩
        · have hv2 := Lib.hid (show hiP ps t2 = k + 1 from by rw [hv.out, if_pos (by simpa using hxt)])
          go_wp2_with (go_at_call 100; go_must (with_reducible refine (HFt.out _ F2.out).mono ?_; rintro e w3 ⟨rfl, f3⟩; have F3 := Lib.hid (F2.out.then_ (S2 := fun _ => False) f3 (fun _ h => h.elim)); have c3 := blk_cell (F3.out.blk Hb.out (fun h => h)) 5 (L.get _); have p0 := (own_pair (own_fr Ho.out F3.out (fun _ _ h => h)) rfl hkl).1; rw [hx] at p0; clear f3))
          go_meet
          exact ⟨by rw [hv2.out]; go_num, F3.out⟩
      · have hklI : ¬ (k : Int) < ps.length := by omega
        have hv2 := Lib.hid (show hiP ps t2 = k from by rw [hv.out, if_neg (by rw [List.getElem?_eq_none (by simpa using hkl)]; simp)])
        go_wp2_with (go_at_call 100; go_must (with_reducible refine (HFt.out _ F2.out).mono ?_; rintro e w3 ⟨rfl, f3⟩; have F3 := Lib.hid (F2.out.then_ (S2 := fun _ => False) f3 (fun _ h => h.elim)); have c3 := blk_cell (F3.out.blk Hb.out (fun h => h)) 5 (L.get _); clear f3))
        go_meet
        exact ⟨by rw [hv2.out], F3.out⟩
  case rest =>
  obtain ⟨rfl, fc⟩ := hcut
  have FC := Lib.hid fc
  clear c0 fc F2 HF Fw
  have HRg := Lib.hid (show rangeL ps fm t2 = (ps.drop (low ps fm)).take (hiP ps t2 - low ps fm) from rfl)
  obtain ⟨i, hi⟩ : ∃ i, low ps fm = i := ⟨_, rfl⟩
  obtain ⟨k, hk⟩ : ∃ k, hiP ps t2 = k := ⟨_, rfl⟩
  rw [hi] at hlo HRg ⊢
  rw [hk] at hhi HRg ⊢
  clear hi hk hlt
  go_wp2_with fail
  go_loopw [9, 11] (fun s v wr => ∃ j : Nat, i ≤ j ∧ (j ≤ k ∨ j = i) ∧ s = .int .i64 j ∧ OwnP wr (Gro (fun _ => False) w wr) v ((ps.drop i).take (j - i)) ∧ Fr (fun _ => False) w wr) (fun s _ _ => ((k : Int) - intOf s).toNat)
  case atStart => exact ⟨i, by omega, .inr rfl, rfl, ⟨by rw [Nat.sub_self]; exact World.ownsRow_nil _ _ _ _, fun k hk => by simp [Value.ownBlock] at hk⟩, FC.out⟩
  case round =>
    obtain ⟨j, hj, hjk, rfl, ov, hf⟩ := hrel
    have HV := Lib.hid ov
    have HFr := Lib.hid hf
    by_cases hlt2 : j < k
    · have hltI : (j : Int) < k := by omega
      have hjn : j < ps.length := by omega
      have hjnI : (j : Int) < ps.length := by omega
      obtain ⟨g, cap', e1⟩ := own_some Ho.out (by omega)
      simp only [Value.slice.injEq] at e1
      obtain ⟨rfl, -, rfl⟩ := e1
      have c0 := blk_cell (hf.blk Hb.out (fun h => h)) 5 (L.get _)
      obtain ⟨p0, p1⟩ := own_pair (own_fr Ho.out hf (fun _ _ h => h)) rfl hjn
      obtain ⟨x, hx⟩ : ∃ x, ps[j].1 = x := ⟨_, rfl⟩
      obtain ⟨y, hy⟩ : ∃ y, ps[j].2 = y := ⟨_, rfl⟩
      rw [hx] at p0
      rw [hy] at p1
      have w1 : IntKind.i64.wrap ((j : Int) + 1) = j + 1 := IntWalk.i64_in _ (by omega)
      have htk : (ps.drop i).take (j + 1 - i) = (ps.drop i).take (j - i) ++ [(x, y)] := by
        have h1 : j - i < (ps.drop i).length := by rw [List.length_drop]; omega
        rw [show j + 1 - i = (j - i) + 1 by omega, List.take_succ_eq_append_getElem h1]
        have e : (ps.drop i)[j - i] = (x, y) := by
          rw [List.getElem_drop]
          have : i + (j - i) = j := by omega
          simp only [this, ← hx, ← hy]
        rw [e]
      have hl1 : ((ps.drop i).take (j - i)).length = j - i := by rw [List.length_take, List.length_drop]; omega
      have HT := Lib.hid htk
      have HL1 := Lib.hid hl1
      have Hov := Lib.hid (show wr.ownsRow 0 121 2 u11 (j - i) _ from hl1 ▸ ov.1)
      have hjb : j - i ≤ 100000 := by omega
      clear ov hf hx hy htk hl1 hlt2 hjk
      go_wp2_with (at_builtin; go_must (refine wpList_append_fresh _ wr rfl (.tmp 55) (.tmp 63) 93 rfl 121 i0 (.agg #[.int .i64 0, .int .i64 0]) 2 16 Tryd.underlying93 hi0 hz0 hz1 hz2 rfl (by decide) _ (j - i) _ rfl Hov.out #[.int .i64 x, .int .i64 y] rfl rfl rfl (by intro u hu; simp at hu; rcases hu with rfl | rfl <;> rfl) (by omega) (by omega) ?_); intro g2 cap2 w3 hown3 hf3 hat3; have HW3 := Lib.hid hown3; have HF3 := Lib.hid hf3; have HT3 := Lib.hid hat3; clear hown3 hf3 hat3)
      have Hge := Lib.hid (show ∀ m, u11.ownBlock = some m → w.heap.size ≤ m from fun m hm => by
        rcases HV.out.2 m hm with h | h
        · exact h.elim
        · exact h.1)
      have Hsw := Lib.hid (show w.heap.size ≤ wr.heap.size from HFr.out.size)
      go_roundw
      case rel =>
        have hlen : ((ps.drop i).take (j + 1 - i)).length = j - i + 1 := by rw [HT.out, List.length_append, HL1.out]; rfl
        refine ⟨j + 1, by omega, .inl (by omega), by go_num, ⟨?_, fun m hm => ?_⟩, ?_⟩
        · rw [hlen, HT.out, prs_app]
          exact HW3.out
        · refine .inr ⟨?_, own_lt HW3.out hm⟩
          rcases HT3.out m hm with h | h
          · exact Hge.out m h
          · have h2 := Hsw.out
            have h3 : (wr.alloc (.cells #[.int .i64 x, .int .i64 y] 121)).heap.size = wr.heap.size + 1 := Array.size_push ..
            omega
        · exact (HFr.out.alloc (.cells #[.int .i64 x, .int .i64 y] 121)).then_ HF3.out (fun m hm => .inr (Hge.out m hm))
      case measure => simp [intOf]; omega
    · have hltI : ¬ (j : Int) < k := by omega
      have hjk2 : j - i = k - i := by omega
      clear ov hf
      go_wp2_with fail
      go_ret
      exact ⟨u11, rfl, by rw [HRg.out, ← hjk2]; exact HV.out, HFr.out⟩
end Go.Proofs.YtjchjpmgbmeohaaDoor
