/- Law 11: the walk of ProbeFills. -/
import Derived.Test.YthkmdhkifkapkaaPrS
import Derived.Maps.OwnOps
set_option linter.unusedSimpArgs false
set_option linter.unusedVariables false
namespace Go.Proofs.Ythkmdhkifkapkaa
open Go.RowKit

theorem Row.nm {w : World} {a : Option Addr} {l : List Nm} (h : Row w a (l.flatMap Nm.cells)) {i : Nat} (hi : i < l.length) :
    ∃ b off, a = some ⟨b, off, none⟩ ∧ b < w.heap.size ∧ w.cell? ⟨b, off + i * 2, none⟩ = some (.int .u64 l[i].hi) ∧ w.cell? ⟨b, off + i * 2 + 1, none⟩ = some (.int .u64 l[i].lo) := by
  have g : ∀ j u, j < 2 → (Nm.cells l[i])[j]? = some u → ∃ b off, a = some ⟨b, off, none⟩ ∧ w.cell? ⟨b, off + i * 2 + j, none⟩ = some u := fun j u hj hu => by
    obtain ⟨b, off, e, hc⟩ := h (i * 2 + j) u ((flat_get (f := Nm.cells) (n := 2) (fun _ => rfl) l i hi j hj).trans hu)
    exact ⟨b, off, e, by rw [Nat.add_assoc]; exact hc⟩
  obtain ⟨b, off, e, c0⟩ := g 0 _ (by omega) rfl
  subst e
  have g2 : ∀ j u, j < 2 → (Nm.cells l[i])[j]? = some u → w.cell? ⟨b, off + i * 2 + j, none⟩ = some u := fun j u hj hu => by
    obtain ⟨b', off', e, hc⟩ := g j u hj hu
    simp only [Option.some.injEq, Addr.mk.injEq] at e
    obtain ⟨rfl, rfl, _⟩ := e
    exact hc
  exact ⟨b, off, rfl, World.block_lt_of_cell? w _ c0, c0, g2 1 _ (by omega) rfl⟩
/-- The step of a loop over names. -/
theorem wpList_next_names (w : World) {ops : Array Oper} {rest : List Oper} {o : Oper} {a : Act} {Q : Exit → Act → World → Prop} (hg : o.guard = none) (it : Operand) (hop : o.op = Op.next it false)
    (b r n : Nat) (D : Du) (left : Lit → Bool) (cnt : Nat) (hit : a.eval it = .pointer (some ⟨r, 0, none⟩)) (h : w.ranges Try.prog 25 (plainElem (H := Unit) Try.prog 3) b r n D left cnt)
    (hDone : cnt = 0 → (∀ kl, left kl = false) → wpList Try.prog ops Q rest (a.put o.dst (.tuple #[.bool false])) w)
    (hMore : ∀ (x : Nm) (c : Int) (w' : World) (cnt' : Nat), x.wf → (Lit.int .i64 c).wf = true → left x.lit = true → (∀ zd, D.atKey x.lit zd = intL c) → w'.ranges Try.prog 25 (plainElem (H := Unit) Try.prog 3) b r n D (fun z => left z && !z.sameKey x.lit) cnt' → cnt' < cnt →
      w.grownBy w' (some r) → w'.heap.size = w.heap.size → (Instr.entry (.pointer (some ⟨r, 0, none⟩))).run Try.prog w' = .ok (.tuple #[.agg #[.int .u64 x.hi, .int .u64 x.lo], .int .i64 c]) w' → wpList Try.prog ops Q rest (a.put o.dst (.tuple #[.bool true, .agg #[.int .u64 x.hi, .int .u64 x.lo], .int .i64 c])) w') :
    wpList Try.prog ops Q (o :: rest) a w :=
  wpList_next_ranges w hg it hop 25 Try.lawNm (plainElem (H := Unit) Try.prog 3) Nm.val (Value.int .i64) (fun key kl hkey => by obtain ⟨x, rfl, _⟩ := key_inv hkey; exact ⟨x, rfl⟩) (fun v y hv => by obtain ⟨c, rfl, _⟩ := plainElem_int_inv Try.underlying3 hv; exact ⟨c, rfl⟩)
    b r n D left cnt hit h hDone (fun x c kl y w' cnt' hkey hlk hv hat hrg hlt hgr hsz hen => by
      obtain ⟨x', ex, hwf, rfl⟩ := key_inv hkey
      have e : x = x' := by
        cases x; cases x'
        simp only [Nm.val, Value.agg.injEq, Array.mk.injEq, List.cons.injEq, Value.int.injEq, true_and, and_true] at ex
        rw [ex.1, ex.2]
      subst e
      obtain ⟨c', ec, rfl, hwc⟩ := plainElem_int_inv Try.underlying3 hv
      cases ec
      exact hMore x c w' cnt' hwf hwc hlk hat hrg hlt hgr hsz hen)
theorem pb_of {ps : List PC} {x : Nm} {b hs : Bool} (hb : b = true ↔ ¬ IsIn ps x) (hin : IsIn ps x ↔ x.wf ∧ hs = true) (hw : x.wf) : b = !hs := by
  cases hs with
  | true =>
    cases b with
    | false => rfl
    | true => exact (hb.1 rfl (hin.2 ⟨hw, rfl⟩)).elim
  | false => exact hb.2 (fun h => absurd (hin.1 h).2 (by decide))
theorem gb_of {ps : List PC} {x : Nm} {a : Int} {b hs : Bool} (hg : (b = true ∧ Has ps x a) ∨ (b = false ∧ a = 0 ∧ ¬ IsIn ps x)) (hin : IsIn ps x ↔ x.wf ∧ hs = true) (hw : x.wf) : hs = b := by
  rcases hg with ⟨rfl, h⟩ | ⟨rfl, -, h⟩
  · exact (hin.1 (has_in h)).2
  · cases hs with
    | false => rfl
    | true => exact (h (hin.2 ⟨hw, rfl⟩)).elim
theorem i64_wf {z : Int} (h0 : 0 ≤ z) (h1 : z ≤ 1000000) : (Lit.int .i64 z).wf = true := by
  simp only [Lit.wf, IntKind.min, IntKind.max, IntKind.signed, IntKind.bits, Bool.and_eq_true, decide_eq_true_eq]
  simp
  omega

set_option maxRecDepth 4000 in
set_option maxHeartbeats 6400000 in
theorem fills_any (w : World) (a : Option Addr) (cap : Nat) (ns : List Nm) (other : Nm) (hr : Row w a (ns.flatMap Nm.cells)) (hwf : ∀ x ∈ ns, x.wf) (how : other.wf) :
    Calls Try.prog 4 #[.slice a ns.length cap, .agg #[.int .u64 other.hi, .int .u64 other.lo]] w fun r w' => r = .returned (.bool true) ∧ Fr (fun _ => False) w w' := by
  have hmm := @run_makeMap Try.prog
  have HR := Lib.hid hr
  have HWf := Lib.hid hwf
  have HOw := Lib.hid how
  have Bx := Lib.hid (heap_alloc_new w (.cells #[.int .u64 other.hi, .int .u64 other.lo] 25))
  have FA := Lib.hid ((Fr.refl (fun _ => False) w).alloc (.cells #[.int .u64 other.hi, .int .u64 other.lo] 25))
  have HZ := Lib.hid (show (w.alloc (.cells #[.int .u64 other.hi, .int .u64 other.lo] 25)).heap.size = w.heap.size + 1 from Array.size_push ..)
  obtain ⟨n, hnn⟩ : ∃ n, ns.length = n := ⟨_, rfl⟩
  rw [hnn]
  have HN := Lib.hid hnn
  clear hr hnn hwf how
  go_enter Try.func4, Try.ntmps4
  go_wp2_with fail
  refine (alive11_any _).mono ?_
  rintro e w1 ⟨rfl, f1⟩
  have F1 := Lib.hid (FA.out.then_ f1 (fun _ h => h.elim))
  have Bx1 := Lib.hid (f1.blk Bx.out (fun h => h))
  have HZ1 := Lib.hid (show w.heap.size + 1 ≤ w1.heap.size from by have := f1.size; have := HZ.out; omega)
  clear f1
  by_cases hbig : (400 : Int) < n
  · go_wp2_with fail
    go_ret
    exact ⟨rfl, F1.out⟩
  have hn4 : n ≤ 400 := by omega
  go_wp2_with fail
  refine (new_any _).mono ?_
  rintro e w2 ⟨T, S, rfl, ht, hS, f2⟩
  have FM := Lib.hid ((Fr.refl (fun _ => False) w2).alloc (.map #[] 0))
  have HT := Lib.hid (ht.fr FM.out (fun _ _ h => h))
  have HOwn := Lib.hid (World.ownsMap_made w2 Try.prog 25 (plainElem (H := Unit) Try.prog 3))
  have HS := Lib.hid (show ∀ j, S j → w.heap.size + 1 ≤ j ∧ j ≠ w2.heap.size from fun j hj => ⟨Nat.le_trans HZ1.out (hS j hj), fun e => by have := Rw.lt ht.is hj; omega⟩)
  have F2 := Lib.hid ((F1.out.then_ f2 (fun _ h => h.elim)).then_ FM.out (fun _ h => h.elim))
  have Bx2 := Lib.hid (FM.out.blk (f2.blk Bx1.out (fun h => h)) (fun h => h))
  have HB0 := Lib.hid (show w.heap.size + 1 ≤ w2.heap.size from Nat.le_trans HZ1.out f2.size)
  clear ht hS f2
  go_wp2_with fail
  obtain ⟨B, hBe⟩ : ∃ B, w2.heap.size = B := ⟨_, rfl⟩
  rw [hBe] at HOwn HS HB0 ⊢
  clear hBe
  go_loopw [29] (fun i wr => ∃ (k : Nat) (S : Nat → Prop) (ps : List PC) (D : Du), k ≤ n ∧ i = .int .i64 k ∧ IsT wr S T ps ∧ wr.ownsMap Try.prog 25 (plainElem (H := Unit) Try.prog 3) B k D ∧ Agr ps D ∧ (∀ j, S j → w.heap.size + 1 ≤ j ∧ j ≠ B) ∧ Fr (fun _ => False) w wr ∧ wr.heap[w.heap.size]? = some (.cells #[.int .u64 other.hi, .int .u64 other.lo] 25 (0, 0))) (fun i _ => ((n : Int) - intOf i).toNat)
  case atStart => exact ⟨0, S, empty8, .map [], Nat.zero_le _, rfl, HT.out, HOwn.out, agr_nil, HS.out, F2.out, Bx2.out⟩
  case round =>
    obtain ⟨k, S, ps, D, hk, rfl, ht, hown, hag, hS, hf, hbx⟩ := hrel
    have HF := Lib.hid hf
    have HTr := Lib.hid ht
    have HOw1 := Lib.hid hown
    have HAg := Lib.hid hag
    have HSr := Lib.hid hS
    have HBx := Lib.hid hbx
    have HBlt := Lib.hid hown.lt
    by_cases hlt : k < n
    · have hltI : (k : Int) < n := by omega
      have hkl : k < ns.length := by rw [HN.out]; exact hlt
      obtain ⟨b, off, rfl, hbk, x0, x1⟩ := (HR.out.fr hf (fun _ _ h => h)).nm (i := k) hkl
      have hxw := HWf.out _ (List.getElem_mem hkl)
      obtain ⟨x, hxe⟩ : ∃ x, ns[k] = x := ⟨_, rfl⟩
      rw [hxe] at x0 x1 hxw
      obtain ⟨nhi, nlo⟩ := x
      have x0 : wr.cell? ⟨b, off + k * 2, none⟩ = some (.int .u64 nhi) := x0
      have x1 : wr.cell? ⟨b, off + k * 2 + 1, none⟩ = some (.int .u64 nlo) := x1
      have HXw := Lib.hid hxw
      have w1 : IntKind.i64.wrap ((k : Int) + 1) = k + 1 := IntWalk.i64_in _ (by omega)
      have FAc := Lib.hid ((Fr.refl (fun _ => False) wr).alloc (.cells #[.int .u64 nhi, .int .u64 nlo] 25))
      have Hbc := Lib.hid (heap_alloc_new wr (.cells #[.int .u64 nhi, .int .u64 nlo] 25))
      have HTc := Lib.hid (ht.fr FAc.out (fun _ _ h => h))
      have HOc := Lib.hid (map_fr hown FAc.out (fun h => h))
      have HNs := Lib.hid (show ¬ S wr.heap.size from fun h => by have := Rw.lt ht.is h; omega)
      have HWr := Lib.hid (show w.heap.size + 1 ≤ wr.heap.size from blk_lt hbx)
      have HCn := Lib.hid (show cnt 1 ps ≤ k from by rw [hag.num]; exact hown.size_le)
      have q0 := blk_cell Hbc.out 0 rfl; have q1 := blk_cell Hbc.out 1 rfl
      have hkey : keyOf Try.prog 25 (.agg #[.int .u64 nhi, .int .u64 nlo]) = some (Nm.lit ⟨nhi, nlo⟩) := key_Nm hxw
      have Hkey := Lib.hid hkey
      have HPut := Lib.hid (put_any (wr.alloc (.cells #[.int .u64 nhi, .int .u64 nlo] 25)) S T ps ⟨nhi, nlo⟩ k HTc.out (by have := HCn.out; omega))
      obtain ⟨hs, hhs⟩ : ∃ hs, Go.Maps.has D (Nm.lit ⟨nhi, nlo⟩) = hs := ⟨_, rfl⟩
      have HHs := Lib.hid hhs
      clear ht hown hag hS hf hbx hxw hxe hkey hhs
      cases hs
      all_goals
        go_wp2_with (first
          | (at_lookup; refine wpList_lookup_own_ok_int _ rfl _ _ 37 rfl 25 3 .i64 Try.lawNm Try.underlying37 Try.underlying3 (Try.zeroInt _) B k D rfl HOc.out _ _ rfl Hkey.out ?_; intro c hat hwc; rw [HHs.out])
          | fail)
        refine HPut.out.mono ?_
        rintro e w3 ⟨pb, ps2, rfl, hb, ht, hh, hc, f3⟩
        have hag2 := HAg.out.put HXw.out hb hh hc
        have hin := HAg.out.isin ⟨nhi, nlo⟩
        rw [HHs.out] at hin
        obtain rfl := pb_of hb hin HXw.out
        have HT3 := Lib.hid ht
        have HAg2 := Lib.hid hag2
        have F3 := Lib.hid f3
        have HSG := Lib.hid (show ∀ j, Gro S (wr.alloc (.cells #[.int .u64 nhi, .int .u64 nlo] 25)) w3 j → w.heap.size + 1 ≤ j ∧ j ≠ B from fun j hj => hj.elim (HSr.out j) (fun h => by have h1 := h.1; have := FAc.out.size; have := HWr.out; have := HBlt.out; exact ⟨by omega, by omega⟩))
        have HO3 := Lib.hid (map_fr HOc.out f3 (fun h => (HSr.out B h).2 rfl))
        have Bc3 := Lib.hid (f3.blk Hbc.out HNs.out)
        have q0 := blk_cell Bc3.out 0 rfl; have q1 := blk_cell Bc3.out 1 rfl
        have FF := Lib.hid ((HF.out.then_ FAc.out (fun _ h => h.elim)).then_ f3 (fun j hj => .inr (Nat.le_of_lt (HSr.out j hj).1)))
        have Bx3 := Lib.hid (f3.blk (FAc.out.blk HBx.out (fun h => h)) (fun h => Nat.not_succ_le_self _ (HSr.out _ h).1))
        clear ht hb hh hc f3 hag2 hin
        go_wp2_with (first
          | (at_mapUpdate; refine wpList_mapUpdate_own _ rfl _ _ _ 37 rfl 25 3 Try.lawNm Try.underlying37 _ B k D rfl HO3.out (by unfold maxLen; omega) _ _ _ rfl rfl Hkey.out _ [] (plainElem_int Try.underlying3 (i64_wf (by omega) (by omega))) ?_; intro w4 hown4 hgrow4; have HO4 := Lib.hid hown4; have F4 := Lib.hid (Fr.grownBy hgrow4); clear hown4 hgrow4)
          | fail)
        go_roundw
        case rel => first | exact ⟨k + 1, _, ps2, _, by omega, by go_num, HT3.out.fr F4.out (fun j hj e => (HSG.out j hj).2 (Option.some.inj e)), HO4.out, HAg2.out, HSG.out, FF.out.then_ F4.out (fun j hj => .inr (by have e := Option.some.inj hj; have := HB0.out; omega)), F4.out.blk Bx3.out (fun e => by have e := Option.some.inj e; have := HB0.out; omega)⟩ | ((repeat apply Exists.intro); refine (fun a b => ⟨b, a⟩ : ∀ {P Q : Prop}, P → Q → Q ∧ P) ?_ ?_; (first | rfl | exact ⟨rfl, rfl⟩ | exact ⟨rfl, rfl, rfl⟩); exact ⟨k + 1, _, ps2, _, by omega, by go_num, HT3.out.fr F4.out (fun j hj e => (HSG.out j hj).2 (Option.some.inj e)), HO4.out, HAg2.out, HSG.out, FF.out.then_ F4.out (fun j hj => .inr (by have e := Option.some.inj hj; have := HB0.out; omega)), F4.out.blk Bx3.out (fun e => by have e := Option.some.inj e; have := HB0.out; omega)⟩)
        case measure => simp [intOf, w1]; omega
    · have hltI : ¬ (k : Int) < n := by omega
      have hon := HOw1.out.mono (show k ≤ n from hk)
      have HOn := Lib.hid hon
      clear ht hown hag hS hf hbx hon
      go_wp2_with (first
        | (at_range; refine wpList_range_own _ rfl _ 37 rfl 25 3 Try.lawNm Try.underlying37 _ B n D rfl HOn.out ?_; intro w0 hrg0 hg0 hs0)
        | fail)
      (try go_frame)
      have HG0 := Lib.hid (Fr.grownBy hg0)
      have HRg0 := Lib.hid hrg0
      clear hrg0 hg0 hs0
      obtain ⟨r, hre⟩ : ∃ r, wr.heap.size = r := ⟨_, rfl⟩
      have HRe := Lib.hid hre
      rw [hre] at HRg0 ⊢
      clear hre
      obtain ⟨v, hv⟩ : ∃ v : World, v = wr := ⟨_, rfl⟩
      subst hv
      have HVw := Lib.hid (show Fr (fun _ => False) v w0 from (HG0.out.mono (fun _ h => by cases h)))
      go_loopw [56] (fun _ wr => ∃ (left : Lit → Bool) (cn : Nat), wr.ranges Try.prog 25 (plainElem (H := Unit) Try.prog 3) B r n D left cn ∧ Fr (fun k => k = r) v wr ∧ r < wr.heap.size) (fun _ wr => wr.rangeLeft B r)
      case atStart => exact ⟨_, _, HRg0.out, HVw.out.mono (fun _ h => h.elim), HRg0.out.lt⟩
      case round =>
        obtain ⟨left, cn, hrg, hfv, hrl⟩ := hrel
        have HRg := Lib.hid hrg
        have HFv := Lib.hid hfv
        clear hfv
        go_wp2_with (first
          | (at_next; refine wpList_next_names _ rfl _ rfl B r n D left cn rfl hrg ?_ ?_)
          | fail)
        · intro _ hl0
          clear hl0
          have HOv := Lib.hid hrg.owns
          have HSn := Lib.hid (show ∀ j, S j → j ≠ r ∧ j ≠ B from fun j hj => ⟨fun e => by have := Rw.lt HTr.out.is hj; have := HRe.out; omega, (HSr.out j hj).2⟩)
          have HTw := Lib.hid (HTr.out.fr HFv.out (fun j hj e => (HSn.out j hj).1 e))
          have Bxw := Lib.hid (HFv.out.blk HBx.out (fun e => by have e2 : w.heap.size = r := e; have := HRe.out; have := blk_lt HBx.out; omega))
          have FW := Lib.hid (HF.out.then_ HFv.out (fun j hj => .inr (by have e2 : j = r := hj; have := HRe.out; have := HF.out.size; omega)))
          have z0 := blk_cell Bxw.out 0 rfl
          have z1 := blk_cell Bxw.out 1 rfl
          have hkey : keyOf Try.prog 25 (.agg #[.int .u64 other.hi, .int .u64 other.lo]) = some other.lit := key_Nm HOw.out
          have Hkey := Lib.hid hkey
          obtain ⟨hs, hhs⟩ : ∃ hs, Go.Maps.has D other.lit = hs := ⟨_, rfl⟩
          have HHs := Lib.hid hhs
          have HGet := Lib.hid (get_any wr S T ps other HTw.out)
          clear hrg hkey hhs hrl
          go_wp2_with (first
            | (at_lookup; refine wpList_lookup_own_ok_int _ rfl _ _ 37 rfl 25 3 .i64 Try.lawNm Try.underlying37 Try.underlying3 (Try.zeroInt _) B n D rfl HOv.out _ _ rfl Hkey.out ?_; intro c hat hwc; rw [HHs.out])
            | fail)
          refine HGet.out.mono ?_
          rintro e w6 ⟨ga, gb, rfl, hg, f6⟩
          obtain rfl := gb_of hg (by have h := HAg.out.isin other; rwa [HHs.out] at h) HOw.out
          have HT6 := Lib.hid (HTw.out.fr f6 (fun _ _ h => h))
          have HO6 := Lib.hid (map_fr HOv.out f6 (fun h => h))
          have FW6 := Lib.hid (FW.out.then_ f6 (fun _ h => h.elim))
          have HLn := Lib.hid (len_any w6 S T ps HT6.out)
          rw [HAg.out.num] at HLn
          obtain ⟨m, hm⟩ : ∃ m, Go.Maps.size D = m := ⟨_, rfl⟩
          have HMm := Lib.hid hm
          rw [hm] at HLn
          have hlen : ∀ ty, (Builtin.len_ #[37] ty #[.map (some B)]).run Try.prog w6 = .ok (.int .i64 m) w6 := fun ty => by have h := HO6.out.len Try.underlying37 ty; rwa [HMm.out] at h
          clear hg f6 hm
          go_wp2_with fail
          refine HLn.out.mono ?_
          rintro e wz ⟨rfl, hwz⟩
          obtain rfl := hwz.symm
          go_wp2_with (first
            | (at_range; refine wpList_range_own _ rfl _ 37 rfl 25 3 Try.lawNm Try.underlying37 _ B n D rfl HO6.out ?_; intro w7 hrg7 hg7 hs7)
            | fail)
          (try go_frame)
          have HG7 := Lib.hid (Fr.grownBy hg7)
          have HRg7 := Lib.hid hrg7
          clear hrg7 hg7 hs7
          obtain ⟨r2, hr2⟩ : ∃ r2, w6.heap.size = r2 := ⟨_, rfl⟩
          have HR2 := Lib.hid hr2
          rw [hr2] at HRg7 ⊢
          clear hr2
          go_loopw [97] (fun _ wr => ∃ (left : Lit → Bool) (cn : Nat) (qs : List PC), wr.ranges Try.prog 25 (plainElem (H := Unit) Try.prog 3) B r2 n D left cn ∧ IsT wr S T qs ∧ Rest qs left ∧ Fr (fun k => S k ∨ k = r2) w6 wr) (fun _ wr => wr.rangeLeft B r2)
          case atStart => exact ⟨_, _, ps, HRg7.out, HT6.out.fr HG7.out (fun _ _ h => by cases h), fun x => HAg.out.isin x, HG7.out.mono (fun _ h => by cases h)⟩
          case round =>
            obtain ⟨left, cn, qs, hrg, ht3, hrest, hf3⟩ := hrel
            have HRs := Lib.hid hrest
            have HT8 := Lib.hid ht3
            have HF8 := Lib.hid hf3
            clear ht3 hrest hf3
            go_wp2_with (first
              | (at_next; refine wpList_next_names _ rfl _ rfl B r2 n D left cn rfl hrg ?_ ?_)
              | fail)
            · intro _ hl0
              have HLn := Lib.hid (len_any wr S T qs HT8.out)
              rw [rest_end HRs.out hl0] at HLn
              clear hl0 hrg
              go_wp2_with fail
              refine HLn.out.mono ?_
              rintro e _ ⟨rfl, rfl⟩
              go_wp2_with fail
              go_ret
              exact ⟨rfl, FW6.out.then_ HF8.out (fun j hj => .inr (hj.elim (fun h => Nat.le_of_lt (HSr.out j h).1) (fun e => by have := HR2.out; have := FW6.out.size; omega)))⟩
            · intro x c w9 cn1 hwx hwc hlx hat hrg1 hlt1 hg1 hs1 hen
              have HX := Lib.hid hwx
              have HG1 := Lib.hid (Fr.grownBy hg1)
              have HRg1 := Lib.hid hrg1
              have HRg := Lib.hid hrg
              have HLt := Lib.hid hlt1
              have FX := Lib.hid ((Fr.refl (fun _ => False) w9).alloc (.cells #[.int .u64 x.hi, .int .u64 x.lo] 25))
              have Hbx := Lib.hid (heap_alloc_new w9 (.cells #[.int .u64 x.hi, .int .u64 x.lo] 25))
              have y0 := blk_cell Hbx.out 0 rfl
              have y1 := blk_cell Hbx.out 1 rfl
              have HSn2 := Lib.hid (show ∀ j, S j → j ≠ r2 ∧ j ≠ B from fun j hj => ⟨fun e => by have := Rw.lt HT6.out.is hj; have := HR2.out; omega, (HSr.out j hj).2⟩)
              have HT9 := Lib.hid ((HT8.out.fr HG1.out (fun j hj e => (HSn2.out j hj).1 (Option.some.inj e))).fr FX.out (fun _ _ h => h))
              have HIn := Lib.hid ((HRs.out x).2 ⟨hwx, hlx⟩)
              have HDr := Lib.hid (drop_any (w9.alloc (.cells #[.int .u64 x.hi, .int .u64 x.lo] 25)) S T qs x HT9.out)
              clear hwx hwc hlx hat hrg1 hlt1 hg1 hs1 hrg
              go_wp2_with fail
              refine HDr.out.mono ?_
              rintro e w10 ⟨b, qs2, rfl, hb, ht, hh, hc, -, f10⟩
              obtain rfl : b = true := hb.2 HIn.out
              have HT10 := Lib.hid ht
              have HRs2 := Lib.hid (rest_drop HRs.out HX.out hh)
              have F10 := Lib.hid f10
              have HRg2 := Lib.hid (ranges_fr (ranges_fr HRg1.out FX.out (fun h => h) (fun h => h)) f10 (fun h => (HSn2.out B h).2 rfl) (fun h => (HSn2.out r2 h).1 rfl))
              clear hb ht hh hc f10
              go_wp2_with fail
              go_roundw
              case rel => exact ⟨_, cn1, qs2, HRg2.out, HT10.out, HRs2.out, ((HF8.out.then_ HG1.out (fun j hj => .inl (.inr (Option.some.inj hj)))).then_ FX.out (fun _ h => h.elim)).then_ F10.out (fun j hj => .inl (.inl hj))⟩
              case measure => rw [HRg2.out.left_eq, HRg.out.left_eq]; exact HLt.out
        · intro x c w5 cn1 hwx hwc hlx hat hrg1 hlt1 hg1 hs1 hen
          have HX := Lib.hid hwx
          have HG1 := Lib.hid (Fr.grownBy hg1)
          have HRg1 := Lib.hid hrg1
          have HLt := Lib.hid hlt1
          have FX := Lib.hid ((Fr.refl (fun _ => False) w5).alloc (.cells #[.int .u64 x.hi, .int .u64 x.lo] 25))
          have Hbx := Lib.hid (heap_alloc_new w5 (.cells #[.int .u64 x.hi, .int .u64 x.lo] 25))
          have y0 := blk_cell Hbx.out 0 rfl
          have y1 := blk_cell Hbx.out 1 rfl
          have HSn := Lib.hid (show ∀ j, S j → j ≠ r ∧ j ≠ B from fun j hj => ⟨fun e => by have := Rw.lt HTr.out.is hj; have := HRe.out; omega, (HSr.out j hj).2⟩)
          have HT5 := Lib.hid (((HTr.out.fr HFv.out (fun j hj e => (HSn.out j hj).1 e)).fr HG1.out (fun j hj e => (HSn.out j hj).1 (Option.some.inj e))).fr FX.out (fun _ _ h => h))
          have HHas := Lib.hid ((HAg.out.has x c hwx).2 ⟨Go.Maps.has_true_of_atKey hat, hat⟩)
          have HGet := Lib.hid (get_any (w5.alloc (.cells #[.int .u64 x.hi, .int .u64 x.lo] 25)) S T ps x HT5.out)
          have HFv2 := Lib.hid (((HFv.out.then_ HG1.out (fun j hj => .inl (Option.some.inj hj))).then_ FX.out (fun _ h => h.elim)))
          have HRl := Lib.hid (show r < (w5.alloc (.cells #[.int .u64 x.hi, .int .u64 x.lo] 25)).heap.size from by have := FX.out.size; have := HG1.out.size; omega)
          clear hwx hwc hlx hat hrg1 hlt1 hg1 hs1 hrg hrl
          go_wp2_with fail
          refine HGet.out.mono ?_
          rintro e w6 ⟨ga, gb, rfl, hg, f6⟩
          obtain ⟨hga, hgb⟩ : c = ga ∧ gb = true := by
            rcases hg with ⟨e1, h⟩ | ⟨e1, _, h⟩
            · exact ⟨has_one HT5.out.inv HHas.out h, e1⟩
            · exact (h (has_in HHas.out)).elim
          subst hga hgb
          have F6 := Lib.hid f6
          have HRg2 := Lib.hid (ranges_fr (ranges_fr HRg1.out FX.out (fun h => h) (fun h => h)) f6 (fun h => h) (fun h => h))
          clear hg f6
          go_wp2_with fail
          go_roundw
          case rel => exact ⟨_, cn1, HRg2.out, HFv2.out.then_ F6.out (fun _ h => h.elim), Nat.lt_of_lt_of_le HRl.out F6.out.size⟩
          case measure => rw [HRg2.out.left_eq, HRg.out.left_eq]; exact HLt.out
end Go.Proofs.Ythkmdhkifkapkaa
