/- The document's Plus, most; wide.Sum; books' total. -/
import Derived.Test.YtjchjpmgbmeohaaDoorBkE
import Derived.Test.YtjchjpmgbmeohaaDoorRow
set_option linter.unusedSimpArgs false
set_option linter.unusedVariables false
namespace Go.Proofs.YtjchjpmgbmeohaaDoor
open Go.RowKit

theorem plus_fit {a b : Nm} (ha : a.ok) (hb : b.ok) : nfit a b = true ↔ (¬ IntKind.u64.wrap (a.hi + b.hi) < a.hi ∧ (IntKind.u64.wrap (a.lo + b.lo) < a.lo → IntKind.u64.wrap (IntKind.u64.wrap (a.hi + b.hi) + 1) ≠ 0)) := by
  obtain ⟨a1, a2, a3, a4⟩ := ha
  obtain ⟨b1, b2, b3, b4⟩ := hb
  unfold nfit Nm.v
  simp only [IntKind.wrap_u64, decide_eq_true_eq]
  constructor
  · intro h
    refine ⟨by omega, fun h2 => by omega⟩
  · rintro ⟨h1, h2⟩
    by_cases h3 : (a.lo + b.lo) % 18446744073709551616 < a.lo
    · have := h2 h3; omega
    · omega
theorem plus_sum {a b : Nm} (ha : a.ok) (hb : b.ok) (h : nfit a b = true) : nadd a b = ⟨if IntKind.u64.wrap (a.lo + b.lo) < a.lo then IntKind.u64.wrap (IntKind.u64.wrap (a.hi + b.hi) + 1) else IntKind.u64.wrap (a.hi + b.hi), IntKind.u64.wrap (a.lo + b.lo)⟩ := by
  have h0 := of_decide_eq_true h
  unfold nadd
  rw [if_pos h0]
  obtain ⟨a1, a2, a3, a4⟩ := ha
  obtain ⟨b1, b2, b3, b4⟩ := hb
  unfold Nm.v at h0 ⊢
  simp only [nof, IntKind.wrap_u64, Nm.mk.injEq]
  split <;> omega
theorem plus_no {a b : Nm} (h : nfit a b = false) : nadd a b = ⟨0, 0⟩ := by
  unfold nadd
  rw [if_neg (of_decide_eq_false h)]
set_option maxRecDepth 4000 in
set_option maxHeartbeats 1600000 in
theorem plus_any (w : World) (a b : Nm) (ha : a.ok) (hb : b.ok) :
    Calls Tryd.prog 45 #[.agg #[.int .u64 a.hi, .int .u64 a.lo], .agg #[.int .u64 b.hi, .int .u64 b.lo]] w fun e w' => e = .returned (.tuple #[.agg #[.int .u64 (nadd a b).hi, .int .u64 (nadd a b).lo], .bool (nfit a b)]) ∧ Fr (fun _ => False) w w' := by
  have hfit := plus_fit ha hb
  have hsum := plus_sum ha hb
  have hno := plus_no (a := a) (b := b)
  obtain ⟨lo, hlo⟩ : ∃ x, IntKind.u64.wrap (a.lo + b.lo) = x := ⟨_, rfl⟩
  obtain ⟨hi, hhi⟩ : ∃ x, IntKind.u64.wrap (a.hi + b.hi) = x := ⟨_, rfl⟩
  obtain ⟨h2, hh2⟩ : ∃ x, IntKind.u64.wrap (hi + 1) = x := ⟨_, rfl⟩
  rw [hlo, hhi, hh2] at hfit hsum
  obtain ⟨q, hq⟩ : ∃ q, nfit a b = q := ⟨_, rfl⟩
  obtain ⟨R, hR⟩ : ∃ R, nadd a b = R := ⟨_, rfl⟩
  rw [hq, hR] at hsum hno
  rw [hq] at hfit
  rw [hq, hR]
  have HFit := Lib.hid hfit
  have HSum := Lib.hid hsum
  have HNo := Lib.hid hno
  clear hfit hsum hno hq hR ha hb
  by_cases p1 : hi < a.hi
  · have HQ := Lib.hid (show q = false from by
      cases q with
      | false => rfl
      | true => exact ((HFit.out.1 rfl).1 p1).elim)
    by_cases p2 : lo < a.lo
    all_goals
      go_enter Tryd.func45, Tryd.ntmps45
      go_wp2_with fail
      refine bodyPost_ret (results_cell2 (p := 4) (q := 5) rfl _ _ (w.heap.size + 1 + 1) 24 _ (0, 0) _ rfl (blk2 w _ _ _) Tryd.underlying24 rfl rfl) rfl ?_
      exact ⟨by rw [HNo.out HQ.out, HQ.out]; rfl, by repeat (first | (with_reducible exact Fr.refl _ _) | (with_reducible refine Fr.drew ?_) | (with_reducible refine Fr.drewN ?_ _) | (with_reducible refine Fr.alloc ?_ _) | (with_reducible refine Fr.set1 ?_ _) | (with_reducible refine Fr.setNew ?_ (by omega) _))⟩
  · by_cases p2 : lo < a.lo
    · cases p3 : (h2 == 0)
      · have HQ := Lib.hid (show q = true from HFit.out.2 ⟨p1, fun _ => by simpa using p3⟩)
        have HV := Lib.hid (HSum.out HQ.out)
        go_enter Tryd.func45, Tryd.ntmps45
        go_wp2_with fail
        refine bodyPost_ret (results_cell2 (p := 4) (q := 5) rfl _ _ (w.heap.size + 1 + 1) 24 _ (0, 0) _ rfl (blk2 w _ _ _) Tryd.underlying24 rfl rfl) rfl ?_
        exact ⟨by rw [HV.out, HQ.out, if_pos (by omega)]; rfl, by repeat (first | (with_reducible exact Fr.refl _ _) | (with_reducible refine Fr.drew ?_) | (with_reducible refine Fr.drewN ?_ _) | (with_reducible refine Fr.alloc ?_ _) | (with_reducible refine Fr.set1 ?_ _) | (with_reducible refine Fr.setNew ?_ (by omega) _))⟩
      · have HQ := Lib.hid (show q = false from by
          cases q with
          | false => rfl
          | true => exact ((HFit.out.1 rfl).2 p2 (by simpa using p3)).elim)
        go_enter Tryd.func45, Tryd.ntmps45
        go_wp2_with fail
        refine bodyPost_ret (results_cell2 (p := 4) (q := 5) rfl _ _ (w.heap.size + 1 + 1) 24 _ (0, 0) _ rfl (blk2 w _ _ _) Tryd.underlying24 rfl rfl) rfl ?_
        exact ⟨by rw [HNo.out HQ.out, HQ.out]; rfl, by repeat (first | (with_reducible exact Fr.refl _ _) | (with_reducible refine Fr.drew ?_) | (with_reducible refine Fr.drewN ?_ _) | (with_reducible refine Fr.alloc ?_ _) | (with_reducible refine Fr.set1 ?_ _) | (with_reducible refine Fr.setNew ?_ (by omega) _))⟩
    · have HQ := Lib.hid (show q = true from HFit.out.2 ⟨p1, fun h => (p2 h).elim⟩)
      have HV := Lib.hid (HSum.out HQ.out)
      go_enter Tryd.func45, Tryd.ntmps45
      go_wp2_with fail
      refine bodyPost_ret (results_cell2 (p := 4) (q := 5) rfl _ _ (w.heap.size + 1 + 1) 24 _ (0, 0) _ rfl (blk2 w _ _ _) Tryd.underlying24 rfl rfl) rfl ?_
      exact ⟨by rw [HV.out, HQ.out, if_neg (by omega)]; rfl, by repeat (first | (with_reducible exact Fr.refl _ _) | (with_reducible refine Fr.drew ?_) | (with_reducible refine Fr.drewN ?_ _) | (with_reducible refine Fr.alloc ?_ _) | (with_reducible refine Fr.set1 ?_ _) | (with_reducible refine Fr.setNew ?_ (by omega) _))⟩

/-! wide.Sum -/
theorem row_at {α : Type} {f : α → List Value} {sz : Nat} (hf : ∀ x, (f x).length = sz) (hs : 0 < sz) {w : World} {a : Option Addr} {l : List α} (h : Row w a (l.flatMap f)) {k : Nat} (hk : k < l.length) : ∃ b off, a = some ⟨b, off, none⟩ ∧ w.rangeAt b (off + k * sz) (f l[k]) := by
  have g : ∀ j u, (f l[k])[j]? = some u → ∃ b off, a = some ⟨b, off, none⟩ ∧ w.cell? ⟨b, off + k * sz + j, none⟩ = some u := fun j u hu => by
    have hj : j < sz := by have := (List.getElem?_eq_some_iff.1 hu).1; rwa [hf] at this
    obtain ⟨b, off, e, hc⟩ := h (k * sz + j) u ((flat_get hf l k hk j hj).trans hu)
    exact ⟨b, off, e, by rw [Nat.add_assoc]; exact hc⟩
  have h0 : 0 < (f l[k]).length := by rw [hf]; exact hs
  obtain ⟨b, off, e, -⟩ := g 0 _ (List.getElem?_eq_getElem h0)
  refine ⟨b, off, e, fun j u hu => ?_⟩
  obtain ⟨b2, off2, e2, hc⟩ := g j u hu
  rw [e] at e2
  simp only [Option.some.injEq, Addr.mk.injEq] at e2
  obtain ⟨rfl, rfl, _⟩ := e2
  exact hc
def sums : Nm → List Nm → Option Nm
  | o, [] => some o
  | o, x :: xs => if nfit o x = true then sums (nadd o x) xs else none
def sumV (ns : List Nm) : Nm := (sums ⟨0, 0⟩ ns).getD ⟨0, 0⟩
set_option maxRecDepth 4000 in
set_option maxHeartbeats 3200000 in
theorem sum_any (w : World) (a : Option Addr) (cap : Nat) (ns : List Nm) (hr : Row w a (ns.flatMap Nm.cells)) (hok : ∀ x ∈ ns, x.ok) (hl : ns.length ≤ 1000000) :
    Calls Tryd.prog 42 #[.slice a ns.length cap] w fun e w' => e = .returned (.tuple #[.agg #[.int .u64 (sumV ns).hi, .int .u64 (sumV ns).lo], .bool (sums ⟨0, 0⟩ ns).isSome]) ∧ Fr (fun _ => False) w w' := by
  have HRw := Lib.hid hr
  have HOk := Lib.hid hok
  have Bz0 := Lib.hid (blk_alloc (heap_alloc_new w (.cells #[.int .u64 0, .int .u64 0] 24)) (.cells #[.int .u64 0, .int .u64 0] 24))
  have Bo0 := Lib.hid (blk1 w (.cells #[.int .u64 0, .int .u64 0] 24) (.cells #[.int .u64 0, .int .u64 0] 24))
  have FA := Lib.hid (((Fr.refl (fun _ => False) w).alloc (.cells #[.int .u64 0, .int .u64 0] 24)).alloc (.cells #[.int .u64 0, .int .u64 0] 24))
  obtain ⟨n, hn⟩ : ∃ n, ns.length = n := ⟨_, rfl⟩
  have HN := Lib.hid hn
  rw [hn] at hl ⊢
  obtain ⟨r, hre⟩ : ∃ r, sums ⟨0, 0⟩ ns = r := ⟨_, rfl⟩
  have HRe := Lib.hid hre
  obtain ⟨V, hV⟩ : ∃ V, sumV ns = V := ⟨_, rfl⟩
  rw [hV, hre]
  have HV := Lib.hid (show r.getD ⟨0, 0⟩ = V from by rw [← hV, sumV, hre])
  obtain ⟨q, hq⟩ : ∃ q, r.isSome = q := ⟨_, rfl⟩
  rw [hq]
  have HQ := Lib.hid hq
  clear hr hok hn hre hV hq
  go_enter Tryd.func42, Tryd.ntmps42
  go_wp2_with fail
  go_loopw [10] (fun i wr => ∃ (k : Nat) (o : Nm), k ≤ n ∧ i = .int .i64 k ∧ o.ok ∧ sums o (ns.drop k) = r ∧ wr.heap[w.heap.size + 1]? = some (.cells #[.int .u64 o.hi, .int .u64 o.lo] 24 (0, 0)) ∧ wr.heap[w.heap.size]? = some (.cells #[.int .u64 0, .int .u64 0] 24 (0, 0)) ∧ Fr (fun _ => False) w wr) (fun i _ => ((n : Int) - intOf i).toNat)
  case atStart => exact ⟨0, ⟨0, 0⟩, Nat.zero_le _, rfl, nzero_ok, HRe.out, Bo0.out, Bz0.out, FA.out⟩
  case round =>
    obtain ⟨k, o, hk, rfl, hoo, hso, hbo, hbz, hf⟩ := hrel
    have FR := Lib.hid hf
    have Bo := Lib.hid hbo
    have Bz := Lib.hid hbz
    have HO := Lib.hid hoo
    have HS := Lib.hid hso
    by_cases hlt : k < n
    · have hltI : (k : Int) < n := by omega
      have hkl : k < ns.length := by rw [HN.out]; exact hlt
      obtain ⟨b, off, rfl, hra⟩ := row_at (f := Nm.cells) (sz := 2) (fun _ => rfl) (by omega) (HRw.out.fr hf (fun _ _ h => h)) hkl
      obtain ⟨x, hx⟩ : ∃ x, ns[k] = x := ⟨_, rfl⟩
      rw [hx] at hra
      have p0 : wr.cell? ⟨b, off + k * 2, none⟩ = some (.int .u64 x.hi) := by have h := hra 0 _ rfl; simpa using h
      have p1 : wr.cell? ⟨b, off + k * 2 + 1, none⟩ = some (.int .u64 x.lo) := hra 1 _ rfl
      have hdr : ns.drop k = x :: ns.drop (k + 1) := by rw [List.drop_eq_getElem_cons hkl, hx]
      rw [hdr, sums] at hso
      have hxo : x.ok := HOk.out x (hx ▸ List.getElem_mem hkl)
      have HXo := Lib.hid hxo
      have w1 : IntKind.i64.wrap ((k : Int) + 1) = k + 1 := IntWalk.i64_in _ (by omega)
      have Bx := Lib.hid (heap_alloc_new wr (.cells #[.int .u64 x.hi, .int .u64 x.lo] 24))
      have FX := Lib.hid (FR.out.alloc (.cells #[.int .u64 x.hi, .int .u64 x.lo] 24))
      have Bo1 := Lib.hid (blk_alloc hbo (.cells #[.int .u64 x.hi, .int .u64 x.lo] 24))
      have Bz1 := Lib.hid (blk_alloc hbz (.cells #[.int .u64 x.hi, .int .u64 x.lo] 24))
      have HAd := Lib.hid (fun W => nadd_any W o x hoo hxo)
      obtain ⟨ft, hft⟩ : ∃ ft, nfit o x = ft := ⟨_, rfl⟩
      rw [hft] at HAd hso
      have HSo := Lib.hid hso
      obtain ⟨s, hs⟩ : ∃ s, nadd o x = s := ⟨_, rfl⟩
      rw [hs] at HAd HSo
      have HSk := Lib.hid (show s.ok from hs ▸ nadd_ok hoo hxo)
      have x0 := blk_cell Bx.out 0 rfl; have x1 := blk_cell Bx.out 1 rfl; have y0 := blk_cell Bo1.out 0 rfl; have y1 := blk_cell Bo1.out 1 rfl
      clear hoo hso hbo hbz hf hra hx hdr hxo hft hs
      cases ft
      · have HV0 := Lib.hid (show V = ⟨0, 0⟩ ∧ q = false from by
          have h := HSo.out
          rw [if_neg (by decide)] at h
          exact ⟨by rw [← HV.out, ← h]; rfl, by rw [← HQ.out, ← h]; rfl⟩)
        go_wp2_with (first
          | (go_at_call 44; (with_reducible refine (HAd.out _).mono ?_); rintro e w3 ⟨rfl, f3⟩; have F3 := Lib.hid (FX.out.then_ f3 (fun _ h => h.elim)); have Bo3 := Lib.hid (f3.blk Bo1.out (fun h => h)); have Bz3 := Lib.hid (f3.blk Bz1.out (fun h => h)); clear f3)
          | ((refine wpList_store_row rfl 24 (.tmp 4) (.tmp 18) rfl (w.heap.size + 1) #[.int .u64 s.hi, .int .u64 s.lo] rfl rfl Bo3.out rfl rfl (by simp [Value.oneCell']) ?_); intro w4 hb4 f4; have F4 := Lib.hid (F3.out.then_ f4 (fun j hj => .inr (by omega))); have Bz4 := Lib.hid (f4.blk Bz3.out (by omega)); clear hb4 f4)
          | ((refine wpList_store_row rfl 24 (.tmp 2) (.tmp 22) rfl w.heap.size #[.int .u64 0, .int .u64 0] rfl rfl Bz4.out rfl rfl (by simp [Value.oneCell']) ?_); intro w9 hb9 f9; have HB9 := Lib.hid hb9; have F9 := Lib.hid f9; clear hb9 f9)
          | fail)
        refine bodyPost_ret (results_cell2 (p := 2) (q := 3) rfl _ _ w.heap.size 24 _ (0, 0) _ rfl HB9.out Tryd.underlying24 rfl rfl) rfl ?_
        exact ⟨by rw [HV0.out.1, HV0.out.2]; rfl, F4.out.then_ F9.out (fun k hk => .inr (Nat.le_of_eq hk.symm))⟩
      · have HSo2 := Lib.hid (show sums s (ns.drop (k + 1)) = r from by have h := HSo.out; rwa [if_pos rfl] at h)
        go_wp2_with (first
          | (go_at_call 44; (with_reducible refine (HAd.out _).mono ?_); rintro e w3 ⟨rfl, f3⟩; have F3 := Lib.hid (FX.out.then_ f3 (fun _ h => h.elim)); have Bo3 := Lib.hid (f3.blk Bo1.out (fun h => h)); have Bz3 := Lib.hid (f3.blk Bz1.out (fun h => h)); clear f3)
          | ((refine wpList_store_row rfl 24 (.tmp 4) (.tmp 18) rfl (w.heap.size + 1) #[.int .u64 s.hi, .int .u64 s.lo] rfl rfl Bo3.out rfl rfl (by simp [Value.oneCell']) ?_); intro w4 hb4 f4; have Bo4 := Lib.hid hb4; have F4 := Lib.hid (F3.out.then_ f4 (fun j hj => .inr (by omega))); have Bz4 := Lib.hid (f4.blk Bz3.out (by omega)); clear hb4 f4)
          | fail)
        go_roundw
        case rel =>
          exact ⟨k + 1, s, by omega, by go_num, HSk.out, HSo2.out, Bo4.out, Bz4.out, F4.out⟩
        case measure => first | (simp only [intOf, w1]; omega) | (simp [intOf, w1]; omega)
    · have hltI : ¬ (k : Int) < n := by omega
      have hdr : ns.drop k = [] := List.drop_eq_nil_of_le (by rw [HN.out]; omega)
      rw [hdr, sums] at hso
      have HV0 := Lib.hid (show V = o ∧ q = true from ⟨by rw [← HV.out, ← hso]; rfl, by rw [← HQ.out, ← hso]; rfl⟩)
      have y0 := blk_cell hbo 0 rfl; have y1 := blk_cell hbo 1 rfl
      clear hoo hso hbo hbz hf hdr
      go_wp2_with (first
        | ((refine wpList_store_row rfl 24 (.tmp 2) (.tmp 24) rfl w.heap.size #[.int .u64 o.hi, .int .u64 o.lo] rfl rfl Bz.out rfl rfl (by simp [Value.oneCell']) ?_); intro w9 hb9 f9; have HB9 := Lib.hid hb9; have F9 := Lib.hid f9; clear hb9 f9)
        | fail)
      refine bodyPost_ret (results_cell2 (p := 2) (q := 3) rfl _ _ w.heap.size 24 _ (0, 0) _ rfl HB9.out Tryd.underlying24 rfl rfl) rfl ?_
      exact ⟨by rw [HV0.out.1, HV0.out.2]; rfl, FR.out.then_ F9.out (fun k hk => .inr (Nat.le_of_eq hk.symm))⟩

/-! books' total; the document's greatest number. -/
def mostN : Nm := ⟨M64, M64⟩
theorem mostN_ok : mostN.ok := by refine ⟨?_, ?_, ?_, ?_⟩ <;> (show _ <;> unfold mostN M64 <;> decide)
def ntot (a b : Nm) : Nm := if nfit a b = true then nadd a b else mostN
theorem ntot_ok {a b : Nm} (ha : a.ok) (hb : b.ok) : (ntot a b).ok := by
  unfold ntot
  split
  · exact nadd_ok ha hb
  · exact mostN_ok
set_option maxRecDepth 4000 in
set_option maxHeartbeats 1600000 in
theorem total_any (w : World) (a b : Nm) (ha : a.ok) (hb : b.ok) (hm : Most w) :
    Calls Tryd.prog 47 #[.agg #[.int .u64 a.hi, .int .u64 a.lo], .agg #[.int .u64 b.hi, .int .u64 b.lo]] w fun e w' => e = .returned (.agg #[.int .u64 (ntot a b).hi, .int .u64 (ntot a b).lo]) ∧ Fr (fun _ => False) w w' := by
  have Bz := Lib.hid (blk2 w (.cells #[.int .u64 a.hi, .int .u64 a.lo] 24) (.cells #[.int .u64 b.hi, .int .u64 b.lo] 24) (.cells #[.int .u64 0, .int .u64 0] 24))
  have FA := Lib.hid ((((Fr.refl (fun _ => False) w).alloc (.cells #[.int .u64 a.hi, .int .u64 a.lo] 24)).alloc (.cells #[.int .u64 b.hi, .int .u64 b.lo] 24)).alloc (.cells #[.int .u64 0, .int .u64 0] 24))
  have HAd := Lib.hid (fun W => nadd_any W a b ha hb)
  have HM := Lib.hid hm
  obtain ⟨R, hR⟩ : ∃ R, ntot a b = R := ⟨_, rfl⟩
  rw [hR]
  unfold ntot at hR
  obtain ⟨q, hq⟩ : ∃ q, nfit a b = q := ⟨_, rfl⟩
  obtain ⟨s, hs⟩ : ∃ s, nadd a b = s := ⟨_, rfl⟩
  rw [hq, hs] at hR HAd
  have HR := Lib.hid hR
  clear hR hq hs ha hb hm
  cases q
  · have HV := Lib.hid (show R = mostN from by rw [← HR.out, if_neg (by decide)])
    go_enter Tryd.func47, Tryd.ntmps47
    go_wp2_with fail
    refine (HAd.out _).mono ?_
    rintro e w2 ⟨rfl, f2⟩
    have F2 := Lib.hid (FA.out.then_ f2 (fun _ h => h.elim))
    have Bz2 := Lib.hid (blk_alloc (f2.blk Bz.out (fun h => h)) (.cells #[.int .u64 s.hi, .int .u64 s.lo] 24))
    have FS := Lib.hid (F2.out.alloc (.cells #[.int .u64 s.hi, .int .u64 s.lo] 24))
    have m0 := (HM.out.fr FS.out (fun h => h)).hi
    have m1 := (HM.out.fr FS.out (fun h => h)).lo
    clear f2
    go_wp2_with (first | ((refine wpList_store_row rfl 24 (.tmp 4) (.tmp 15) rfl (w.heap.size + 1 + 1) #[.int .u64 M64, .int .u64 M64] rfl rfl Bz2.out rfl rfl (by simp [Value.oneCell']) ?_); intro w9 hb9 f9; have HB9 := Lib.hid hb9; have F9 := Lib.hid f9; clear hb9 f9) | fail)
    refine bodyPost_ret (results_cell1 (p := 4) rfl _ _ (w.heap.size + 1 + 1) 24 _ (0, 0) _ rfl HB9.out Tryd.underlying24 rfl rfl) rfl ?_
    exact ⟨by first | (rw [HV.out]; done) | (rw [HV.out]; rfl), FS.out.then_ F9.out (fun k hk => .inr (by omega))⟩
  · have HV := Lib.hid (show R = s from by rw [← HR.out, if_pos rfl])
    go_enter Tryd.func47, Tryd.ntmps47
    go_wp2_with fail
    refine (HAd.out _).mono ?_
    rintro e w2 ⟨rfl, f2⟩
    have F2 := Lib.hid (FA.out.then_ f2 (fun _ h => h.elim))
    have Bz2 := Lib.hid (blk_alloc (f2.blk Bz.out (fun h => h)) (.cells #[.int .u64 s.hi, .int .u64 s.lo] 24))
    have FS := Lib.hid (F2.out.alloc (.cells #[.int .u64 s.hi, .int .u64 s.lo] 24))
    clear f2
    go_wp2_with (first | ((refine wpList_store_row rfl 24 (.tmp 4) (.tmp 16) rfl (w.heap.size + 1 + 1) #[.int .u64 s.hi, .int .u64 s.lo] rfl rfl Bz2.out rfl rfl (by simp [Value.oneCell']) ?_); intro w9 hb9 f9; have HB9 := Lib.hid hb9; have F9 := Lib.hid f9; clear hb9 f9) | fail)
    refine bodyPost_ret (results_cell1 (p := 4) rfl _ _ (w.heap.size + 1 + 1) 24 _ (0, 0) _ rfl HB9.out Tryd.underlying24 rfl rfl) rfl ?_
    exact ⟨by first | (rw [HV.out]; done) | (rw [HV.out]; rfl), FS.out.then_ F9.out (fun k hk => .inr (by omega))⟩
set_option maxRecDepth 4000 in
theorem refMost_any (w : World) : Calls Tryd.prog 49 #[] w fun e w' => e = .returned (.agg #[.int .u64 mostN.hi, .int .u64 mostN.lo]) ∧ Fr (fun _ => False) w w' := by
  go_enter Tryd.func49, Tryd.ntmps49
  go_wp2_with fail
  refine bodyPost_ret (results_cell1 (p := 0) rfl _ _ w.heap.size 24 _ (0, 0) _ rfl (heap_alloc_new w _) Tryd.underlying24 rfl rfl) rfl ?_
  exact ⟨rfl, by (repeat (first | (with_reducible exact Fr.refl _ _) | (with_reducible refine Fr.drew ?_) | (with_reducible refine Fr.drewN ?_ _) | (with_reducible refine Fr.alloc ?_ _) | (with_reducible refine Fr.set1 ?_ _) | (with_reducible refine Fr.setNew ?_ (by omega) _)))⟩
end Go.Proofs.YtjchjpmgbmeohaaDoor
