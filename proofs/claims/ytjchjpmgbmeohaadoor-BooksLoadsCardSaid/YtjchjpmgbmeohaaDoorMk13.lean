/- Several texts in one, for the law BooksBack: BtwA, BoG, BtwB, DoF, Open, AcctO. Each says what it shows; conditions: what each theorem names. -/
import Derived.Test.YtjchjpmgbmeohaaDoorMk12
import Derived.Test.YtjchjpmgbmeohaaDoorMk10
import Derived.Test.YtjchjpmgbmeohaaDoorMk11
import Derived.Test.YtjchjpmgbmeohaaDoorMk6
import Derived.Test.YtjchjpmgbmeohaaDoorMk1
import Derived.ProofKit
import Derived.OpenShut
import Derived.SizedLaws
import Derived.Deep.Slices
import Derived.ChangeArms
import Derived.Test.YtjchjpmgbmeohaaDoorMk2
import Derived.Test.YtjchjpmgbmeohaaDoorRows
import Derived.LaidMore
import Derived.Stop.Joined
/- Books, plain: which transfers' stamps lie between. No program in sight. -/
set_option linter.unusedSimpArgs false
set_option linter.unusedVariables false
namespace Go.Proofs.YtjchjpmgbmeohaaDoor
open Go.RowKit

theorem low_zero {ps : List Pr} {s : Int} (h : ∀ p ∈ ps, ¬ p.1 < s) : low ps s = 0 := by
  cases ps with
  | nil => rfl
  | cons p ps => simp only [low, if_neg (h p (List.mem_cons_self ..))]
theorem hiP_low {ps : List Pr} (hR : Ris ps) {b : Int} (hb : b ≠ 0) : hiP ps b = low ps (b + 1) := by
  rw [hiP, if_neg hb]
  induction ps with
  | nil => rfl
  | cons p ps ih =>
    have hr := List.pairwise_cons.1 hR
    have ih := ih hr.2
    by_cases h1 : p.1 < b
    · have e : low (p :: ps) b = low ps b + 1 := by simp only [low, if_pos h1]
      have e2 : low (p :: ps) (b + 1) = low ps (b + 1) + 1 := by simp only [low, if_pos (show p.1 < b + 1 by omega)]
      rw [e, e2, ← ih, List.map_cons, List.getElem?_cons_succ]
      split <;> rfl
    · have e : low (p :: ps) b = 0 := by simp only [low, if_neg h1]
      rw [e, List.map_cons, List.getElem?_cons_zero]
      by_cases h2 : p.1 = b
      · have e2 : low (p :: ps) (b + 1) = low ps (b + 1) + 1 := by simp only [low, if_pos (show p.1 < b + 1 by omega)]
        rw [if_pos (by rw [h2]), e2, low_zero (fun q hq => by have := hr.1 q hq; omega)]
      · have e2 : low (p :: ps) (b + 1) = 0 := by simp only [low, if_neg (show ¬ p.1 < b + 1 by omega)]
        rw [if_neg (by simpa using h2), e2]
def inP (a b : Int) (p : Pr) : Bool := decide (a ≤ p.1) && decide (p.1 ≤ b)
theorem range_filter {ps : List Pr} (hR : Ris ps) (a : Int) {b : Int} (hb : b ≠ 0) : rangeL ps a b = ps.filter (inP a b) := by
  rw [rangeL, hiP_low hR hb]
  induction ps with
  | nil => rfl
  | cons p ps ih =>
    have hr := List.pairwise_cons.1 hR
    have ih := ih hr.2
    by_cases h1 : p.1 < a
    · have e : low (p :: ps) a = low ps a + 1 := by simp only [low, if_pos h1]
      have e3 : inP a b p = false := by simp [inP]; omega
      rw [e, List.drop_succ_cons, List.filter_cons_of_neg (by simp [e3])]
      by_cases h2 : p.1 < b + 1
      · have e2 : low (p :: ps) (b + 1) = low ps (b + 1) + 1 := by simp only [low, if_pos h2]
        rw [e2, show low ps (b + 1) + 1 - (low ps a + 1) = low ps (b + 1) - low ps a by omega]
        exact ih
      · have e2 : low (p :: ps) (b + 1) = 0 := by simp only [low, if_neg h2]
        rw [e2, Nat.zero_sub, List.take_zero]
        symm
        rw [List.filter_eq_nil_iff]
        intro q hq
        have := hr.1 q hq
        simp [inP]
        omega
    · have e : low (p :: ps) a = 0 := by simp only [low, if_neg h1]
      rw [e, List.drop_zero, Nat.sub_zero]
      have ez : low ps a = 0 := low_zero (fun q hq => by have := hr.1 q hq; omega)
      rw [ez, List.drop_zero, Nat.sub_zero] at ih
      by_cases h2 : p.1 < b + 1
      · have e2 : low (p :: ps) (b + 1) = low ps (b + 1) + 1 := by simp only [low, if_pos h2]
        have e3 : inP a b p = true := by simp [inP]; omega
        rw [e2, List.take_succ_cons, List.filter_cons_of_pos e3, ih]
      · have e2 : low (p :: ps) (b + 1) = 0 := by simp only [low, if_neg h2]
        rw [e2, List.take_zero]
        symm
        rw [List.filter_eq_nil_iff]
        intro q hq
        rcases List.mem_cons.1 hq with rfl | hq
        · simp [inP]; omega
        · have := hr.1 q hq
          simp [inP]
          omega
theorem range_open {ps : List Pr} (hR : Ris ps) (a : Int) : rangeL ps a 0 = ps.filter (fun p => decide (a ≤ p.1)) := by
  have e : rangeL ps a 0 = ps.drop (low ps a) := by
    rw [rangeL, hiP, if_pos rfl, List.take_of_length_le (by rw [List.length_drop]; exact Nat.le_refl _)]
  rw [e]
  induction ps with
  | nil => rfl
  | cons p ps ih =>
    have hr := List.pairwise_cons.1 hR
    by_cases h1 : p.1 < a
    · have e1 : low (p :: ps) a = low ps a + 1 := by simp only [low, if_pos h1]
      rw [e1, List.drop_succ_cons, List.filter_cons_of_neg (by simp; omega)]
      refine ih hr.2 ?_
      rw [rangeL, hiP, if_pos rfl, List.take_of_length_le (by rw [List.length_drop]; exact Nat.le_refl _)]
    · have e1 : low (p :: ps) a = 0 := by simp only [low, if_neg h1]
      rw [e1, List.drop_zero]
      symm
      rw [List.filter_eq_self]
      intro q hq
      rcases List.mem_cons.1 hq with rfl | hq
      · simp; omega
      · have := hr.1 q hq
        simp
        omega
/-- Pairs of stamps and places, from a place on. -/
def ixs : Nat → List Kp → List Pr
  | _, [] => []
  | n, k :: l => (k.move.stamp, (n : Int)) :: ixs (n + 1) l
theorem ixs_mem : ∀ (l : List Kp) (n : Nat) (s a : Int), (s, a) ∈ ixs n l ↔ ∃ (j : Nat) (k : Kp), a = ((n + j : Nat) : Int) ∧ l[j]? = some k ∧ k.move.stamp = s
  | [], n, s, a => by simp [ixs]
  | x :: l, n, s, a => by
    rw [ixs, List.mem_cons, ixs_mem l (n + 1) s a]
    constructor
    · rintro (h | ⟨j, k, rfl, hk, hs⟩)
      · cases h; exact ⟨0, x, rfl, rfl, rfl⟩
      · exact ⟨j + 1, k, by omega, by simpa using hk, hs⟩
    · rintro ⟨j, k, rfl, hk, hs⟩
      cases j with
      | zero => simp only [List.getElem?_cons_zero, Option.some.injEq] at hk; subst hk; left; rw [hs]; rfl
      | succ j => right; exact ⟨j, k, by omega, by simpa using hk, hs⟩
theorem ixs_ris : ∀ (l : List Kp) (n : Nat), l.Pairwise (fun a b => a.move.stamp < b.move.stamp) → Ris (ixs n l)
  | [], n, _ => List.Pairwise.nil
  | x :: l, n, h => by
    rw [List.pairwise_cons] at h
    refine List.pairwise_cons.2 ⟨fun p hp => ?_, ixs_ris l (n + 1) h.2⟩
    obtain ⟨s, a⟩ := p
    obtain ⟨j, k, -, hk, hs⟩ := (ixs_mem l (n + 1) s a).1 hp
    have := h.1 k (List.mem_of_getElem? hk)
    show x.move.stamp < s
    omega
theorem ris_ext : ∀ {a b : List Pr}, Ris a → Ris b → (∀ p, p ∈ a ↔ p ∈ b) → a = b
  | [], [], _, _, _ => rfl
  | [], y :: b, _, _, h => by have := (h y).2 (List.mem_cons_self ..); cases this
  | x :: a, [], _, _, h => by have := (h x).1 (List.mem_cons_self ..); cases this
  | x :: a, y :: b, ha, hb, h => by
    have ha' := List.pairwise_cons.1 ha
    have hb' := List.pairwise_cons.1 hb
    have hxy : x = y := by
      rcases List.mem_cons.1 ((h x).1 (List.mem_cons_self ..)) with e | hx
      · exact e
      · rcases List.mem_cons.1 ((h y).2 (List.mem_cons_self ..)) with e | hy
        · exact e.symm
        · have h1 := hb'.1 x hx
          have h2 := ha'.1 y hy
          omega
    subst hxy
    have : a = b := ris_ext ha'.2 hb'.2 (fun p => by
      constructor
      · intro hp
        rcases List.mem_cons.1 ((h p).1 (List.mem_cons_of_mem _ hp)) with e | hq
        · subst e; have := ha'.1 p hp; omega
        · exact hq
      · intro hp
        rcases List.mem_cons.1 ((h p).2 (List.mem_cons_of_mem _ hp)) with e | hq
        · subst e; have := hb'.1 p hp; omega
        · exact hq)
    rw [this]
theorem orel_ixs {r : Raw} {ps : List Pr} (g : Good r) (h : ORel ps r.sts) : ps = ixs 0 r.kept := by
  refine ris_ext h.up (ixs_ris _ _ g.ris) (fun p => ?_)
  obtain ⟨s, a⟩ := p
  rw [h.iff, g.sts, ixs_mem]
  constructor
  · rintro ⟨k, x, e, hx, hs⟩; exact ⟨k, x, by omega, hx, hs⟩
  · rintro ⟨k, x, e, hx, hs⟩; exact ⟨k, x, by omega, hx, hs⟩
/-- Between two stamps? -/
def inB (a b s : Int) : Bool := decide (a ≤ s) && (decide (b = 0) || decide (s ≤ b))
def Kbt (r : Raw) (a b : Int) : List Kp := r.kept.filter (fun k => inB a b k.move.stamp)
theorem ixs_at (full : List Kp) (Q : Int → Bool) : ∀ (l : List Kp) (n : Nat), (∀ (j : Nat) (k : Kp), l[j]? = some k → full[n + j]? = some k) → ((ixs n l).filter (fun p => Q p.1)).map (fun p => (atZ full p.2).getD Kp.zero) = l.filter (fun k => Q k.move.stamp)
  | [], n, _ => rfl
  | x :: l, n, h => by
    have ih := ixs_at full Q l (n + 1) (fun j k hk => by have := h (j + 1) k (by simpa using hk); rwa [show n + 1 + j = n + (j + 1) by omega])
    have hx : atZ full ((n : Nat) : Int) = some x := by rw [atZ, if_neg (by omega), Int.toNat_natCast]; exact h 0 x rfl
    rw [ixs]
    cases hq : Q x.move.stamp with
    | true => rw [List.filter_cons_of_pos (by exact hq), List.filter_cons_of_pos (by exact hq), List.map_cons, ih, hx]; rfl
    | false => rw [List.filter_cons_of_neg (by simp [hq]), List.filter_cons_of_neg (by simp [hq]), ih]
theorem range_inB {ps : List Pr} (hR : Ris ps) (a b : Int) : rangeL ps a b = ps.filter (fun p => inB a b p.1) := by
  by_cases hb : b = 0
  · subst hb
    rw [range_open hR]
    apply List.filter_congr
    intro p _
    simp [inB]
  · rw [range_filter hR a hb]
    apply List.filter_congr
    intro p _
    simp [inB, inP, hb]
theorem range_kept {r : Raw} {ps : List Pr} (g : Good r) (h : ORel ps r.sts) (a b : Int) : (rangeL ps a b).map (fun p => (atZ r.kept p.2).getD Kp.zero) = Kbt r a b := by
  rw [range_inB h.up, orel_ixs g h]
  exact ixs_at r.kept (inB a b) r.kept 0 (fun j k hk => by rwa [Nat.zero_add])
end Go.Proofs.YtjchjpmgbmeohaaDoor

/- Package order: Range, falling. -/
set_option linter.unusedSimpArgs false
set_option linter.unusedVariables false
namespace Go.Proofs.YtjchjpmgbmeohaaDoor
open Go.RowKit

/-- A pair of an owned row is written. -/
theorem own_put2 {w : World} {g cap n j : Nat} {qs : List Pr} (ho : w.ownsRow 0 121 2 (.slice (some ⟨g, 0, none⟩) n cap) n (prs qs)) (hn : qs.length = n) (hj : j < qs.length) {x y : Int} :
    ((w.setCell ⟨g, j * 2, none⟩ (.int .i64 x)).setCell ⟨g, j * 2 + 1, none⟩ (.int .i64 y)).ownsRow 0 121 2 (.slice (some ⟨g, 0, none⟩) n cap) n (prs (qs.set j (x, y))) := by
  obtain ⟨ho1, _⟩ := ho.stored (j * 2) (.int .i64 x)
  rw [prs_set0 qs hj x] at ho1
  have hj2 : j < (qs.set j (x, qs[j].2)).length := by simpa using hj
  obtain ⟨ho2, _⟩ := ho1.stored (j * 2 + 1) (.int .i64 y)
  rw [prs_set1 _ hj2 y] at ho2
  have e : ((qs.set j (x, qs[j].2)).set j ((qs.set j (x, qs[j].2))[j].1, y)) = qs.set j (x, y) := by simp
  rwa [e] at ho2
set_option maxRecDepth 4000 in
set_option maxHeartbeats 6400000 in
theorem orange_dn (w : World) (S : Nat → Prop) (L : Bq 5) (ps : List Pr) (fm t2 : Int) (h : IsO w S L ps) (hn : ps.length ≤ 100000) (hR : Ris ps) :
    Calls Tryd.prog 78 #[.pointer (some ⟨L.b, 5, none⟩), .int .i64 fm, .int .i64 t2, .bool true] w fun e w' => ∃ v, e = .returned v ∧ OwnP w' (Gro (fun _ => False) w w') v (rangeL ps fm t2).reverse ∧ Fr (fun _ => False) w w' := by
  obtain ⟨i0, hi0, hz0, hz1, hz2⟩ := info_parts Tryd.infoPair
  have H := Lib.hid h
  have HF := Lib.hid (show ∀ W s, Fr (fun _ => False) w W → Calls Tryd.prog 100 #[.pointer (some ⟨L.b, 5, none⟩), .int .i64 s] W fun e w' => e = .returned (.int .i64 (low ps s)) ∧ Fr (fun _ => False) W w' from fun W s f => ofind_any W L S ps s (IsO.fr (S2 := fun _ => False) h f (fun _ _ h => h)) (by omega) hR)
  have hlo := low_le ps fm
  have hlt := low_le ps t2
  have hhi := hiP_le ps t2
  obtain ⟨v, hb, ho, -, -, -⟩ := h
  obtain ⟨a, cap, rfl, -, -⟩ := own_form ho
  have c0 := blk_cell hb 5 (L.get _)
  have Hb := Lib.hid hb
  have Ho := Lib.hid ho
  have hLlt := blk_lt hb
  clear hb ho
  go_enter Tryd.func78, Tryd.ntmps78
  go_wp2_with fail
  have Fw := Lib.hid ((Fr.refl (fun _ => False) w).drew)
  go_region_held3 (fun w' => w'.cell? ⟨L.b, 5, none⟩ = some (.slice a ps.length cap))
    (first | exact c0 | go_keep)
    (first
      | (go_at_call 100; go_must (with_reducible refine (HF.out _ fm (by repeat (first | (with_reducible exact Fr.refl _ _) | (with_reducible refine Fr.drew ?_) | (with_reducible refine Fr.drewN ?_ _) | (with_reducible refine Fr.alloc ?_ _) | (with_reducible refine Fr.set1 ?_ _) | (with_reducible refine Fr.setNew ?_ (by omega) _)))).mono ?_; rintro e w2 ⟨rfl, f2⟩; have F2 := Lib.hid (Fw.out.then_ (S2 := fun _ => False) f2 (fun _ h => h.elim)); have c0 := blk_cell (F2.out.blk Hb.out (fun h => h)) 5 (L.get _); clear f2)))
  clear c0
  have c0 := blk_cell (F2.out.blk Hb.out (fun h => h)) 5 (L.get _)
  go_upto_if 25 with fail
  go_cut [10] from 14 (fun s w' => s = .int .i64 (hiP ps t2) ∧ Fr (fun _ => False) w w')
  case first =>
    by_cases hz : t2 = 0
    · have hv := Lib.hid (show hiP ps t2 = ps.length from if_pos hz)
      have hq : (t2 != 0) = false := by simp [hz]
      clear hz
      obtain ⟨q, hq2⟩ : ∃ q, (t2 != 0) = q := ⟨_, rfl⟩
      rw [hq] at hq2
      subst hq2
      rw [hq]
      clear hq
      go_wp2_with fail
      go_meet
      exact ⟨by rw [hv.out], F2.out⟩
    · have hq : (t2 != 0) = true := by simpa using hz
      have hv := Lib.hid (show hiP ps t2 = if (ps.map (·.1))[low ps t2]? = some t2 then low ps t2 + 1 else low ps t2 from if_neg hz)
      rw [hq]
      clear hz hq
      obtain ⟨k, hk⟩ : ∃ k, low ps t2 = k := ⟨_, rfl⟩
      have HFt := Lib.hid (show ∀ W, Fr (fun _ => False) w W → Calls Tryd.prog 100 #[.pointer (some ⟨L.b, 5, none⟩), .int .i64 t2] W fun e w' => e = .returned (.int .i64 k) ∧ Fr (fun _ => False) W w' from fun W f => hk ▸ HF.out W t2 f)
      rw [hk] at hv hlt
      clear hk
      by_cases hkl : k < ps.length
      · have hklI : (k : Int) < ps.length := by omega
        obtain ⟨x, hx⟩ : ∃ x, ps[k].1 = x := ⟨_, rfl⟩
        have hget : (ps.map (·.1))[k]? = some x := by rw [List.getElem?_map, List.getElem?_eq_getElem hkl]; simp [hx]
        rw [hget] at hv
        obtain ⟨g, cap', e1⟩ := own_some Ho.out (by omega)
        simp only [Value.slice.injEq] at e1
        obtain ⟨rfl, -, rfl⟩ := e1
        have w1 : IntKind.i64.wrap ((k : Int) + 1) = k + 1 := IntWalk.i64_in _ (by omega)
        cases hxt : (x == t2)
        · have hv2 := Lib.hid (show hiP ps t2 = k from by rw [hv.out, if_neg (by simpa using hxt)])
          go_wp2_with (go_at_call 100; go_must (with_reducible refine (HFt.out _ F2.out).mono ?_; rintro e w3 ⟨rfl, f3⟩; have F3 := Lib.hid (F2.out.then_ (S2 := fun _ => False) f3 (fun _ h => h.elim)); have c3 := blk_cell (F3.out.blk Hb.out (fun h => h)) 5 (L.get _); have p0 := (own_pair (own_fr Ho.out F3.out (fun _ _ h => h)) rfl hkl).1; rw [hx] at p0; clear f3))
          go_meet
          exact ⟨by rw [hv2.out], F3.out⟩
        · have hv2 := Lib.hid (show hiP ps t2 = k + 1 from by rw [hv.out, if_pos (by simpa using hxt)])
          go_wp2_with (go_at_call 100; go_must (with_reducible refine (HFt.out _ F2.out).mono ?_; rintro e w3 ⟨rfl, f3⟩; have F3 := Lib.hid (F2.out.then_ (S2 := fun _ => False) f3 (fun _ h => h.elim)); have c3 := blk_cell (F3.out.blk Hb.out (fun h => h)) 5 (L.get _); have p0 := (own_pair (own_fr Ho.out F3.out (fun _ _ h => h)) rfl hkl).1; rw [hx] at p0; clear f3))
          go_meet
          exact ⟨by rw [hv2.out]; go_num, F3.out⟩
      · have hklI : ¬ (k : Int) < ps.length := by omega
        have hv2 := Lib.hid (show hiP ps t2 = k from by rw [hv.out, if_neg (by rw [List.getElem?_eq_none (by simpa using hkl)]; simp)])
        go_wp2_with (go_at_call 100; go_must (with_reducible refine (HFt.out _ F2.out).mono ?_; rintro e w3 ⟨rfl, f3⟩; have F3 := Lib.hid (F2.out.then_ (S2 := fun _ => False) f3 (fun _ h => h.elim)); have c3 := blk_cell (F3.out.blk Hb.out (fun h => h)) 5 (L.get _); clear f3))
        go_meet
        exact ⟨by rw [hv2.out], F3.out⟩
  case rest =>
  obtain ⟨rfl, fc⟩ := hcut
  have FC := Lib.hid fc
  clear c0 fc F2 HF Fw
  have HRg := Lib.hid (show rangeL ps fm t2 = (ps.drop (low ps fm)).take (hiP ps t2 - low ps fm) from rfl)
  obtain ⟨i, hi⟩ : ∃ i, low ps fm = i := ⟨_, rfl⟩
  obtain ⟨k, hk⟩ : ∃ k, hiP ps t2 = k := ⟨_, rfl⟩
  rw [hi] at hlo HRg ⊢
  rw [hk] at hhi HRg ⊢
  clear hi hk hlt
  go_wp2_with fail
  go_loopw [9, 11] (fun s v wr => ∃ j : Nat, i ≤ j ∧ (j ≤ k ∨ j = i) ∧ s = .int .i64 j ∧ OwnP wr (Gro (fun _ => False) w wr) v ((ps.drop i).take (j - i)) ∧ Fr (fun _ => False) w wr) (fun s _ _ => ((k : Int) - intOf s).toNat)
  case atStart => exact ⟨i, by omega, .inr rfl, rfl, ⟨by rw [Nat.sub_self]; exact World.ownsRow_nil _ _ _ _, fun k hk => by simp [Value.ownBlock] at hk⟩, FC.out⟩
  case round =>
    obtain ⟨j, hj, hjk, rfl, ov, hf⟩ := hrel
    have HV := Lib.hid ov
    have HFr := Lib.hid hf
    by_cases hlt2 : j < k
    · have hltI : (j : Int) < k := by omega
      have hjn : j < ps.length := by omega
      have hjnI : (j : Int) < ps.length := by omega
      obtain ⟨g, cap', e1⟩ := own_some Ho.out (by omega)
      simp only [Value.slice.injEq] at e1
      obtain ⟨rfl, -, rfl⟩ := e1
      have c0 := blk_cell (hf.blk Hb.out (fun h => h)) 5 (L.get _)
      obtain ⟨p0, p1⟩ := own_pair (own_fr Ho.out hf (fun _ _ h => h)) rfl hjn
      obtain ⟨x, hx⟩ : ∃ x, ps[j].1 = x := ⟨_, rfl⟩
      obtain ⟨y, hy⟩ : ∃ y, ps[j].2 = y := ⟨_, rfl⟩
      rw [hx] at p0
      rw [hy] at p1
      have w1 : IntKind.i64.wrap ((j : Int) + 1) = j + 1 := IntWalk.i64_in _ (by omega)
      have htk : (ps.drop i).take (j + 1 - i) = (ps.drop i).take (j - i) ++ [(x, y)] := by
        have h1 : j - i < (ps.drop i).length := by rw [List.length_drop]; omega
        rw [show j + 1 - i = (j - i) + 1 by omega, List.take_succ_eq_append_getElem h1]
        have e : (ps.drop i)[j - i] = (x, y) := by
          rw [List.getElem_drop]
          have : i + (j - i) = j := by omega
          simp only [this, ← hx, ← hy]
        rw [e]
      have hl1 : ((ps.drop i).take (j - i)).length = j - i := by rw [List.length_take, List.length_drop]; omega
      have HT := Lib.hid htk
      have HL1 := Lib.hid hl1
      have Hov := Lib.hid (show wr.ownsRow 0 121 2 u11 (j - i) _ from hl1 ▸ ov.1)
      have hjb : j - i ≤ 100000 := by omega
      clear ov hf hx hy htk hl1 hlt2 hjk
      go_wp2_with (at_builtin; go_must (refine wpList_append_fresh _ wr rfl (.tmp 55) (.tmp 63) 93 rfl 121 i0 (.agg #[.int .i64 0, .int .i64 0]) 2 16 Tryd.underlying93 hi0 hz0 hz1 hz2 rfl (by decide) _ (j - i) _ rfl Hov.out #[.int .i64 x, .int .i64 y] rfl rfl rfl (by intro u hu; simp at hu; rcases hu with rfl | rfl <;> rfl) (by omega) (by omega) ?_); intro g2 cap2 w3 hown3 hf3 hat3; have HW3 := Lib.hid hown3; have HF3 := Lib.hid hf3; have HT3 := Lib.hid hat3; clear hown3 hf3 hat3)
      have Hge := Lib.hid (show ∀ m, u11.ownBlock = some m → w.heap.size ≤ m from fun m hm => by
        rcases HV.out.2 m hm with h | h
        · exact h.elim
        · exact h.1)
      have Hsw := Lib.hid (show w.heap.size ≤ wr.heap.size from HFr.out.size)
      go_roundw
      case rel =>
        have hlen : ((ps.drop i).take (j + 1 - i)).length = j - i + 1 := by rw [HT.out, List.length_append, HL1.out]; rfl
        refine ⟨j + 1, by omega, .inl (by omega), by go_num, ⟨?_, fun m hm => ?_⟩, ?_⟩
        · rw [hlen, HT.out, prs_app]
          exact HW3.out
        · refine .inr ⟨?_, own_lt HW3.out hm⟩
          rcases HT3.out m hm with h | h
          · exact Hge.out m h
          · have h2 := Hsw.out
            have h3 : (wr.alloc (.cells #[.int .i64 x, .int .i64 y] 121)).heap.size = wr.heap.size + 1 := Array.size_push ..
            omega
        · exact (HFr.out.alloc (.cells #[.int .i64 x, .int .i64 y] 121)).then_ HF3.out (fun m hm => .inr (Hge.out m hm))
      case measure => simp [intOf]; omega
    · have hltI : ¬ (j : Int) < k := by omega
      have hjk2 : j - i = k - i := by omega
      rw [hjk2, ← HRg.out] at HV
      obtain ⟨rs, hrs⟩ : ∃ rs, rangeL ps fm t2 = rs := ⟨_, rfl⟩
      have HRs := Lib.hid hrs
      rw [hrs] at HV
      have hrl : rs.length ≤ 100000 := by
        rw [← hrs, HRg.out, List.length_take, List.length_drop]
        omega
      obtain ⟨n, hnn⟩ : ∃ n, rs.length = n := ⟨_, rfl⟩
      have HN := Lib.hid hnn
      obtain ⟨a1, c1, hv1, -, -⟩ := own_form HV.out.1
      rw [hnn] at hv1 hrl
      subst hv1
      have HO1 := Lib.hid (show wr.ownsRow 0 121 2 (.slice a1 n c1) n (prs rs) from hnn ▸ HV.out.1)
      have wn : IntKind.i64.wrap ((n : Int) - 1) = n - 1 := IntWalk.i64_in _ (by omega)
      clear ov hf hrs hnn hltI hjk hjk2
      go_wp2_with fail
      go_loopw [12, 13] (fun s1 s2 wz => ∃ x : Nat, 2 * x ≤ n + 1 ∧ s1 = .int .i64 x ∧ s2 = .int .i64 ((n : Int) - 1 - x) ∧ ∃ qs : List Pr, qs.length = n ∧ wz.ownsRow 0 121 2 (.slice a1 n c1) n (prs qs) ∧ (∀ m, m < n → qs[m]? = if m < x ∨ n ≤ m + x then rs[n - 1 - m]? else rs[m]?) ∧ Fr (fun m => (Value.slice a1 n c1).ownBlock = some m) wr wz) (fun s1 s2 _ => (intOf s2 - intOf s1 + 1).toNat)
      case atStart => exact ⟨0, by omega, rfl, by simp, rs, HN.out, HO1.out, fun m hm => by rw [if_neg (by omega)], Fr.refl _ _⟩
      case round =>
        obtain ⟨x, hx2, rfl, rfl, qs, hql, hqo, hqs, hfz⟩ := hrel
        have HQ := Lib.hid hqs
        have HFz := Lib.hid hfz
        have HQL := Lib.hid hql
        by_cases hlt3 : (x : Int) < (n : Int) - 1 - x
        · obtain ⟨y, hy⟩ : ∃ y : Nat, n = x + y + 1 := ⟨n - 1 - x, by omega⟩
          have hyI : (n : Int) - 1 - x = y := by omega
          have hxq : x < qs.length := by omega
          have hyq : y < qs.length := by omega
          obtain ⟨g, cp, e1⟩ := own_some hqo (by omega)
          simp only [Value.slice.injEq] at e1
          obtain ⟨rfl, -, rfl⟩ := e1
          obtain ⟨p0, p1⟩ := own_pair hqo hql hxq
          obtain ⟨q0, q1⟩ := own_pair hqo hql hyq
          have z0 := hqo.frozenAt (x * 2)
          have z1 := hqo.frozenAt (x * 2 + 1)
          have z2 := hqo.frozenAt (y * 2)
          have z3 := hqo.frozenAt (y * 2 + 1)
          obtain ⟨xs, hxs⟩ : ∃ v, qs[x].1 = v := ⟨_, rfl⟩
          obtain ⟨xa, hxa⟩ : ∃ v, qs[x].2 = v := ⟨_, rfl⟩
          obtain ⟨ys, hys⟩ : ∃ v, qs[y].1 = v := ⟨_, rfl⟩
          obtain ⟨ya, hya⟩ : ∃ v, qs[y].2 = v := ⟨_, rfl⟩
          rw [hxs] at p0
          rw [hxa] at p1
          rw [hys] at q0
          rw [hya] at q1
          have hxy : x < y := by omega
          have hxn : (x : Int) < n := by omega
          have hyn : (y : Int) < n := by omega
          have w1 : IntKind.i64.wrap ((x : Int) + 1) = x + 1 := IntWalk.i64_in _ (by omega)
          have w2 : IntKind.i64.wrap ((y : Int) - 1) = y - 1 := IntWalk.i64_in _ (by omega)
          have h3 : (x : Int) < y := by omega
          have HA := Lib.hid (own_put2 (own_put2 hqo hql hxq (x := ys) (y := ya)) (by rw [List.length_set]; exact hql) (by rw [List.length_set]; exact hyq) (x := xs) (y := xa))
          have HB := Lib.hid (own_put2 (own_put2 hqo hql hyq (x := xs) (y := xa)) (by rw [List.length_set]; exact hql) (by rw [List.length_set]; exact hxq) (x := ys) (y := ya))
          have HC := Lib.hid (show (qs.set y (xs, xa)).set x (ys, ya) = (qs.set x (ys, ya)).set y (xs, xa) from List.set_comm _ _ (by omega))
          have Hnew := Lib.hid (show ∀ m, m < n → ((qs.set x (ys, ya)).set y (xs, xa))[m]? = if m < x + 1 ∨ n ≤ m + (x + 1) then rs[n - 1 - m]? else rs[m]? from fun m hm => by
            by_cases hm1 : m = y
            · subst hm1
              have hq := HQ.out x (by omega)
              rw [if_neg (by omega), List.getElem?_eq_getElem hxq, show qs[x] = (xs, xa) from by rw [← hxs, ← hxa]] at hq
              rw [List.getElem?_set_self (by rw [List.length_set]; omega), if_pos (by omega), show n - 1 - m = x by omega, ← hq]
            · rw [List.getElem?_set_ne (by omega)]
              by_cases hm2 : m = x
              · subst hm2
                have hq := HQ.out y (by omega)
                rw [if_neg (by omega), List.getElem?_eq_getElem hyq, show qs[y] = (ys, ya) from by rw [← hys, ← hya]] at hq
                rw [List.getElem?_set_self hxq, if_pos (by omega), show n - 1 - m = y by omega, ← hq]
              · rw [List.getElem?_set_ne (by omega), HQ.out m hm]
                by_cases hc : m < x ∨ n ≤ m + x
                · rw [if_pos hc, if_pos (by omega)]
                · rw [if_neg hc, if_neg (by omega)])
          have HY := Lib.hid hy
          rw [hyI]
          clear hqs hqo hfz hql hxs hxa hys hya hyI hlt3 hy
          go_wp2_with fail
          go_region
          all_goals
            go_wp2_with fail
            go_roundw
            case rel =>
              refine ⟨x + 1, by have := HY.out; omega, by go_num, by rw [show ((y : Int) - 1) = (n : Int) - 1 - ((x + 1 : Nat) : Int) by have := HY.out; omega], (qs.set x (ys, ya)).set y (xs, xa), by rw [List.length_set, List.length_set]; exact HQL.out, by first | exact HA.out.drew | exact HC.out ▸ HB.out.drew, Hnew.out, ?_⟩
              first | exact (((((HFz.out.setCell (p := ⟨g, x * 2, none⟩) (.inl rfl) _).setCell (p := ⟨g, x * 2 + 1, none⟩) (.inl rfl) _).setCell (p := ⟨g, y * 2, none⟩) (.inl rfl) _).setCell (p := ⟨g, y * 2 + 1, none⟩) (.inl rfl) _).drew) | exact (((((HFz.out.setCell (p := ⟨g, y * 2, none⟩) (.inl rfl) _).setCell (p := ⟨g, y * 2 + 1, none⟩) (.inl rfl) _).setCell (p := ⟨g, x * 2, none⟩) (.inl rfl) _).setCell (p := ⟨g, x * 2 + 1, none⟩) (.inl rfl) _).drew)
            case measure => have := HY.out; simp [intOf]; omega
        · have hltE : ¬ (x : Int) < (n : Int) - 1 - x := hlt3
          have HRv := Lib.hid (show qs = rs.reverse from by
            apply List.ext_getElem?
            intro m
            have hn2 := HN.out
            by_cases hm : m < n
            · rw [HQ.out m hm, List.getElem?_reverse (by omega), hn2]
              by_cases hc : m < x ∨ n ≤ m + x
              · rw [if_pos hc]
              · rw [if_neg hc, show n - 1 - m = m by omega]
            · rw [List.getElem?_eq_none (by omega), List.getElem?_eq_none (by rw [List.length_reverse]; omega)])
          have HQo := Lib.hid hqo
          clear hqs hqo hfz hql hlt3
          go_wp2_with fail
          go_ret
          refine ⟨_, rfl, ⟨?_, fun m hm => ?_⟩, HFr.out.then_ HFz.out (fun m hm => .inr ?_)⟩
          · have h := HQo.out
            rw [HRv.out] at h
            rw [HRs.out, List.length_reverse, HN.out]
            exact h
          · rcases HV.out.2 m hm with h | h
            · exact h.elim
            · exact .inr ⟨h.1, Nat.lt_of_lt_of_le h.2 HFz.out.size⟩
          · rcases HV.out.2 m hm with h | h
            · exact h.elim
            · exact h.1
end Go.Proofs.YtjchjpmgbmeohaaDoor

/- Books: Between. -/
set_option linter.unusedSimpArgs false
set_option linter.unusedVariables false
namespace Go.Proofs.YtjchjpmgbmeohaaDoor
open Go.RowKit

theorem rngS (w : World) (lab : Nat → Nat) (d : Dd) (r : Raw) (es : List Ent) (big : Nat) (a b : Int) (lt : Bool) (h : Sta w lab d r es big) (g : Good r) (hb : big ≤ 90000) : ∃ qs : List Pr, qs.map (fun p => (atZ r.kept p.2).getD Kp.zero) = (if lt then (Kbt r a b).reverse else Kbt r a b) ∧ qs.length ≤ 96 ∧
    Calls Tryd.prog 78 #[.pointer (some ⟨d.B, 5, none⟩), .int .i64 a, .int .i64 b, .bool lt] w fun e w' => ∃ v, e = .returned v ∧ OwnP w' (Gro (fun _ => False) w w') v qs ∧ Fr (fun _ => False) w w' := by
  obtain ⟨lv, sv, qv, ps, hp, s⟩ := h.bb
  have hpb := s.psb
  have hlen : (rangeL ps a b).length ≤ 96 := by
    have h1 := congrArg List.length (range_kept g s.orel a b)
    rw [List.length_map] at h1
    have h2 : (Kbt r a b).length ≤ r.kept.length := List.length_filter_le ..
    have := g.nk
    omega
  cases lt with
  | false => exact ⟨rangeL ps a b, range_kept g s.orel a b, hlen, orange_up w _ (d.L5 lv qv r.clock r.stamp) ps a b (h.stsAt s) (by omega) s.orel.up⟩
  | true => exact ⟨(rangeL ps a b).reverse, by rw [List.map_reverse, range_kept g s.orel a b]; rfl, by simpa using hlen, orange_dn w _ (d.L5 lv qv r.clock r.stamp) ps a b (h.stsAt s) (by omega) s.orel.up⟩
def BtwP (w : World) (out : List Kp) (e : Ending) (w' : World) : Prop := ∃ v, e = .returned v ∧ w'.ownsRow 0 63 33 v out.length (out.flatMap Kp.cells) ∧ (∀ k, v.ownBlock = some k → w.heap.size ≤ k) ∧ Fr (fun _ => False) w w'
attribute [-go_sem] loadCells
set_option maxRecDepth 4000 in
set_option maxHeartbeats 6400000 in
theorem betweenS (w : World) (lab : Nat → Nat) (d : Dd) (r : Raw) (es : List Ent) (big : Nat) (a b : Int) (lt : Bool) (h : Sta w lab d r es big) (g : Good r) (hb : big ≤ 90000) :
    Calls Tryd.prog 25 #[.pointer (some ⟨d.B, 0, none⟩), .int .i64 a, .int .i64 b, .bool lt] w (BtwP w (if lt then (Kbt r a b).reverse else Kbt r a b)) := by
  obtain ⟨qs, hqs, hql, hrg⟩ := rngS w lab d r es big a b lt h g hb
  obtain ⟨out, hout⟩ : ∃ o, (if lt then (Kbt r a b).reverse else Kbt r a b) = o := ⟨_, rfl⟩
  rw [hout] at hqs
  rw [hout]
  have HQs := Lib.hid hqs
  have HRg := Lib.hid hrg
  have HS := Lib.hid h
  have HAt := Lib.hid (fun W (f : Fr (fun _ => False) w W) (i : Int) => kepAt W _ d.K d.B r.kept i (h.fr f (fun _ h => h.elim)).kep (by have := g.nk; omega))
  obtain ⟨i0, hi0, hz0, hz1, hz2⟩ := info_parts Tryd.infoKep
  obtain ⟨n, hn⟩ : ∃ n, qs.length = n := ⟨_, rfl⟩
  have HN := Lib.hid hn
  rw [hn] at hql
  clear h g hqs hrg hn hout
  go_enter Tryd.func25, Tryd.ntmps25
  go_wp2_with fail
  refine HRg.out.mono ?_
  rintro e w2 ⟨v, rfl, ⟨ho, hv⟩, f2⟩
  obtain ⟨av, cap, rfl, -, -⟩ := own_form ho
  have HO := Lib.hid ho
  have F2 := Lib.hid f2
  rw [HN.out]
  clear ho hv f2
  go_wp2_with fail
  go_loopw [24, 9] (fun iv v9 wr => ∃ j : Nat, j ≤ n ∧ iv = .int .i64 j ∧ wr.ownsRow 0 63 33 v9 j (((qs.take j).map (fun p => (atZ r.kept p.2).getD Kp.zero)).flatMap Kp.cells) ∧ (∀ k, v9.ownBlock = some k → w2.heap.size ≤ k) ∧ Fr (fun _ => False) w2 wr) (fun iv _ _ => ((n : Int) - intOf iv).toNat)
  case atStart => exact ⟨0, by omega, rfl, World.ownsRow_nil _ _ _ _, fun k hk => (by cases hk), Fr.refl _ _⟩
  case round =>
    obtain ⟨j, hj, rfl, hov, hvl, hf⟩ := hrel
    have HF := Lib.hid hf
    by_cases hjm : j < n
    · have hjI : (j : Int) < n := by omega
      have hjJ : (0 : Int) ≤ j := by omega
      have hjl : j < qs.length := by rw [HN.out]; exact hjm
      obtain ⟨gq, cc, e0⟩ := own_some HO.out (by omega)
      simp only [Value.slice.injEq] at e0
      obtain ⟨rfl, -, rfl⟩ := e0
      obtain ⟨p0, p1⟩ := own_pair (own_fr HO.out hf (fun _ _ h => h)) rfl hjl
      obtain ⟨x, hx⟩ : ∃ x, qs[j].1 = x := ⟨_, rfl⟩
      obtain ⟨y, hy⟩ : ∃ y, qs[j].2 = y := ⟨_, rfl⟩
      rw [hx] at p0
      rw [hy] at p1
      have lp := ld_nm (P := Tryd.prog) (W := wr) p0 p1
      have w1 : IntKind.i64.wrap ((j : Int) + 1) = j + 1 := IntWalk.i64_in _ (by omega)
      obtain ⟨av9, cap9, rfl, -, -⟩ := own_form hov
      have HOv := Lib.hid hov
      have HVl := Lib.hid hvl
      obtain ⟨kp, hkp⟩ : ∃ k, (atZ r.kept y).getD Kp.zero = k := ⟨_, rfl⟩
      have HTk := Lib.hid (show ((qs.take (j + 1)).map (fun p => (atZ r.kept p.2).getD Kp.zero)).flatMap Kp.cells = ((qs.take j).map (fun p => (atZ r.kept p.2).getD Kp.zero)).flatMap Kp.cells ++ kp.cells from by
        rw [List.take_add_one, List.getElem?_eq_getElem hjl, Option.toList_some, List.map_append, List.flatMap_append, List.map_cons, List.map_nil, List.flatMap_cons, List.flatMap_nil, List.append_nil, hy, hkp])
      have HW := Lib.hid (show w2.heap.size ≤ wr.heap.size from hf.size)
      obtain ⟨C, hC⟩ : ∃ C, kp.cells.toArray = C := ⟨_, rfl⟩
      have hCs : C.size = 33 := by rw [← hC]; rfl
      have HCl := Lib.hid (show kp.cells = C.toList from by rw [← hC])
      have HCo := Lib.hid (show C.all (·.oneCell') = true from by rw [← hC]; simp [Kp.cells, Tx.cells, Value.oneCell'])
      have HCo2 := Lib.hid (show ∀ u ∈ C.toList, u.oneCell' = true from by rw [← hC]; simp [Kp.cells, Tx.cells, Value.oneCell'])
      have HFo := Lib.hid (fold_set #[.int .u64 0, .int .u64 0, .int .u64 0, .int .u64 0, .int .u64 0, .int .u64 0, .int .u64 0, .int .u64 0, .int .u64 0, .int .u64 0, .int .i64 0, .int .i64 0, .int .i64 0, .int .i64 0, .int .i64 0, .int .i64 0, .int .u64 0, .int .u64 0, .int .u64 0, .int .u64 0, .int .u64 0, .int .u64 0, .int .u64 0, .int .u64 0, .int .u64 0, .int .u64 0, .int .i64 0, .int .i64 0, .int .i64 0, .int .i64 0, .int .i64 0, .int .i64 0, .int .i64 0] C 33 rfl hCs)
      have Fp := Lib.hid ((hf.alloc (.cells #[.int .i64 x, .int .i64 y] 121)).drew)
      have hat := HAt.out _ (F2.out.then_ Fp.out (fun _ h => h.elim)) y
      rw [hkp, hC] at hat
      have HAy := Lib.hid hat
      have HSr := Lib.hid (HS.out.fr (F2.out.then_ Fp.out (fun _ h => h.elim)) (fun _ h => h.elim))
      have hk2 := HSr.out.cells.2.1
      have BP := Lib.hid (heap_alloc_new wr (.cells #[.int .i64 x, .int .i64 y] 121))
      have y1 := blk_cell BP.out 1 rfl
      have HOv2 := Lib.hid (own_fr HOv.out (((Fr.refl (fun _ => False) wr).alloc (.cells #[.int .i64 x, .int .i64 y] 121)).drew) (fun _ _ h => h))
      have HLj := Lib.hid (show ((qs.take j).map (fun p => (atZ r.kept p.2).getD Kp.zero)).length = j from by rw [List.length_map, List.length_take]; omega)
      have Fz := Lib.hid (((hf.alloc (.cells #[.int .i64 x, .int .i64 y] 121)).alloc (.cells #[.int .u64 0, .int .u64 0, .int .u64 0, .int .u64 0, .int .u64 0, .int .u64 0, .int .u64 0, .int .u64 0, .int .u64 0, .int .u64 0, .int .i64 0, .int .i64 0, .int .i64 0, .int .i64 0, .int .i64 0, .int .i64 0, .int .u64 0, .int .u64 0, .int .u64 0, .int .u64 0, .int .u64 0, .int .u64 0, .int .u64 0, .int .u64 0, .int .u64 0, .int .u64 0, .int .i64 0, .int .i64 0, .int .i64 0, .int .i64 0, .int .i64 0, .int .i64 0, .int .i64 0] 63)).drew)
      have haz := HAt.out _ (F2.out.then_ Fz.out (fun _ h => h.elim)) y
      rw [hkp, hC] at haz
      have HAz := Lib.hid haz
      have HSz := Lib.hid (HS.out.fr (F2.out.then_ Fz.out (fun _ h => h.elim)) (fun _ h => h.elim))
      have BPz := Lib.hid (blk_drew (blk_alloc BP.out (.cells #[.int .u64 0, .int .u64 0, .int .u64 0, .int .u64 0, .int .u64 0, .int .u64 0, .int .u64 0, .int .u64 0, .int .u64 0, .int .u64 0, .int .i64 0, .int .i64 0, .int .i64 0, .int .i64 0, .int .i64 0, .int .i64 0, .int .u64 0, .int .u64 0, .int .u64 0, .int .u64 0, .int .u64 0, .int .u64 0, .int .u64 0, .int .u64 0, .int .u64 0, .int .u64 0, .int .i64 0, .int .i64 0, .int .i64 0, .int .i64 0, .int .i64 0, .int .i64 0, .int .i64 0] 63)))
      have BZz := Lib.hid (blk_drew (blk1 wr (.cells #[.int .i64 x, .int .i64 y] 121) (.cells #[.int .u64 0, .int .u64 0, .int .u64 0, .int .u64 0, .int .u64 0, .int .u64 0, .int .u64 0, .int .u64 0, .int .u64 0, .int .u64 0, .int .i64 0, .int .i64 0, .int .i64 0, .int .i64 0, .int .i64 0, .int .i64 0, .int .u64 0, .int .u64 0, .int .u64 0, .int .u64 0, .int .u64 0, .int .u64 0, .int .u64 0, .int .u64 0, .int .u64 0, .int .u64 0, .int .i64 0, .int .i64 0, .int .i64 0, .int .i64 0, .int .i64 0, .int .i64 0, .int .i64 0] 63)))
      have LZ := Lib.hid (show lab (wr.heap.size + 1) = 0 from HS.out.free (by have := F2.out.size; have := hf.size; omega))
      have hdB : d.B < wr.heap.size := (HS.out.fr (F2.out.then_ hf (fun _ h => h.elim)) (fun _ h => h.elim)).lt d.B (by rw [HS.out.labB]; decide)
      clear hf hov hvl hx hy hkp hC hat hjl haz
      go_upto_region 7 with fail
      go_region_held3 (fun w' => w'.cell? ⟨d.B, 2, none⟩ = some (Value.pointer (some ⟨d.K, 0, none⟩)) ∧ w'.cell? ⟨wr.heap.size, 1, none⟩ = some (Value.int .i64 y))
        (first | exact ⟨hk2, y1⟩ | exact ⟨q2, q1⟩ | exact ⟨s2, s1⟩ | exact ⟨t2, t1⟩ | exact ⟨HSz.out.cells.2.1, blk_cell BPz.out 1 rfl⟩)
        (first
          | (go_at_call 79; (with_reducible refine HAy.out.mono ?_); rintro e w8 ⟨rfl, f8⟩; have hs8 := HSr.out.fr f8 (fun _ h => h.elim); have bp8 := f8.blk (blk_drew BP.out) (fun h => h); have q2 := hs8.cells.2.1; have q1 := blk_cell bp8 1 rfl; have hd8 := hs8.lt d.B (by rw [hs8.labB]; decide); have t2 := (hs8.alloc (.cells #[.int .u64 0, .int .u64 0, .int .u64 0, .int .u64 0, .int .u64 0, .int .u64 0, .int .u64 0, .int .u64 0, .int .u64 0, .int .u64 0, .int .i64 0, .int .i64 0, .int .i64 0, .int .i64 0, .int .i64 0, .int .i64 0, .int .u64 0, .int .u64 0, .int .u64 0, .int .u64 0, .int .u64 0, .int .u64 0, .int .u64 0, .int .u64 0, .int .u64 0, .int .u64 0, .int .i64 0, .int .i64 0, .int .i64 0, .int .i64 0, .int .i64 0, .int .i64 0, .int .i64 0] 63)).cells.2.1; have t1 := blk_cell (blk_alloc bp8 (.cells #[.int .u64 0, .int .u64 0, .int .u64 0, .int .u64 0, .int .u64 0, .int .u64 0, .int .u64 0, .int .u64 0, .int .u64 0, .int .u64 0, .int .i64 0, .int .i64 0, .int .i64 0, .int .i64 0, .int .i64 0, .int .i64 0, .int .u64 0, .int .u64 0, .int .u64 0, .int .u64 0, .int .u64 0, .int .u64 0, .int .u64 0, .int .u64 0, .int .u64 0, .int .u64 0, .int .i64 0, .int .i64 0, .int .i64 0, .int .i64 0, .int .i64 0, .int .i64 0, .int .i64 0] 63)) 1 rfl; obtain ⟨W9, hse, hb9, f9⟩ := st_over (P := Tryd.prog) (w8.alloc (.cells #[.int .u64 0, .int .u64 0, .int .u64 0, .int .u64 0, .int .u64 0, .int .u64 0, .int .u64 0, .int .u64 0, .int .u64 0, .int .u64 0, .int .i64 0, .int .i64 0, .int .i64 0, .int .i64 0, .int .i64 0, .int .i64 0, .int .u64 0, .int .u64 0, .int .u64 0, .int .u64 0, .int .u64 0, .int .u64 0, .int .u64 0, .int .u64 0, .int .u64 0, .int .u64 0, .int .i64 0, .int .i64 0, .int .i64 0, .int .i64 0, .int .i64 0, .int .i64 0, .int .i64 0] 63)) (C := C) (heap_alloc_new w8 (.cells #[.int .u64 0, .int .u64 0, .int .u64 0, .int .u64 0, .int .u64 0, .int .u64 0, .int .u64 0, .int .u64 0, .int .u64 0, .int .u64 0, .int .i64 0, .int .i64 0, .int .i64 0, .int .i64 0, .int .i64 0, .int .i64 0, .int .u64 0, .int .u64 0, .int .u64 0, .int .u64 0, .int .u64 0, .int .u64 0, .int .u64 0, .int .u64 0, .int .u64 0, .int .u64 0, .int .i64 0, .int .i64 0, .int .i64 0, .int .i64 0, .int .i64 0, .int .i64 0, .int .i64 0] 63)) (by rw [hCs]; rfl) HCo.out; have f9' := ((Fr.refl (fun _ => False) w8).alloc (.cells #[.int .u64 0, .int .u64 0, .int .u64 0, .int .u64 0, .int .u64 0, .int .u64 0, .int .u64 0, .int .u64 0, .int .u64 0, .int .u64 0, .int .i64 0, .int .i64 0, .int .i64 0, .int .i64 0, .int .i64 0, .int .i64 0, .int .u64 0, .int .u64 0, .int .u64 0, .int .u64 0, .int .u64 0, .int .u64 0, .int .u64 0, .int .u64 0, .int .u64 0, .int .u64 0, .int .i64 0, .int .i64 0, .int .i64 0, .int .i64 0, .int .i64 0, .int .i64 0, .int .i64 0] 63)).then_ f9 (fun k hk => .inr (by omega)); have s2 := (hs8.fr f9' (fun _ h => h.elim)).cells.2.1; have s1 := blk_cell (f9'.blk bp8 (fun h => h)) 1 rfl; have F89 := Lib.hid (show Fr (fun _ => False) wr W9 from (((Fr.refl (fun _ => False) wr).alloc (.cells #[.int .i64 x, .int .i64 y] 121)).drew.then_ f8 (fun _ h => h.elim)).then_ f9' (fun _ h => h.elim)); have HB9 := Lib.hid hb9; clear f8 f9 f9' hb9 bp8 hs8)
          | (go_at_call 79; (with_reducible refine HAz.out.mono ?_); rintro e w8 ⟨rfl, f8⟩; have hs8 := HSz.out.fr f8 (fun _ h => h.elim); have bp8 := f8.blk BPz.out (fun h => h); have bz8 := f8.blk BZz.out (fun h => h); have q2 := hs8.cells.2.1; have q1 := blk_cell bp8 1 rfl; obtain ⟨W9, hse, hb9, f9⟩ := st_over (P := Tryd.prog) w8 (C := C) bz8 (by rw [hCs]; rfl) HCo.out; have s2 := (hs8.fr f9 (fun k hk => by rw [hk]; exact LZ.out)).cells.2.1; have s1 := blk_cell (f9.blk bp8 (fun e => by omega)) 1 rfl; have F89 := Lib.hid (show Fr (fun _ => False) wr W9 from ((((Fr.refl (fun _ => False) wr).alloc (.cells #[.int .i64 x, .int .i64 y] 121)).alloc (.cells #[.int .u64 0, .int .u64 0, .int .u64 0, .int .u64 0, .int .u64 0, .int .u64 0, .int .u64 0, .int .u64 0, .int .u64 0, .int .u64 0, .int .i64 0, .int .i64 0, .int .i64 0, .int .i64 0, .int .i64 0, .int .i64 0, .int .u64 0, .int .u64 0, .int .u64 0, .int .u64 0, .int .u64 0, .int .u64 0, .int .u64 0, .int .u64 0, .int .u64 0, .int .u64 0, .int .i64 0, .int .i64 0, .int .i64 0, .int .i64 0, .int .i64 0, .int .i64 0, .int .i64 0] 63)).drew.then_ f8 (fun _ h => h.elim)).then_ f9 (fun k hk => .inr (by omega))); have HB9 := Lib.hid hb9; clear f8 f9 hb9 bp8 bz8 hs8))
      all_goals
        have lk := ld_row (P := Tryd.prog) (W := W9) _ C (n := 33) hCs HB9.out
        have hfo : Array.foldl (fun cs (x : Value × Nat) => cs.setIfInBounds x.snd x.fst) #[.int .u64 0, .int .u64 0, .int .u64 0, .int .u64 0, .int .u64 0, .int .u64 0, .int .u64 0, .int .u64 0, .int .u64 0, .int .u64 0, .int .i64 0, .int .i64 0, .int .i64 0, .int .i64 0, .int .i64 0, .int .i64 0, .int .u64 0, .int .u64 0, .int .u64 0, .int .u64 0, .int .u64 0, .int .u64 0, .int .u64 0, .int .u64 0, .int .u64 0, .int .u64 0, .int .i64 0, .int .i64 0, .int .i64 0, .int .i64 0, .int .i64 0, .int .i64 0, .int .i64 0] C.zipIdx 0 33 = C := HFo.out
        have Ho9 := Lib.hid (own_fr HOv.out F89.out (fun _ _ h => h))
        clear hse q1 q2 s1 s2 hk2 y1 lp p0 p1
        go_wp2_with (first | (at_builtin; go_must (refine wpList_append_fresh _ W9 rfl (.tmp 38) (.tmp 40) 44 rfl 63 i0 (.agg #[.int .u64 0, .int .u64 0, .int .u64 0, .int .u64 0, .int .u64 0, .int .u64 0, .int .u64 0, .int .u64 0, .int .u64 0, .int .u64 0, .int .i64 0, .int .i64 0, .int .i64 0, .int .i64 0, .int .i64 0, .int .i64 0, .int .u64 0, .int .u64 0, .int .u64 0, .int .u64 0, .int .u64 0, .int .u64 0, .int .u64 0, .int .u64 0, .int .u64 0, .int .u64 0, .int .i64 0, .int .i64 0, .int .i64 0, .int .i64 0, .int .i64 0, .int .i64 0, .int .i64 0]) 33 264 Tryd.underlying44 hi0 hz0 hz1 hz2 rfl (by decide) (.slice av9 j cap9) j _ rfl Ho9.out C rfl rfl hCs HCo2.out (by omega) (by omega) ?_); intro g2 cap2 w10 hown2 hf2 hat2; have O10 := Lib.hid hown2; have F10 := Lib.hid hf2; have T10 := Lib.hid hat2; clear hown2 hf2 hat2) | fail)
        go_roundw
        case rel =>
          have hz9 := F89.out.size
          have hz10 : (W9.alloc (.cells C 63)).heap.size = W9.heap.size + 1 := by simp
          refine ⟨j + 1, by omega, by go_num, by have h := O10.out; rw [← HCl.out, ← HTk.out] at h; exact h, fun k hk => ?_, ((HF.out.then_ F89.out (fun _ h => h.elim)).alloc _).then_ F10.out (fun k hk => .inr (HVl.out k hk))⟩
          rcases T10.out k hk with h | h
          · exact HVl.out k h
          · have := HW.out; omega
        case measure => simp [intOf]; omega
    · obtain rfl : j = n := by omega
      have hjI : ¬ (j : Int) < j := by omega
      have HOv := Lib.hid hov
      have HVl := Lib.hid hvl
      clear hf hov hvl
      go_wp2_with fail
      go_ret
      have hlen : qs.take j = qs := by rw [← HN.out, List.take_length]
      have ho := HOv.out
      rw [hlen, HQs.out] at ho
      have hl2 : out.length = j := by rw [← HQs.out, List.length_map, HN.out]
      exact ⟨_, rfl, by rw [hl2]; exact ho, fun k hk => Nat.le_trans F2.out.size (HVl.out k hk), F2.out.then_ HF.out (fun _ h => h.elim)⟩
end Go.Proofs.YtjchjpmgbmeohaaDoor

/- BooksBetween. -/
set_option linter.unusedSimpArgs false
set_option linter.unusedVariables false
namespace Go.Proofs.YtjchjpmgbmeohaaDoor
open Go.RowKit

attribute [-go_sem] loadCells
def WantR (wa wr : World) (ks : List Kp) (fm t2 : Int) (v : Value) (i : Nat) : Prop := ∃ L : List Kp, L = (ks.take i).filter (fun k => inB fm t2 k.move.stamp) ∧ L.length ≤ i ∧ wr.ownsRow 0 63 33 v L.length (L.flatMap Kp.cells) ∧ (∀ k, v.ownBlock = some k → wa.heap.size ≤ k) ∧ Fr (fun _ => False) wa wr
set_option maxRecDepth 8000 in
set_option maxHeartbeats 12800000 in
theorem btw_any (w : World) (hm : Most w) (a : Option Addr) (cap : Nat) (cs : List Cl) (fm t2 : Int) (lt : Bool) (hs : Scr w a cs) (hn : cs.length ≤ 140737488355328) :
    Calls Tryd.prog 5 #[.slice a cs.length cap, .int .i64 fm, .int .i64 t2, .bool lt] w fun e w' => e = .returned (.bool true) ∧ Fr (fun _ => False) w w' := by
  have HAl := Lib.hid (alive15_any w hm)
  obtain ⟨i0, hi0, hz0, hz1, hz2⟩ := info_parts Tryd.infoKep
  have HGr := Lib.hid (fun W (f : Fr (fun _ => False) w W) => great_any W a cap cs (hs.fr f) hn)
  have HSt := Lib.hid (fun W => start_any W)
  have HS := Lib.hid hs
  obtain ⟨n, hnl⟩ : ∃ n, cs.length = n := ⟨_, rfl⟩
  have HN := Lib.hid hnl
  rw [hnl] at HGr
  rw [hnl]
  clear hs hnl hn
  go_enter Tryd.func5, Tryd.ntmps5
  go_wp2_with fail
  refine HAl.out.mono ?_
  rintro e w1 ⟨rfl, f1⟩
  have F1 := Lib.hid f1
  clear f1
  go_wp2_with fail
  refine (HGr.out w1 F1.out).mono ?_
  rintro e w2 ⟨⟨gr, rfl, hgr⟩, f2⟩
  have F2 := Lib.hid (F1.out.then_ f2 (fun _ h => h.elim))
  clear f2
  cases gr with
  | true =>
    clear hgr
    go_wp2_with fail
    go_ret
    exact ⟨rfl, F2.out⟩
  | false =>
  have hn : n ≤ 200 := hgr rfl
  clear hgr
  go_wp2_with fail
  refine (HSt.out w2).mono ?_
  rintro e w3 ⟨b, d, M0, rfl, h3⟩
  have H3 := Lib.hid h3
  clear h3
  go_wp2_with fail
  go_loopw [25] (fun iv wr => ∃ j : Nat, j ≤ n ∧ iv = .int .i64 j ∧ ∃ M r es ms, Bt (fun _ => False) w2 wr b d M r es (8 * j) r.rm ms ∧ Good r ∧ MkOk r es ms ∧ ms.length ≤ j) (fun iv _ => ((n : Int) - intOf iv).toNat)
  case atStart => exact ⟨0, by omega, rfl, M0, Raw.empty, [], [], H3.out, good_empty, trivial, Nat.le_refl _⟩
  case round =>
    obtain ⟨j, hj, rfl, M, r, es, ms, hb, hg, hmk, hml⟩ := hrel
    have HBt := Lib.hid hb
    have HG := Lib.hid hg
    have HMk := Lib.hid hmk
    by_cases hjm : j < n
    · have hjI : (j : Int) < n := by omega
      have hjJ : (0 : Int) ≤ j := by omega
      have hwr := F2.out.then_ hb.old0 (fun _ h => h.elim)
      obtain ⟨g, off, rfl, hr⟩ := scr_at (HS.out.fr hwr) (show j < cs.length from by rw [HN.out]; exact hjm)
      obtain ⟨x, hx⟩ : ∃ x, cs[j]'(by rw [HN.out]; exact hjm) = x := ⟨_, rfl⟩
      rw [hx] at hr
      have HR := Lib.hid (World.rangeAt_alloc hr (.cells #[.int .i64 0, .int .u64 0, .int .u64 0, .int .u64 0, .int .u64 0, .int .u64 0, .int .u64 0, .int .u64 0, .int .u64 0, .int .u64 0, .int .u64 0, .int .i64 0, .int .i64 0, .int .i64 0, .int .i64 0, .int .u64 0, .int .u64 0, .int .u64 0, .int .u64 0, .int .u64 0, .int .u64 0, .int .u64 0, .int .u64 0, .int .u64 0, .int .u64 0, .int .i64 0, .int .i64 0, .int .i64 0, .int .i64 0, .int .i64 0, .int .i64 0, .int .u64 0, .int .u64 0, .int .u64 0, .int .u64 0, .int .u64 0, .int .u64 0, .int .u64 0, .int .u64 0, .int .u64 0, .int .u64 0, .int .i64 0, .int .i64 0, .int .i64 0, .int .i64 0, .int .i64 0, .int .i64 0, .bool false, .int .u64 0, .int .u64 0, .int .i64 0] 53))
      have HR0 := Lib.hid hr
      have HBz := Lib.hid (heap_alloc_new wr (.cells #[.int .i64 0, .int .u64 0, .int .u64 0, .int .u64 0, .int .u64 0, .int .u64 0, .int .u64 0, .int .u64 0, .int .u64 0, .int .u64 0, .int .u64 0, .int .i64 0, .int .i64 0, .int .i64 0, .int .i64 0, .int .u64 0, .int .u64 0, .int .u64 0, .int .u64 0, .int .u64 0, .int .u64 0, .int .u64 0, .int .u64 0, .int .u64 0, .int .u64 0, .int .i64 0, .int .i64 0, .int .i64 0, .int .i64 0, .int .i64 0, .int .i64 0, .int .u64 0, .int .u64 0, .int .u64 0, .int .u64 0, .int .u64 0, .int .u64 0, .int .u64 0, .int .u64 0, .int .u64 0, .int .u64 0, .int .i64 0, .int .i64 0, .int .i64 0, .int .i64 0, .int .i64 0, .int .i64 0, .bool false, .int .u64 0, .int .u64 0, .int .i64 0] 53))
      have w1' : IntKind.i64.wrap ((j : Int) + 1) = j + 1 := IntWalk.i64_in _ (by omega)
      clear hr hx hb hg hmk hwr
      go_upto_region 9 with (first | (refine wpList_load_mid rfl 53 (.tmp 27) rfl g (off + j * 51) rfl _ _ HR0.out Tryd.underlying53 rfl rfl ?_) | (refine wpList_load_mid rfl 53 (.tmp 27) rfl g (off + j * 51) rfl _ _ HR.out Tryd.underlying53 rfl rfl ?_) | ((refine wpList_store_row rfl 53 (.tmp 11) (.tmp 28) rfl wr.heap.size x.cells.toArray rfl rfl HBz.out rfl rfl (cl_one x) ?_); intro w9 hb9 f9; have HB9 := Lib.hid hb9; have F9 := Lib.hid f9; clear hb9 f9) | fail)
      have HBt9 := Lib.hid (HBt.out.frF (((Fr.refl (fun _ => False) wr).alloc _).then_ F9.out (fun k hk => .inr (by omega))))
      have HDo := Lib.hid (does_any HBt9.out HG.out HMk.out (by omega) (by omega) x)
      go_wp2_with (first | ((with_reducible refine wpList_load_row_w ?lw 53 _ rfl wr.heap.size rfl 53 _ _ _ HB9.out Tryd.underlying53 rfl rfl ?_); (case lw => rfl)) | fail)
      refine HDo.out.mono ?_
      rintro e w10 ⟨rfl, M', r', es', ms', h', g', mk', -, -, hl'⟩
      have H10 := Lib.hid h'
      have G10 := Lib.hid g'
      have MK10 := Lib.hid mk'
      clear h' g' mk'
      go_wp2_with fail
      go_roundw
      case rel => exact ⟨j + 1, by omega, by go_num, M', r', es', ms', H10.out.more (by omega), G10.out, MK10.out, by omega⟩
      case measure => simp [intOf]; omega
    · obtain rfl : j = n := by omega
      have hjI : ¬ (j : Int) < j := by omega
      have HF3 := Lib.hid (F2.out.then_ hb.old0 (fun _ h => h.elim))
      obtain ⟨lab, q, mv, wv, id, st, hx⟩ := hb
      have HX := Lib.hid hx
      obtain ⟨av, kv, hbM, -, hkr, -⟩ := hx.cur
      obtain ⟨ak, capk, rfl, -, -⟩ := own_form hkr
      have b0 : wr.cell? ⟨b, 0, none⟩ = some (.pointer (some ⟨d.B, 0, none⟩)) := blk_cell hx.blk 0 rfl
      have b1 := blk_cell hx.blk 1 rfl
      have mm1 := blk_cell hbM 1 rfl
      obtain ⟨ks, hks⟩ : ∃ l, r.kept = l := ⟨_, rfl⟩
      have HKs := Lib.hid hks
      have hkr : wr.ownsRow 0 63 33 (.slice ak r.kept.length capk) r.kept.length (r.kept.flatMap Kp.cells) := hkr
      have m1 : wr.cell? ⟨M, 1, none⟩ = some (.slice ak r.kept.length capk) := mm1
      clear mm1
      rw [hks] at hkr m1
      obtain ⟨nk, hnk⟩ : ∃ n, ks.length = n := ⟨_, rfl⟩
      have HNk := Lib.hid hnk
      have hnk96 : nk ≤ 96 := by rw [← hnk, ← hks]; exact hg.nk
      rw [hnk] at m1
      have HKr := Lib.hid hkr
      have HBw := Lib.hid (fun W (f : Fr (fun _ => False) wr W) => betweenS W lab d r es (8 * j) fm t2 lt (hx.sta.fr f (fun _ h => h.elim)) hg (by omega))
      obtain ⟨wa, hwa⟩ : ∃ W, W = wr := ⟨_, rfl⟩
      subst hwa
      clear hx hg hmk hbM hkr hks hnk
      go_wp2_with fail
      go_loopw [41, 12] (fun iv v12 wr => ∃ i : Nat, i ≤ nk ∧ iv = .int .i64 i ∧ WantR wa wr ks fm t2 v12 i) (fun iv _ _ => ((nk : Int) - intOf iv).toNat)
      case atStart => exact ⟨0, by omega, rfl, [], rfl, Nat.le_refl _, World.ownsRow_nil _ _ _ _, fun k hk => (by cases hk), Fr.refl _ _⟩
      case round =>
        obtain ⟨i, hi, rfl, L, hL, hLl, hov, hvl, hf⟩ := hrel
        have HF := Lib.hid hf
        have HLe := Lib.hid hL
        by_cases him : i < nk
        · have hiI : (i : Int) < nk := by omega
          have hiJ : (0 : Int) ≤ i := by omega
          have hil : i < ks.length := by rw [HNk.out]; exact him
          obtain ⟨gk, ck, e0⟩ := own_some HKr.out (by omega)
          simp only [Value.slice.injEq] at e0
          obtain ⟨rfl, -, rfl⟩ := e0
          obtain ⟨x, hx⟩ : ∃ x, ks[i] = x := ⟨_, rfl⟩
          have hr := rw_range (f := Kp.cells) (sz := 33) (fun _ => rfl) (own_fr HKr.out hf (fun _ _ h => h)) rfl hil
          rw [hx] at hr
          have HTk := Lib.hid (show (ks.take (i + 1)).filter (fun k => inB fm t2 k.move.stamp) = L ++ (if inB fm t2 x.move.stamp then [x] else []) from by
            rw [List.take_add_one, List.getElem?_eq_getElem hil, Option.toList_some, List.filter_append, ← hL, hx, List.filter_cons]
            split <;> simp)
          obtain ⟨s, hs⟩ : ∃ s, x.move.stamp = s := ⟨_, rfl⟩
          have HSs := Lib.hid hs
          obtain ⟨C, hC⟩ : ∃ C, x.cells.toArray = C := ⟨_, rfl⟩
          have hCs : C.size = 33 := by rw [← hC]; rfl
          have HC := Lib.hid hC
          have HCl := Lib.hid (show x.cells = C.toList from by rw [← hC])
          have HCo := Lib.hid (show C.all (·.oneCell') = true from by rw [← hC]; simp [Kp.cells, Tx.cells, Value.oneCell'])
          have HCo2 := Lib.hid (show ∀ u ∈ C.toList, u.oneCell' = true from by rw [← hC]; simp [Kp.cells, Tx.cells, Value.oneCell'])
          have HFo := Lib.hid (fold_set #[.int .u64 0, .int .u64 0, .int .u64 0, .int .u64 0, .int .u64 0, .int .u64 0, .int .u64 0, .int .u64 0, .int .u64 0, .int .u64 0, .int .i64 0, .int .i64 0, .int .i64 0, .int .i64 0, .int .i64 0, .int .i64 0, .int .u64 0, .int .u64 0, .int .u64 0, .int .u64 0, .int .u64 0, .int .u64 0, .int .u64 0, .int .u64 0, .int .u64 0, .int .u64 0, .int .i64 0, .int .i64 0, .int .i64 0, .int .i64 0, .int .i64 0, .int .i64 0, .int .i64 0] C 33 rfl hCs)
          rw [show x.cells = C.toList from by rw [← hC]] at hr
          have HR := Lib.hid (World.rangeAt_alloc hr (.cells #[.int .u64 0, .int .u64 0, .int .u64 0, .int .u64 0, .int .u64 0, .int .u64 0, .int .u64 0, .int .u64 0, .int .u64 0, .int .u64 0, .int .i64 0, .int .i64 0, .int .i64 0, .int .i64 0, .int .i64 0, .int .i64 0, .int .u64 0, .int .u64 0, .int .u64 0, .int .u64 0, .int .u64 0, .int .u64 0, .int .u64 0, .int .u64 0, .int .u64 0, .int .u64 0, .int .i64 0, .int .i64 0, .int .i64 0, .int .i64 0, .int .i64 0, .int .i64 0, .int .i64 0] 63))
          have HR0 := Lib.hid hr
          have HBz := Lib.hid (heap_alloc_new wr (.cells #[.int .u64 0, .int .u64 0, .int .u64 0, .int .u64 0, .int .u64 0, .int .u64 0, .int .u64 0, .int .u64 0, .int .u64 0, .int .u64 0, .int .i64 0, .int .i64 0, .int .i64 0, .int .i64 0, .int .i64 0, .int .i64 0, .int .u64 0, .int .u64 0, .int .u64 0, .int .u64 0, .int .u64 0, .int .u64 0, .int .u64 0, .int .u64 0, .int .u64 0, .int .u64 0, .int .i64 0, .int .i64 0, .int .i64 0, .int .i64 0, .int .i64 0, .int .i64 0, .int .i64 0] 63))
          obtain ⟨ao, co, rfl, -, -⟩ := own_form hov
          have HOv := Lib.hid hov
          have HVl := Lib.hid hvl
          have w1' : IntKind.i64.wrap ((i : Int) + 1) = i + 1 := IntWalk.i64_in _ (by omega)
          have HWs := Lib.hid (show wa.heap.size ≤ wr.heap.size from hf.size)
          clear hr hx hf hov hvl hC hs hL hil
          go_upto_region 15 with (first | (refine wpList_load_mid rfl 63 (.tmp 43) rfl gk (i * 33) rfl _ _ HR0.out Tryd.underlying63 rfl (by rw [Array.length_toList, hCs]; rfl) ?_) | (refine wpList_load_mid rfl 63 (.tmp 43) rfl gk (i * 33) rfl _ _ HR.out Tryd.underlying63 rfl (by rw [Array.length_toList, hCs]; rfl) ?_) | ((refine wpList_store_row rfl 63 (.tmp 14) (.tmp 44) rfl wr.heap.size C rfl rfl HBz.out (by rw [hCs]; rfl) (by rw [hCs]; rfl) HCo.out ?_); intro w9 hb9 f9; have HB9 := Lib.hid hb9; have F9 := Lib.hid f9; clear hb9 f9) | fail)
          have G9 := Lib.hid (show Fr (fun _ => False) wr w9 from ((Fr.refl (fun _ => False) wr).alloc _).then_ F9.out (fun k hk => .inr (by omega)))
          have x30 : w9.cell? ⟨wr.heap.size, 30, none⟩ = some (.int .i64 s) := blk_cell HB9.out 30 (by rw [← HC.out, ← HSs.out]; rfl)
          have Ho9 := Lib.hid (own_fr HOv.out G9.out (fun _ _ h => h))
          by_cases hin : inB fm t2 s = true
          · have HL2 := Lib.hid (show (ks.take (i + 1)).filter (fun k => inB fm t2 k.move.stamp) = L ++ [x] from by have h := HTk.out; rw [HSs.out, hin] at h; exact h)
            have hfo : Array.foldl (fun cs (x : Value × Nat) => cs.setIfInBounds x.snd x.fst) #[.int .u64 0, .int .u64 0, .int .u64 0, .int .u64 0, .int .u64 0, .int .u64 0, .int .u64 0, .int .u64 0, .int .u64 0, .int .u64 0, .int .i64 0, .int .i64 0, .int .i64 0, .int .i64 0, .int .i64 0, .int .i64 0, .int .u64 0, .int .u64 0, .int .u64 0, .int .u64 0, .int .u64 0, .int .u64 0, .int .u64 0, .int .u64 0, .int .u64 0, .int .u64 0, .int .i64 0, .int .i64 0, .int .i64 0, .int .i64 0, .int .i64 0, .int .i64 0, .int .i64 0] C.zipIdx 0 33 = C := HFo.out
            have hc1 : fm ≤ s := by unfold inB at hin; simp at hin; exact hin.1
            rcases (show t2 = 0 ∨ (t2 ≠ 0 ∧ s ≤ t2) from by unfold inB at hin; simp at hin; rcases hin.2 with h | h; exact .inl h; (by_cases h0 : t2 = 0; exact .inl h0; exact .inr ⟨h0, h⟩)) with e2 | ⟨e2, e3⟩
            · have e2' : (t2 == 0) = true := by simpa using e2
              clear hin e2
              have lk := ld_row (P := Tryd.prog) (W := w9) wr.heap.size C (n := 33) hCs HB9.out
              go_wp2_with (first | (at_builtin; (refine wpList_append_fresh _ w9 rfl (.tmp 61) (.tmp 63) 44 rfl 63 i0 (.agg #[.int .u64 0, .int .u64 0, .int .u64 0, .int .u64 0, .int .u64 0, .int .u64 0, .int .u64 0, .int .u64 0, .int .u64 0, .int .u64 0, .int .i64 0, .int .i64 0, .int .i64 0, .int .i64 0, .int .i64 0, .int .i64 0, .int .u64 0, .int .u64 0, .int .u64 0, .int .u64 0, .int .u64 0, .int .u64 0, .int .u64 0, .int .u64 0, .int .u64 0, .int .u64 0, .int .i64 0, .int .i64 0, .int .i64 0, .int .i64 0, .int .i64 0, .int .i64 0, .int .i64 0]) 33 264 Tryd.underlying44 hi0 hz0 hz1 hz2 rfl (by decide) (.slice ao L.length co) L.length _ rfl Ho9.out C rfl rfl hCs HCo2.out (by omega) (by omega) ?_); intro g2 cap2 w10 hown2 hf2 hat2; have O10 := Lib.hid hown2; have F10 := Lib.hid hf2; have T10 := Lib.hid hat2; clear hown2 hf2 hat2) | fail)
              go_roundw
              case rel =>
                have hz9 := G9.out.size
                have hz10 : (w9.alloc (.cells C 63)).heap.size = w9.heap.size + 1 := by simp
                refine ⟨i + 1, by omega, by go_num, L ++ [x], HL2.out.symm, by simp; omega, by rw [List.length_append, List.length_singleton, List.flatMap_append, List.flatMap_cons, List.flatMap_nil, List.append_nil, HCl.out]; exact O10.out, fun k hk => ?_, ((HF.out.then_ G9.out (fun _ h => h.elim)).alloc _).then_ F10.out (fun k hk => .inr (HVl.out k hk))⟩
                rcases T10.out k hk with h | h
                · exact HVl.out k h
                · have := HWs.out; omega
              case measure => simp [intOf]; omega
            · have e2' : (t2 == 0) = false := by simpa using e2
              clear hin
              have lk := ld_row (P := Tryd.prog) (W := w9) wr.heap.size C (n := 33) hCs HB9.out
              go_wp2_with (first | (at_builtin; (refine wpList_append_fresh _ w9 rfl (.tmp 61) (.tmp 63) 44 rfl 63 i0 (.agg #[.int .u64 0, .int .u64 0, .int .u64 0, .int .u64 0, .int .u64 0, .int .u64 0, .int .u64 0, .int .u64 0, .int .u64 0, .int .u64 0, .int .i64 0, .int .i64 0, .int .i64 0, .int .i64 0, .int .i64 0, .int .i64 0, .int .u64 0, .int .u64 0, .int .u64 0, .int .u64 0, .int .u64 0, .int .u64 0, .int .u64 0, .int .u64 0, .int .u64 0, .int .u64 0, .int .i64 0, .int .i64 0, .int .i64 0, .int .i64 0, .int .i64 0, .int .i64 0, .int .i64 0]) 33 264 Tryd.underlying44 hi0 hz0 hz1 hz2 rfl (by decide) (.slice ao L.length co) L.length _ rfl Ho9.out C rfl rfl hCs HCo2.out (by omega) (by omega) ?_); intro g2 cap2 w10 hown2 hf2 hat2; have O10 := Lib.hid hown2; have F10 := Lib.hid hf2; have T10 := Lib.hid hat2; clear hown2 hf2 hat2) | fail)
              go_roundw
              case rel =>
                have hz9 := G9.out.size
                have hz10 : (w9.alloc (.cells C 63)).heap.size = w9.heap.size + 1 := by simp
                refine ⟨i + 1, by omega, by go_num, L ++ [x], HL2.out.symm, by simp; omega, by rw [List.length_append, List.length_singleton, List.flatMap_append, List.flatMap_cons, List.flatMap_nil, List.append_nil, HCl.out]; exact O10.out, fun k hk => ?_, ((HF.out.then_ G9.out (fun _ h => h.elim)).alloc _).then_ F10.out (fun k hk => .inr (HVl.out k hk))⟩
                rcases T10.out k hk with h | h
                · exact HVl.out k h
                · have := HWs.out; omega
              case measure => simp [intOf]; omega
          · have HL2 := Lib.hid (show (ks.take (i + 1)).filter (fun k => inB fm t2 k.move.stamp) = L from by have h := HTk.out; rw [HSs.out, if_neg hin, List.append_nil] at h; exact h)
            rcases (show ¬ fm ≤ s ∨ (fm ≤ s ∧ t2 ≠ 0 ∧ ¬ s ≤ t2) from by unfold inB at hin; simp at hin; omega) with e1 | ⟨e1, e2, e3⟩
            · clear hin
              go_wp2_with fail
              go_roundw
              case rel => exact ⟨i + 1, by omega, by go_num, L, HL2.out.symm, by omega, Ho9.out, HVl.out, HF.out.then_ G9.out (fun _ h => h.elim)⟩
              case measure => simp [intOf]; omega
            · have e2' : (t2 == 0) = false := by simpa using e2
              clear hin
              go_wp2_with fail
              go_roundw
              case rel => exact ⟨i + 1, by omega, by go_num, L, HL2.out.symm, by omega, Ho9.out, HVl.out, HF.out.then_ G9.out (fun _ h => h.elim)⟩
              case measure => simp [intOf]; omega
        · obtain rfl : i = nk := by omega
          have hiI : ¬ (i : Int) < i := by omega
          obtain ⟨K, hK⟩ : ∃ l, Kbt r fm t2 = l := ⟨_, rfl⟩
          have hLK : L = K := by rw [hL, ← hK, Kbt, HKs.out, ← HNk.out, List.take_length]
          subst hLK
          obtain ⟨ao, co, rfl, -, -⟩ := own_form hov
          have HOv := Lib.hid hov
          have hbw := HBw.out wr hf
          obtain ⟨G, hG⟩ : ∃ l, (if lt then (Kbt r fm t2).reverse else Kbt r fm t2) = l := ⟨_, rfl⟩
          rw [hG] at hbw
          rw [hK] at hG
          have HGl := Lib.hid hG
          have HBw2 := Lib.hid hbw
          have hGl : G.length = L.length := by rw [← hG]; cases lt <;> simp
          have b0' := hf.cell (p := ⟨b, 0, none⟩) b0 (fun h => h)
          obtain ⟨NL, hNL⟩ : ∃ n, L.length = n := ⟨_, rfl⟩
          have HNL := Lib.hid hNL
          have HNG := Lib.hid (show G.length = NL from by rw [hGl, hNL])
          rw [hNL] at hLl
          clear hov hvl hf hL hK hbw hG b0 b1 m1 hGl hNL
          rw [HNL.out]
          go_wp2_with fail
          refine HBw2.out.mono ?_
          rintro e w5 ⟨vg, rfl, hog, -, f5⟩
          rw [HNG.out] at hog
          obtain ⟨ag, cg, rfl, -, -⟩ := own_form hog
          have HOg := Lib.hid hog
          have HF5 := Lib.hid f5
          have HOw := Lib.hid (own_fr HOv.out f5 (fun _ _ h => h))
          clear hog f5
          go_wp2_with fail
          go_loopw [81] (fun iv wz => ∃ y : Nat, y ≤ NL ∧ iv = .int .i64 y ∧ Fr (fun _ => False) w5 wz) (fun iv _ => ((NL : Int) - intOf iv).toNat)
          case atStart => exact ⟨0, by omega, rfl, Fr.refl _ _⟩
          case round =>
            obtain ⟨y, hy, rfl, hfz⟩ := hrel
            have HFz := Lib.hid hfz
            by_cases hym : y < NL
            · have hyI : (y : Int) < NL := by omega
              have hyJ : (0 : Int) ≤ y := by omega
              have w1' : IntKind.i64.wrap ((y : Int) + 1) = y + 1 := IntWalk.i64_in _ (by omega)
              have hyl : y < L.length := by rw [HNL.out]; exact hym
              have how := HOw.out
              rw [HNL.out] at how
              obtain ⟨gw, cw, e0⟩ := own_some how (by omega)
              simp only [Value.slice.injEq] at e0
              obtain ⟨rfl, -, rfl⟩ := e0
              obtain ⟨gg, cgg, e1⟩ := own_some HOg.out (by omega)
              simp only [Value.slice.injEq] at e1
              obtain ⟨rfl, -, rfl⟩ := e1
              have how2 := own_fr how hfz (fun _ _ h => h)
              have hog2 := own_fr HOg.out hfz (fun _ _ h => h)
              have hg0 := HGl.out
              cases lt with
              | false =>
                have hGL : L = G := hg0
                obtain ⟨x, hx⟩ : ∃ x, L[y] = x := ⟨_, rfl⟩
                have hr := rw_range (f := Kp.cells) (sz := 33) (fun _ => rfl) how2 HNL.out hyl
                have hrg := rw_range (f := Kp.cells) (sz := 33) (k := y) (fun _ => rfl) hog2 HNG.out (by rw [HNG.out]; exact hym)
                rw [hx] at hr
                rw [show G[y]'(by rw [HNG.out]; exact hym) = x from by subst hGL; exact hx] at hrg
                have heq := eqm_Kp x
                obtain ⟨C, hC⟩ : ∃ C, x.cells.toArray = C := ⟨_, rfl⟩
                have hCs : C.size = 33 := by rw [← hC]; rfl
                have hCl : x.cells = C.toList := by rw [← hC]
                have HCo := Lib.hid (show C.all (·.oneCell') = true from by rw [← hC]; simp [Kp.cells, Tx.cells, Value.oneCell'])
                rw [hC] at heq
                have HEq := Lib.hid heq
                clear heq
                rw [hCl] at hr hrg
                have HR := Lib.hid (World.rangeAt_alloc hr (.cells #[.int .u64 0, .int .u64 0, .int .u64 0, .int .u64 0, .int .u64 0, .int .u64 0, .int .u64 0, .int .u64 0, .int .u64 0, .int .u64 0, .int .i64 0, .int .i64 0, .int .i64 0, .int .i64 0, .int .i64 0, .int .i64 0, .int .u64 0, .int .u64 0, .int .u64 0, .int .u64 0, .int .u64 0, .int .u64 0, .int .u64 0, .int .u64 0, .int .u64 0, .int .u64 0, .int .i64 0, .int .i64 0, .int .i64 0, .int .i64 0, .int .i64 0, .int .i64 0, .int .i64 0] 63))
                have HR0 := Lib.hid hr
                have HRg := Lib.hid hrg
                have HBz := Lib.hid (heap_alloc_new wr (.cells #[.int .u64 0, .int .u64 0, .int .u64 0, .int .u64 0, .int .u64 0, .int .u64 0, .int .u64 0, .int .u64 0, .int .u64 0, .int .u64 0, .int .i64 0, .int .i64 0, .int .i64 0, .int .i64 0, .int .i64 0, .int .i64 0, .int .u64 0, .int .u64 0, .int .u64 0, .int .u64 0, .int .u64 0, .int .u64 0, .int .u64 0, .int .u64 0, .int .u64 0, .int .u64 0, .int .i64 0, .int .i64 0, .int .i64 0, .int .i64 0, .int .i64 0, .int .i64 0, .int .i64 0] 63))
                clear hr hrg hx hfz how how2 hog2 hg0 hGL hC hCl hyl
                go_upto_region 25 with (first | (refine wpList_load_mid rfl 63 (.tmp 86) rfl gw (y * 33) rfl _ _ HR0.out Tryd.underlying63 rfl (by rw [Array.length_toList, hCs]; rfl) ?_) | (refine wpList_load_mid rfl 63 (.tmp 86) rfl gw (y * 33) rfl _ _ HR.out Tryd.underlying63 rfl (by rw [Array.length_toList, hCs]; rfl) ?_) | ((refine wpList_store_row rfl 63 (.tmp 17) (.tmp 87) rfl wr.heap.size C rfl rfl HBz.out (by rw [hCs]; rfl) (by rw [hCs]; rfl) HCo.out ?_); intro w9 hb9 f9; have HB9 := Lib.hid hb9; have F9 := Lib.hid f9; clear hb9 f9) | fail)
                have G9 := Lib.hid (show Fr (fun _ => False) wr w9 from ((Fr.refl (fun _ => False) wr).alloc _).then_ F9.out (fun k hk => .inr (by omega)))
                go_upto_region 27 with fail
                have lg := ld_range (P := Tryd.prog) (W := w9.drew) (g := gg) (o := y * 33) C ((World.rangeAt_drew _ _ _ _).2 (fun j v hv => G9.out.cell (p := ⟨gg, y * 33 + j, none⟩) (HRg.out j v hv) (fun h => h))) hCs
                have lk := ld_row (P := Tryd.prog) (W := w9.drew) wr.heap.size C (n := 33) hCs (blk_drew HB9.out)
                have heC := HEq.out
                go_region
                all_goals
                  go_wp2_with fail
                  go_roundw
                  case rel => exact ⟨y + 1, by omega, by go_num, (HFz.out.then_ G9.out (fun _ h => h.elim)).drew⟩
                  case measure => simp [intOf]; omega
              | true =>
                have hGL : L.reverse = G := hg0
                obtain ⟨z, hz⟩ : ∃ z : Nat, NL - 1 - y = z := ⟨_, rfl⟩
                have hzl : z < L.length := by rw [HNL.out]; omega
                have hzI : (z : Int) < NL := by omega
                have hzJ : (0 : Int) ≤ z := by omega
                have a1 : IntKind.i64.wrap ((NL : Int) - 1) = (NL : Int) - 1 := IntWalk.i64_in _ (by omega)
                have a2 : IntKind.i64.wrap ((NL : Int) - 1 - y) = z := by rw [IntWalk.i64_in _ (by omega)]; omega
                obtain ⟨x0, hx0⟩ : ∃ x, L[y] = x := ⟨_, rfl⟩
                obtain ⟨x, hx⟩ : ∃ x, L[z] = x := ⟨_, rfl⟩
                have hr0 := rw_range (f := Kp.cells) (sz := 33) (fun _ => rfl) how2 HNL.out hyl
                have hr := rw_range (f := Kp.cells) (sz := 33) (fun _ => rfl) how2 HNL.out hzl
                have hrg := rw_range (f := Kp.cells) (sz := 33) (k := y) (fun _ => rfl) hog2 HNG.out (by rw [HNG.out]; exact hym)
                rw [hx0] at hr0
                rw [hx] at hr
                rw [show G[y]'(by rw [HNG.out]; exact hym) = x from by subst hGL; rw [List.getElem_reverse]; rw [← hx]; congr 1; rw [HNL.out]; exact hz] at hrg
                have heq := eqm_Kp x
                obtain ⟨C, hC⟩ : ∃ C, x.cells.toArray = C := ⟨_, rfl⟩
                have hCs : C.size = 33 := by rw [← hC]; rfl
                have hCl : x.cells = C.toList := by rw [← hC]
                have HCo := Lib.hid (show C.all (·.oneCell') = true from by rw [← hC]; simp [Kp.cells, Tx.cells, Value.oneCell'])
                rw [hC] at heq
                have HEq := Lib.hid heq
                clear heq
                rw [hCl] at hr hrg
                obtain ⟨D, hD⟩ : ∃ D, x0.cells.toArray = D := ⟨_, rfl⟩
                have hDs : D.size = 33 := by rw [← hD]; rfl
                have hDl : x0.cells = D.toList := by rw [← hD]
                have HDo := Lib.hid (show D.all (·.oneCell') = true from by rw [← hD]; simp [Kp.cells, Tx.cells, Value.oneCell'])
                rw [hDl] at hr0
                have HR := Lib.hid (World.rangeAt_alloc hr0 (.cells #[.int .u64 0, .int .u64 0, .int .u64 0, .int .u64 0, .int .u64 0, .int .u64 0, .int .u64 0, .int .u64 0, .int .u64 0, .int .u64 0, .int .i64 0, .int .i64 0, .int .i64 0, .int .i64 0, .int .i64 0, .int .i64 0, .int .u64 0, .int .u64 0, .int .u64 0, .int .u64 0, .int .u64 0, .int .u64 0, .int .u64 0, .int .u64 0, .int .u64 0, .int .u64 0, .int .i64 0, .int .i64 0, .int .i64 0, .int .i64 0, .int .i64 0, .int .i64 0, .int .i64 0] 63))
                have HR0 := Lib.hid hr0
                have HRz := Lib.hid hr
                have HRg := Lib.hid hrg
                have HBz := Lib.hid (heap_alloc_new wr (.cells #[.int .u64 0, .int .u64 0, .int .u64 0, .int .u64 0, .int .u64 0, .int .u64 0, .int .u64 0, .int .u64 0, .int .u64 0, .int .u64 0, .int .i64 0, .int .i64 0, .int .i64 0, .int .i64 0, .int .i64 0, .int .i64 0, .int .u64 0, .int .u64 0, .int .u64 0, .int .u64 0, .int .u64 0, .int .u64 0, .int .u64 0, .int .u64 0, .int .u64 0, .int .u64 0, .int .i64 0, .int .i64 0, .int .i64 0, .int .i64 0, .int .i64 0, .int .i64 0, .int .i64 0] 63))
                clear hr hr0 hrg hx hx0 hfz how how2 hog2 hg0 hGL hC hCl hD hDl hyl hz hzl
                go_upto_region 25 with (first | (refine wpList_load_mid rfl 63 (.tmp 86) rfl gw (y * 33) rfl _ _ HR0.out Tryd.underlying63 rfl (by rw [Array.length_toList, hDs]; rfl) ?_) | (refine wpList_load_mid rfl 63 (.tmp 86) rfl gw (y * 33) rfl _ _ HR.out Tryd.underlying63 rfl (by rw [Array.length_toList, hDs]; rfl) ?_) | ((refine wpList_store_row rfl 63 (.tmp 17) (.tmp 87) rfl wr.heap.size D rfl rfl HBz.out (by rw [hDs]; rfl) (by rw [hDs]; rfl) HDo.out ?_); intro w9 hb9 f9; have HB9 := Lib.hid hb9; have F9 := Lib.hid f9; clear hb9 f9) | fail)
                have G8 := Lib.hid (show Fr (fun _ => False) wr w9 from ((Fr.refl (fun _ => False) wr).alloc _).then_ F9.out (fun k hk => .inr (by omega)))
                have HRz9 := Lib.hid (show w9.rangeAt gw (z * 33) C.toList from fun j v hv => G8.out.cell (p := ⟨gw, z * 33 + j, none⟩) (HRz.out j v hv) (fun h => h))
                go_upto_region 27 with (first | (refine wpList_load_mid rfl 63 (.tmp 95) rfl gw (z * 33) rfl _ _ HRz9.out Tryd.underlying63 rfl (by rw [Array.length_toList, hCs]; rfl) ?_) | ((refine wpList_store_row rfl 63 (.tmp 17) (.tmp 96) rfl wr.heap.size C rfl rfl HB9.out (by rw [hCs, hDs]) (by rw [hCs]; rfl) HCo.out ?_); intro w8 hb8 f8; have HB8 := Lib.hid hb8; have F8 := Lib.hid f8; clear hb8 f8) | fail)
                have G9 := Lib.hid (show Fr (fun _ => False) wr w8 from G8.out.then_ F8.out (fun k hk => .inr (by omega)))
                have lg := ld_range (P := Tryd.prog) (W := w8.drew) (g := gg) (o := y * 33) C ((World.rangeAt_drew _ _ _ _).2 (fun j v hv => G9.out.cell (p := ⟨gg, y * 33 + j, none⟩) (HRg.out j v hv) (fun h => h))) hCs
                have lk := ld_row (P := Tryd.prog) (W := w8.drew) wr.heap.size C (n := 33) hCs (blk_drew HB8.out)
                have heC := HEq.out
                go_region
                all_goals
                  go_wp2_with fail
                  go_roundw
                  case rel => exact ⟨y + 1, by omega, by go_num, (HFz.out.then_ G9.out (fun _ h => h.elim)).drew⟩
                  case measure => simp [intOf]; omega
            · obtain rfl : y = NL := by omega
              have hyI : ¬ (y : Int) < y := by omega
              clear hfz
              go_wp2_with fail
              go_ret
              exact ⟨rfl, ((HF3.out.then_ HF.out (fun _ h => h.elim)).then_ HF5.out (fun _ h => h.elim)).then_ HFz.out (fun _ h => h.elim)⟩
end Go.Proofs.YtjchjpmgbmeohaaDoor

/- Reading arguments: a struct's cells leaf by leaf; a slice's elements; what sizes the row's weights give. No program in sight. -/
set_option linter.unusedSimpArgs false
set_option linter.unusedVariables false
namespace Go.Proofs.YtjchjpmgbmeohaaDoor
open Go.RowKit Go.ChangeShapes Go.WideShapes Go.ChangeAt

/-- A datum's weights are within the reach. -/
def Sz {H : Type} (P : Program) (t : TypeId) (d : DataW H) : Prop := ∀ n ∈ DataW.weights P t d, n ≤ 140737488351232

section
variable {H : Type} {enc : TypeId × Value → H} {P : Program} {w : World} {base : Nat} {spare : Nat → Bool} {held : Bool}

theorem Sz.each {ts : List TypeId} {ds : List (DataW H)} (h : (DataW.weightsEach P ts ds).all (· ≤ reachBytes) = true) : ∀ (j : Nat) (t : TypeId) (d : DataW H), ts[j]? = some t → ds[j]? = some d → Sz P t d := by
  induction ts generalizing ds with
  | nil => intro j t d h1; simp at h1
  | cons t0 ts ih =>
    cases ds with
    | nil => intro j t d _ h2; simp at h2
    | cons d0 ds =>
      rw [DataW.weightsEach, List.all_append, Bool.and_eq_true] at h
      intro j t d h1 h2
      cases j with
      | zero =>
        simp at h1 h2
        subst h1; subst h2
        intro n hn
        have := List.all_eq_true.1 h.1 n hn
        have h3 := of_decide_eq_true this
        simpa [reachBytes] using h3
      | succ j => exact ih h.2 j t d (by simpa using h1) (by simpa using h2)
theorem weightsAll_mem {e : TypeId} {ds : List (DataW H)} {d : DataW H} (hd : d ∈ ds) {n : Nat} (hn : n ∈ DataW.weights P e d) : n ∈ DataW.weightsAll P e ds := by
  induction ds with
  | nil => cases hd
  | cons d0 ds ih =>
    rw [DataW.weightsAll]
    rcases List.mem_cons.1 hd with rfl | h
    · exact List.mem_append_left _ hn
    · exact List.mem_append_right _ (ih h)
theorem weightsEach_mem {ts : List TypeId} {ds : List (DataW H)} {n : Nat} : ∀ (j : Nat) (t : TypeId) (d : DataW H), ts[j]? = some t → ds[j]? = some d → n ∈ DataW.weights P t d → n ∈ DataW.weightsEach P ts ds := by
  induction ts generalizing ds with
  | nil => intro j t d h1; simp at h1
  | cons t0 ts ih =>
    cases ds with
    | nil => intro j t d _ h2; simp at h2
    | cons d0 ds =>
      intro j t d h1 h2 hn
      rw [DataW.weightsEach]
      cases j with
      | zero =>
        simp at h1 h2
        subst h1; subst h2
        exact List.mem_append_left _ hn
      | succ j => exact List.mem_append_right _ (ih j t d (by simpa using h1) (by simpa using h2) hn)
theorem Sz.slice {t e : TypeId} {elems rest : List (DataW H)} (hu : P.underlying t = some (.slice e)) (h : Sz P t (.slice elems rest)) : (elems.length + rest.length) * P.bytesOf e ≤ 140737488351232 ∧ ∀ d ∈ elems, Sz P e d := by
  unfold Sz at h
  rw [DataW.weights, hu] at h
  exact ⟨h _ (List.mem_cons_self ..), fun d hd n hn => h n (List.mem_cons_of_mem _ (List.mem_append_left _ (weightsAll_mem hd hn)))⟩
theorem Sz.agg {t : TypeId} {fs : Array Field} {parts : List (DataW H)} (hu : P.underlying t = some (.struct fs)) (h : Sz P t (.agg parts)) (i : Nat) (f : Field) (d : DataW H) (hf : fs[i]? = some f) (hd : parts[i]? = some d) : Sz P f.type d := by
  unfold Sz at h
  rw [DataW.weights, hu] at h
  exact fun n hn => h n (weightsEach_mem i f.type d (by simp [hf]) hd hn)

/-- The types of a struct's cells, one by one; none where a field doesn't lie behind the one ahead of it. -/
def leafs (P : Program) : Nat → TypeId → Option (List TypeId)
  | 0, _ => none
  | n + 1, t => match P.underlying t with
    | some (.struct fs) => fs.toList.foldlM (fun acc f => if f.offset = acc.length then (leafs P n f.type).bind fun l => if l.length = P.cellsOf f.type then some (acc ++ l) else none else none) []
    | some (.array _ _) => none
    | _ => some [t]

/-- One cell, read at a type. -/
def Leaf (enc : TypeId × Value → H) (P : Program) (w : World) (base : Nat) (spare : Nat → Bool) (held : Bool) (t : TypeId) (c : Value) : Prop := ∃ n y, DataW.trod enc P w base spare held n t [c] = some y ∧ Sz P t y.1

inductive All2 {α β : Type} (R : α → β → Prop) : List α → List β → Prop
  | nil : All2 R [] []
  | cons {a b l m} : R a b → All2 R l m → All2 R (a :: l) (b :: m)
theorem All2.append {α β : Type} {R : α → β → Prop} {l l2 : List α} {m m2 : List β} (h : All2 R l m) (k : All2 R l2 m2) : All2 R (l ++ l2) (m ++ m2) := by
  induction h with
  | nil => exact k
  | cons hr _ ih => exact .cons hr ih
theorem All2.len {α β : Type} {R : α → β → Prop} {l : List α} {m : List β} (h : All2 R l m) : l.length = m.length := by
  induction h with
  | nil => rfl
  | cons _ _ ih => simp [ih]

theorem leafs_all : ∀ (n m : Nat) (t : TypeId) (ts : List TypeId) (cs : List Value) (x : DataW H × List MemPlace), leafs P n t = some ts → (∀ t' ∈ ts, P.cellsOf t' = 1) → cs.length = ts.length → DataW.trod enc P w base spare held m t cs = some x → Sz P t x.1 → All2 (Leaf enc P w base spare held) ts cs := by
  intro n
  induction n with
  | zero => intro m t ts cs x h; simp [leafs] at h
  | succ n ih =>
    intro m t ts cs x h h1 hc ht hs
    rw [leafs] at h
    split at h
    · rename_i fs hu
      obtain ⟨xs, k, rfl, rfl, hcs, hxs, hel⟩ := DataW.trod_struct hu ht
      have key : ∀ (l : List Field) (j : Nat) (acc res : List TypeId), (∀ (i : Nat) f, l[i]? = some f → fs[j + i]? = some f) → l.foldlM (fun acc f => if f.offset = acc.length then (leafs P n f.type).bind fun l => if l.length = P.cellsOf f.type then some (acc ++ l) else none else none) acc = some res → (∀ t' ∈ res, P.cellsOf t' = 1) → acc.length ≤ cs.length → res.length ≤ cs.length →
          ∃ tail, res = acc ++ tail ∧ All2 (Leaf enc P w base spare held) tail ((cs.drop acc.length).take tail.length) := by
        intro l
        induction l with
        | nil =>
          intro j acc res _ hf _ _ _
          simp at hf
          subst hf
          exact ⟨[], by simp, by simpa using All2.nil⟩
        | cons f l ihl =>
          intro j acc res hl hf h1r ha hr
          rw [List.foldlM_cons] at hf
          split at hf
          · rename_i hoff
            cases hlf : leafs P n f.type with
            | none => rw [hlf] at hf; simp at hf
            | some lf =>
              rw [hlf] at hf
              simp only [Option.bind_some] at hf
              split at hf
              · rename_i hlen
                simp only [Option.bind_eq_bind, Option.bind_some] at hf
                have hmono : (acc ++ lf).length ≤ res.length := by
                  clear ihl hl
                  revert hf
                  generalize acc ++ lf = A
                  intro hf
                  induction l generalizing A with
                  | nil => simp at hf; subst hf; exact Nat.le_refl _
                  | cons f2 l ih2 =>
                    rw [List.foldlM_cons] at hf
                    split at hf
                    · cases h2 : leafs P n f2.type with
                      | none => rw [h2] at hf; simp at hf
                      | some l2 =>
                        rw [h2] at hf
                        simp only [Option.bind_some] at hf
                        split at hf
                        · simp only [Option.bind_eq_bind, Option.bind_some] at hf
                          have := ih2 _ hf
                          rw [List.length_append] at this
                          omega
                        · simp at hf
                    · simp at hf
                obtain ⟨tail, rfl, hall⟩ := ihl (j + 1) (acc ++ lf) res (fun i f' hi => by have := hl (i + 1) f' (by simpa using hi); rwa [show j + (i + 1) = j + 1 + i by omega] at this) hf h1r (by omega) hr
                have hfj : fs[j]? = some f := hl 0 f rfl
                have hx := hel j f hfj
                have hjx : j < xs.length := by
                  have := (Array.getElem?_eq_some_iff.1 hfj).1
                  omega
                rw [List.getElem?_eq_getElem hjx, hoff, ← hlen] at hx
                rw [List.length_append] at hmono
                have hlc : ((cs.drop acc.length).take lf.length).length = lf.length := by
                  rw [List.length_take, List.length_drop]
                  omega
                have hA := ih _ _ _ _ _ hlf (fun t' ht' => h1r t' (by simp [ht'])) hlc hx (hs.agg hu j f _ hfj (by simp [hjx]))
                refine ⟨lf ++ tail, by simp, ?_⟩
                have e : (cs.drop acc.length).take (lf ++ tail).length = (cs.drop acc.length).take lf.length ++ ((cs.drop (acc ++ lf).length).take tail.length) := by
                  rw [List.length_append, List.take_add, List.drop_drop, List.length_append]
                rw [e]
                exact hA.append hall
              · simp at hf
          · simp at hf
      obtain ⟨tail, he, hall⟩ := key fs.toList 0 [] ts (fun i f hi => by simpa using hi) h h1 (by simp) (by omega)
      simp only [List.nil_append] at he
      subst he
      simpa [← hc] using hall
    · simp at h
    · simp only [Option.some.injEq] at h
      subst h
      match cs, hc with
      | [c], _ => exact .cons ⟨m, x, ht, hs⟩ .nil

theorem Leaf.int {t : TypeId} {c : Value} {k : IntKind} (hu : P.underlying t = some (.int k)) (h : Leaf enc P w base spare held t c) : ∃ n, c = .int k n ∧ (Lit.int k n).wf = true := by
  obtain ⟨m, y, ht, _⟩ := h
  obtain ⟨n, e, _, hw⟩ := DataW.trod_int hu ht
  simp only [List.cons.injEq, and_true] at e
  exact ⟨n, e, hw⟩
theorem Leaf.bool {t : TypeId} {c : Value} (hu : P.underlying t = some .bool) (h : Leaf enc P w base spare held t c) : ∃ b, c = .bool b := by
  obtain ⟨m, y, ht, _⟩ := h
  obtain ⟨b, e, _⟩ := DataW.trod_bool hu ht
  simp only [List.cons.injEq, and_true] at e
  exact ⟨b, e⟩
theorem Leaf.string {t : TypeId} {c : Value} (hu : P.underlying t = some .string) (h : Leaf enc P w base spare held t c) : ∃ s : ByteArray, c = .string s ∧ s.size ≤ 140737488351232 := by
  obtain ⟨m, y, ht, hs⟩ := h
  obtain ⟨s, e, hy, _⟩ := DataW.trod_string hu ht
  simp only [List.cons.injEq, and_true] at e
  subst hy
  exact ⟨s, e, by have := hs s.data.toList.length (by simp [DataW.weights]); simpa using this⟩

theorem cells?_get {a : Addr} {n : Nat} {cs : List Value} (h : w.cells? base a n = some cs) : cs.length = n ∧ ∀ j u, cs[j]? = some u → w.cell? (a.add j) = some u := by
  obtain ⟨_, hl, hg⟩ := World.cells?_some h
  exact ⟨hl, fun j u hu => by
    have hj : j < n := by have := (List.getElem?_eq_some_iff.1 hu).1; omega
    rw [hg j hj]
    exact hu⟩

/-- A slice whose elements are flat structs: nil, or cells from an address on that read leaf by leaf. -/
theorem open_flat {t e : TypeId} {ts : List TypeId} {fuel n len cap B : Nat} {a : Option Addr} {x : DataW H × List MemPlace} (hu : P.underlying t = some (.slice e)) (hlf : leafs P n e = some ts) (h1 : ∀ t' ∈ ts, P.cellsOf t' = 1) (hce : P.cellsOf e = ts.length) (hB : P.bytesOf e = B)
    (h : DataW.trod enc P w base spare held fuel t [.slice a len cap] = some x) (hs : Sz P t x.1) :
    (a = none ∧ len = 0 ∧ cap = 0) ∨
    ∃ ad, a = some ad ∧ len ≤ cap ∧ cap ≤ maxLen ∧ len * B ≤ 140737488351232 ∧
      ∀ i, i < len → ∃ cs, All2 (Leaf enc P w base spare held) ts cs ∧ ∀ j u, cs[j]? = some u → ∃ b off, ad = ⟨b, off, none⟩ ∧ w.cell? ⟨b, off + (i * ts.length + j), none⟩ = some u := by
  rcases Deep.open_slice hu h with ⟨hcs, _⟩ | ⟨ad, l, c, m, n2, D, Pl, hcs, _, hl, hm, hmm, hx, hel⟩
  · simp only [List.cons.injEq, Value.slice.injEq, and_true] at hcs
    exact .inl hcs
  · simp only [List.cons.injEq, Value.slice.injEq, and_true] at hcs
    obtain ⟨rfl, rfl, rfl⟩ := hcs
    subst hx
    obtain ⟨hz, hze⟩ := Sz.slice hu hs
    simp only [List.length_map, List.length_range] at hz
    have hlm : len ≤ m := by rw [hmm]; split <;> omega
    refine .inr ⟨ad, rfl, hl, hm, ?_, fun i hi => ?_⟩
    · rw [hB] at hz
      exact Nat.le_trans (Nat.mul_le_mul_right _ (by omega)) hz
    · obtain ⟨cs, hc, ht⟩ := hel i (by omega)
      obtain ⟨hcl, hcg⟩ := cells?_get hc
      refine ⟨cs, leafs_all n n2 e ts cs _ hlf h1 (by rw [hcl, hce]) ht (hze _ (List.mem_map.2 ⟨i, by simpa using hi, rfl⟩)), fun j u hu => ?_⟩
      have hcell := hcg j u hu
      rw [hce] at hcell
      have hsp : ad.spot = none := by
        have h0 : 0 < cs.length := by have := (List.getElem?_eq_some_iff.1 hu).1; omega
        obtain ⟨cs0, hc0, _⟩ := hel 0 (by omega)
        obtain ⟨hcl0, hcg0⟩ := cells?_get hc0
        have h00 := hcg0 0 cs0[0] (List.getElem?_eq_getElem (by omega))
        have e0 : (ad.add (0 * P.cellsOf e)).add 0 = ad := by simp [Addr.add]
        rw [e0] at h00
        unfold World.cell? at h00
        split at h00
        · split at h00
          · simp at h00
          · rename_i hs; simpa using hs
        · simp at h00
      obtain ⟨b, off, sp⟩ := ad
      simp only at hsp
      subst hsp
      refine ⟨b, off, rfl, ?_⟩
      rw [Addr.add_lit, Addr.add_lit, Nat.add_assoc] at hcell
      exact hcell
end
end Go.Proofs.YtjchjpmgbmeohaaDoor

/- An account as an argument; what the listed variable reads as. -/
set_option linter.unusedSimpArgs false
set_option linter.unusedVariables false
namespace Go.Proofs.YtjchjpmgbmeohaaDoor
open Go.ChangeShapes Go.WideShapes Go.ChangeAt Go.RowKit
set_option maxRecDepth 20000

abbrev laids : List (String × DataW Unit) := [("bondstore/wide.Most", Rows.laid_bondstore_wide_Most)]
theorem gMost : Tryd.prog.globalNamed "bondstore/wide.Most" = some 0 := by kernel_rfl
theorem tMost : (Tryd.prog.globals[0]?).map (·.type) = some 24 := by kernel_rfl
theorem door_met (os : Os) (args : Array Value) : laidMetH Tryd.prog laids ((World.doorLaid Tryd.prog 400 os).forCall (fun _ _ => 0) ⟨#[], args, []⟩).memory :=
  laidMetH_of_parts3 (fuel := 8) (laidMet_of_run' 8 (by kernel_rfl) (by kernel_rfl)) (by kernel_rfl) (by kernel_rfl)
theorem most_of_laid {W : World} (h : laidMetH Tryd.prog laids W) : Most W := by
  rw [MakeChecks.laidMetH_plain _ _ _ (by kernel_rfl)] at h
  obtain ⟨ps, ⟨g0, t0, cs0, f0, p0, q0, hg0, ht0, hv0, hd0, _, _⟩, _, _⟩ := h
  obtain rfl := Option.some.inj (gMost.symm.trans hg0)
  obtain rfl := Option.some.inj (tMost.symm.trans ht0)
  obtain ⟨xs, k, rfl, hx, hcs, hxs, hel⟩ := DataW.trod_struct Tryd.underlying24 hd0
  have c1 : Tryd.prog.cellsOf 22 = 1 := by kernel_rfl
  have c2 : Tryd.prog.cellsOf 24 = 2 := by kernel_rfl
  have e0 : DataW.trod (fun _ => ()) Tryd.prog W 0 (fun _ => true) false k 22 ((cs0.toList.drop 0).take (Tryd.prog.cellsOf 22)) = xs[0]? := hel 0 _ rfl
  have e1 : DataW.trod (fun _ => ()) Tryd.prog W 0 (fun _ => true) false k 22 ((cs0.toList.drop 1).take (Tryd.prog.cellsOf 22)) = xs[1]? := hel 1 _ rfl
  rw [c1] at e0 e1
  rw [c2] at hcs
  obtain ⟨l⟩ := cs0
  match l, hcs, xs, hxs with
  | [u, v], _, [x0, x1], _ =>
    simp only [List.drop_zero, List.take_succ_cons, List.take_zero, List.drop_succ_cons, List.getElem?_cons_zero, List.getElem?_cons_succ] at e0 e1
    obtain ⟨n0, u0, v0, _⟩ := DataW.trod_int Tryd.underlying22 e0
    obtain ⟨n1, u1, v1, _⟩ := DataW.trod_int Tryd.underlying22 e1
    simp only [List.cons.injEq, and_true] at u0 u1
    subst u0 u1
    subst v0 v1
    simp only [Rows.laid_bondstore_wide_Most, Prod.mk.injEq, List.map_cons, List.map_nil, DataW.agg.injEq, List.cons.injEq, DataW.lit.injEq, Lit.int.injEq, and_true, true_and] at hx
    obtain ⟨⟨rfl, rfl⟩, _⟩ := hx
    exact ⟨by have := World.var?_cell hg0 hv0 0; simpa [M64] using this, by have := World.var?_cell hg0 hv0 1; simpa [M64] using this⟩

/-- A struct by value: its cells, leaf by leaf. -/
theorem open_agg {H : Type} {enc : TypeId × Value → H} {P : Program} {w : World} {base b0 n : Nat} {spare : Nat → Bool} {held : Bool} {r : Go.Reach} {t : TypeId} {ts : List TypeId} {fs : Array Field} {v : Value} {d : DataW H} {p : List MemPlace}
    (hs : P.underlying t = some (.struct fs)) (hl : leafs P n t = some ts) (h1 : ∀ t' ∈ ts, P.cellsOf t' = 1) (hC : P.cellsOf t = ts.length) (hv : Value.okWide P w r b0 t v) (h : DataW.Trod enc P w base spare held t v d p) (hz : Sz P t d) :
    ∃ cs : Array Value, v = .agg cs ∧ All2 (Leaf enc P w base spare held) ts cs.toList := by
  obtain ⟨cs, rfl, hsz⟩ := okWide_struct hs hv
  obtain ⟨fuel, hf⟩ := h
  exact ⟨cs, rfl, leafs_all n fuel t ts cs.toList _ hl h1 (by rw [Array.length_toList, hsz, hC]) hf hz⟩
theorem Leaf.u64 {H : Type} {enc : TypeId × Value → H} {P : Program} {w : World} {base : Nat} {spare : Nat → Bool} {held : Bool} {t : TypeId} {c : Value} (hu : P.underlying t = some (.int .u64)) (h : Leaf enc P w base spare held t c) : ∃ n, c = .int .u64 n ∧ 0 ≤ n ∧ n < 18446744073709551616 := by
  obtain ⟨n, e, hw⟩ := h.int hu
  refine ⟨n, e, ?_⟩
  simp only [Lit.wf, IntKind.min, IntKind.max, IntKind.signed, IntKind.bits, Bool.and_eq_true, decide_eq_true_eq] at hw
  simp at hw
  omega
theorem Leaf.i64 {H : Type} {enc : TypeId × Value → H} {P : Program} {w : World} {base : Nat} {spare : Nat → Bool} {held : Bool} {t : TypeId} {c : Value} (hu : P.underlying t = some (.int .i64)) (h : Leaf enc P w base spare held t c) : ∃ n, c = .int .i64 n ∧ -9223372036854775808 ≤ n ∧ n ≤ 9223372036854775807 := by
  obtain ⟨n, e, hw⟩ := h.int hu
  refine ⟨n, e, ?_⟩
  simp only [Lit.wf, IntKind.min, IntKind.max, IntKind.signed, IntKind.bits, Bool.and_eq_true, decide_eq_true_eq] at hw
  simp at hw
  omega

theorem leafs_Acc : leafs Tryd.prog 4 26 = some [22, 22, 22, 22, 22, 22, 22, 22, 22, 22, 3, 3, 3, 3] := by kernel_rfl
theorem open_acc {H : Type} {enc : TypeId × Value → H} {w : World} {base b0 : Nat} {spare : Nat → Bool} {held : Bool} {r : Go.Reach} {v : Value} {d : DataW H} {p : List MemPlace} (hv : Value.okWide Tryd.prog w r b0 26 v) (h : DataW.Trod enc Tryd.prog w base spare held 26 v d p) (hz : Sz Tryd.prog 26 d) :
    ∃ a : Acc, v = a.val ∧ a.ok := by
  obtain ⟨⟨cs⟩, rfl, hall⟩ := open_agg Tryd.underlying26 leafs_Acc (by
    have h : ([22, 3].all fun t => Tryd.prog.cellsOf t == 1) = true := by kernel_rfl
    intro t ht
    have := List.all_eq_true.1 h t (by simp at ht ⊢; omega)
    simpa using this) (by kernel_rfl) hv h hz
  have g : All2 (Leaf enc Tryd.prog w base spare held) _ cs := hall
  clear hall hv h hz
  obtain _ | ⟨l0, g⟩ := g
  obtain _ | ⟨l1, g⟩ := g
  obtain _ | ⟨l2, g⟩ := g
  obtain _ | ⟨l3, g⟩ := g
  obtain _ | ⟨l4, g⟩ := g
  obtain _ | ⟨l5, g⟩ := g
  obtain _ | ⟨l6, g⟩ := g
  obtain _ | ⟨l7, g⟩ := g
  obtain _ | ⟨l8, g⟩ := g
  obtain _ | ⟨l9, g⟩ := g
  obtain _ | ⟨l10, g⟩ := g
  obtain _ | ⟨l11, g⟩ := g
  obtain _ | ⟨l12, g⟩ := g
  obtain _ | ⟨l13, g⟩ := g
  cases g
  obtain ⟨n0, rfl, o0⟩ := l0.u64 Tryd.underlying22
  obtain ⟨n1, rfl, o1⟩ := l1.u64 Tryd.underlying22
  obtain ⟨n2, rfl, o2⟩ := l2.u64 Tryd.underlying22
  obtain ⟨n3, rfl, o3⟩ := l3.u64 Tryd.underlying22
  obtain ⟨n4, rfl, o4⟩ := l4.u64 Tryd.underlying22
  obtain ⟨n5, rfl, o5⟩ := l5.u64 Tryd.underlying22
  obtain ⟨n6, rfl, o6⟩ := l6.u64 Tryd.underlying22
  obtain ⟨n7, rfl, o7⟩ := l7.u64 Tryd.underlying22
  obtain ⟨n8, rfl, o8⟩ := l8.u64 Tryd.underlying22
  obtain ⟨n9, rfl, o9⟩ := l9.u64 Tryd.underlying22
  obtain ⟨n10, rfl, o10⟩ := l10.i64 Tryd.underlying3
  obtain ⟨n11, rfl, o11⟩ := l11.i64 Tryd.underlying3
  obtain ⟨n12, rfl, o12⟩ := l12.i64 Tryd.underlying3
  obtain ⟨n13, rfl, o13⟩ := l13.i64 Tryd.underlying3
  exact ⟨⟨⟨n0, n1⟩, ⟨n2, n3⟩, ⟨n4, n5⟩, ⟨n6, n7⟩, ⟨n8, n9⟩, n10, n11, n12, n13⟩, rfl, ⟨⟨o0.1, o0.2, o1.1, o1.2⟩, ⟨o2.1, o2.2, o3.1, o3.2⟩, ⟨o4.1, o4.2, o5.1, o5.2⟩, ⟨o6.1, o6.2, o7.1, o7.2⟩, ⟨o8.1, o8.2, o9.1, o9.2⟩, o10, o11, o12, o13⟩⟩
end Go.Proofs.YtjchjpmgbmeohaaDoor
