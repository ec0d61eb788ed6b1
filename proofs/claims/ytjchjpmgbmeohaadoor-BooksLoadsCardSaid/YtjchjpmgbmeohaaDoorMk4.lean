/- Several texts in one, for the law BooksBack: PrB, PrC, PrD, PrE, PrF, PrG, PrH, PrI, PrJ, EqTx, Xfer. Each says what it shows; conditions: what each theorem names. -/
import Derived.Test.YtjchjpmgbmeohaaDoorMk3
import Derived.Deep.MidRow
import Derived.Test.YtjchjpmgbmeohaaDoorMk1
import Derived.StillTailTactics
import Derived.Laws.MakeOwn
import Derived.Laws.OwnMore
import Derived.BigQuiet
import Derived.Deep.QuietTactic
import Derived.Deep.Cut
import Derived.Test.YtjchjpmgbmeohaaDoorProg
import Derived.KernelRfl
import Derived.Test.YtjchjpmgbmeohaaDoorMk2
import Derived.LoopN
/- Package probe: what a table's cells are (plain). -/
set_option linter.unusedSimpArgs false
set_option linter.unusedVariables false
namespace Go.Proofs.YtjchjpmgbmeohaaDoor
open Go.RowKit

structure PC where
  key : Nm
  at_ : Int
  kind : Int
def PC.cells (c : PC) : List Value := [.int .u64 c.key.hi, .int .u64 c.key.lo, .int .i64 c.at_, .int .u8 c.kind]
def PC.zero : PC := ⟨⟨0, 0⟩, 0, 0⟩
def PC.left : PC := ⟨⟨0, 0⟩, 0, 2⟩
/-- Where a name's path begins. -/
def home (n : Nat) (x : Nm) : Nat := (mix x % n).toNat
theorem home_lt {n : Nat} (h : 0 < n) (x : Nm) : home n x < n := by
  unfold home
  have h1 := Int.emod_nonneg (mix x) (show (n : Int) ≠ 0 by omega)
  have h2 := Int.emod_lt_of_pos (mix x) (show (0 : Int) < n by omega)
  omega
def knd (cs : List PC) (p : Nat) : Int := (cs[p]?.map (·.kind)).getD 0
/-- A place on the way from h: nothing ahead of it is free. -/
def Reach (cs : List PC) (h p : Nat) : Prop := ∃ d, d < cs.length ∧ p = (h + d) % cs.length ∧ ∀ j, j < d → knd cs ((h + j) % cs.length) ≠ 0
structure PInv (hm : Nat → Nm → Nat) (cs : List PC) : Prop where
  pow : ∃ e, cs.length = 2 ^ e ∧ 3 ≤ e ∧ e ≤ 30
  kinds : ∀ c ∈ cs, c.kind = 0 ∨ c.kind = 1 ∨ c.kind = 2
  uniq : ∀ (p q : Nat) (c d : PC), cs[p]? = some c → cs[q]? = some d → c.kind = 1 → d.kind = 1 → c.key = d.key → p = q
  path : ∀ (p : Nat) (c : PC), cs[p]? = some c → c.kind = 1 → Reach cs (hm cs.length c.key) p
theorem PInv.len {hm : Nat → Nm → Nat} {cs : List PC} (h : PInv hm cs) : 8 ≤ cs.length ∧ cs.length ≤ 1073741824 := by
  obtain ⟨e, h1, h2, h3⟩ := h.pow
  have a : 2 ^ 3 ≤ 2 ^ e := Nat.pow_le_pow_right (by decide) h2
  have b : 2 ^ e ≤ 2 ^ 30 := Nat.pow_le_pow_right (by decide) h3
  rw [h1]
  exact ⟨by simpa using a, by simpa using b⟩
def IsIn (cs : List PC) (x : Nm) : Prop := ∃ (p : Nat) (c : PC), cs[p]? = some c ∧ c.kind = 1 ∧ c.key = x
/-- What find tells. -/
def Fnd (hm : Nat → Nm → Nat) (cs : List PC) (x : Nm) (p : Nat) (b : Bool) : Prop :=
  p < cs.length ∧ ((b = true ∧ ∃ c : PC, cs[p]? = some c ∧ c.kind = 1 ∧ c.key = x) ∨ (b = false ∧ knd cs p ≠ 1 ∧ ¬ IsIn cs x ∧ Reach cs (hm cs.length x) p))
section
variable {hm : Nat → Nm → Nat} {cs : List PC} {x : Nm} {h j : Nat}
theorem knd_at {p : Nat} {c : PC} (hc : cs[p]? = some c) : knd cs p = c.kind := by simp [knd, hc]
theorem slot_lt (hn : 0 < cs.length) : (h + j) % cs.length < cs.length := Nat.mod_lt _ hn
/-- The free place that ends all ways. -/
theorem free_at {p : Nat} (hp : p < cs.length) (hh : h < cs.length) : ∃ d, d < cs.length ∧ (h + d) % cs.length = p := by
  by_cases hle : h ≤ p
  · exact ⟨p - h, by omega, by rw [show h + (p - h) = p by omega, Nat.mod_eq_of_lt hp]⟩
  · refine ⟨p + cs.length - h, by omega, ?_⟩
    rw [show h + (p + cs.length - h) = p + cs.length by omega, Nat.add_mod_right, Nat.mod_eq_of_lt hp]
/-- So far on the way. -/
structure Way (hm : Nat → Nm → Nat) (cs : List PC) (x : Nm) (j : Nat) (put : Option Nat) : Prop where
  pass : ∀ i, i < j → ∃ c : PC, cs[(hm cs.length x + i) % cs.length]? = some c ∧ c.kind ≠ 0 ∧ ¬ (c.kind = 1 ∧ c.key = x)
  puts : ∀ p, put = some p → p < cs.length ∧ knd cs p = 2 ∧ Reach cs (hm cs.length x) p
theorem way_zero : Way hm cs x 0 none := ⟨fun i h => by omega, fun p h => by cases h⟩
theorem way_nonfree {put : Option Nat} (h : Way hm cs x j put) : ∀ i, i < j → knd cs ((hm cs.length x + i) % cs.length) ≠ 0 := fun i hi => by
  obtain ⟨c, hc, hk, _⟩ := h.pass i hi
  rw [knd_at hc]; exact hk
theorem way_next {put put' : Option Nat} (h : Way hm cs x j put) {c : PC} (hc : cs[(hm cs.length x + j) % cs.length]? = some c) (hk : c.kind ≠ 0) (hx : ¬ (c.kind = 1 ∧ c.key = x)) (hj : j < cs.length)
    (hp : put' = put ∨ (put' = some ((hm cs.length x + j) % cs.length) ∧ c.kind = 2)) : Way hm cs x (j + 1) put' := by
  refine ⟨fun i hi => ?_, fun p e => ?_⟩
  · by_cases e : i = j
    · subst e; exact ⟨c, hc, hk, hx⟩
    · exact h.pass i (by omega)
  · rcases hp with rfl | ⟨hp, h2⟩
    · exact h.puts p e
    · rw [hp] at e
      cases e
      exact ⟨slot_lt (by omega), by rw [knd_at hc, h2], j, hj, rfl, way_nonfree h⟩
theorem way_absent {put : Option Nat} (hi : PInv hm cs) (h : Way hm cs x j put) (hfree : knd cs ((hm cs.length x + j) % cs.length) = 0) : ¬ IsIn cs x := by
  rintro ⟨p, c, hc, hk, rfl⟩
  obtain ⟨d, hd, hp, hnf⟩ := hi.path p c hc hk
  rcases Nat.lt_trichotomy d j with h1 | h1 | h1
  · obtain ⟨c', hc', _, hx⟩ := h.pass d h1
    rw [← hp, hc] at hc'
    cases hc'
    exact hx ⟨hk, rfl⟩
  · subst h1
    rw [← hp, knd_at hc, hk] at hfree
    cases hfree
  · exact hnf j h1 hfree
theorem way_end {put : Option Nat} (hi : PInv hm cs) (h : Way hm cs x j put) (hfree : knd cs ((hm cs.length x + j) % cs.length) = 0) (hj : j < cs.length) : Fnd hm cs x (put.getD ((hm cs.length x + j) % cs.length)) false := by
  have ha := way_absent hi h hfree
  have hn := way_nonfree h
  have hpt := h.puts
  unfold Fnd
  cases put with
  | none =>
    simp only [Option.getD_none]
    exact ⟨slot_lt (by omega), .inr ⟨trivial, by omega, ha, j, hj, rfl, hn⟩⟩
  | some p =>
    obtain ⟨h1, h2, h3⟩ := hpt p rfl
    simp only [Option.getD_some]
    exact ⟨h1, .inr ⟨trivial, by omega, ha, h3⟩⟩
end
end Go.Proofs.YtjchjpmgbmeohaaDoor

/- Package probe: find. -/
set_option linter.unusedSimpArgs false
set_option linter.unusedVariables false
namespace Go.Proofs.YtjchjpmgbmeohaaDoor
open Go.RowKit

def pcs (cs : List PC) : List Value := cs.flatMap PC.cells
theorem pcs_len (cs : List PC) : (pcs cs).length = cs.length * 4 := flat_len (f := PC.cells) (n := 4) (fun _ => rfl) cs
theorem pcs_get (cs : List PC) {i : Nat} (hi : i < cs.length) (j : Nat) (hj : j < 4) : (pcs cs)[i * 4 + j]? = (PC.cells cs[i])[j]? := flat_get (f := PC.cells) (n := 4) (fun _ => rfl) cs i hi j hj
/-- A table. -/
def IsP (w : World) (S : Nat → Prop) (T : Nat) (cs : List PC) (u l : Int) : Prop := Rw w S T 135 141 4 [.int .i64 u, .int .i64 l] cs.length (pcs cs)
theorem IsP.fr {w w' : World} {S S2 : Nat → Prop} {T : Nat} {cs : List PC} {u l : Int} (h : IsP w S T cs u l) (hf : Fr S2 w w') (hd : ∀ k, S k → ¬ S2 k) : IsP w' S T cs u l := Rw.fr h hf hd
theorem own_pc {w : World} {g n cap : Nat} {cs : List PC} (h : w.ownsRow 0 141 4 (.slice (some ⟨g, 0, none⟩) n cap) n (pcs cs)) (hn : cs.length = n) {i : Nat} (hi : i < cs.length) (j : Nat) (hj : j < 4) {v : Value} (hv : (PC.cells cs[i])[j]? = some v) :
    w.cell? ⟨g, i * 4 + j, none⟩ = some v := by
  rw [h.cellAt (i * 4 + j) (by omega), pcs_get cs hi j hj, hv]
theorem mod_gen (m : Int) {n : Nat} (h : 0 < n) : (((m % n).toNat : Nat) : Int) = m % n := by
  have := Int.emod_nonneg m (show (n : Int) ≠ 0 by omega)
  omega
theorem home_int {n : Nat} (h : 0 < n) (x : Nm) : ((home n x : Nat) : Int) = mix x % n := mod_gen (mix x) h
theorem slot_val {n H j : Nat} (hH : H < n) (hj : j < n) : (H + j) % n = if H + j < n then H + j else H + j - n := by
  split
  · rename_i h; exact Nat.mod_eq_of_lt h
  · rename_i h
    rw [Nat.mod_eq_sub_mod (by omega), Nat.mod_eq_of_lt (by omega)]
def gap (F n k : Nat) : Nat := if k ≤ F then F - k else F + n - k
theorem gap_at {n H fd j : Nat} (hH : H < n) (hf : fd < n) (hj : j ≤ fd) : gap ((H + fd) % n) n ((H + j) % n) = fd - j := by
  rw [slot_val hH hf, slot_val hH (by omega), gap]
  split <;> split <;> split <;> omega
def putI : Option Nat → Int
  | none => -1
  | some p => p

def FindPost (cs : List PC) (x : Nm) (w : World) (e : Ending) (w' : World) : Prop := ∃ (p : Nat) (b : Bool), e = .returned (.tuple #[.int .i64 p, .bool b]) ∧ Fnd home cs x p b ∧ Fr (fun _ => False) w w'
set_option maxRecDepth 4000 in
set_option maxHeartbeats 6400000 in
theorem find_any (w : World) (T : Nat) (S : Nat → Prop) (cs : List PC) (u l : Int) (x : Nm) (h : IsP w S T cs u l) (hi : PInv home cs) (hfree : ∃ p, p < cs.length ∧ knd cs p = 0) :
    Calls Tryd.prog 95 #[.pointer (some ⟨T, 0, none⟩), .agg #[.int .u64 x.hi, .int .u64 x.lo]] w (FindPost cs x w) := by
  obtain ⟨e2, hpw, he3, he30⟩ := hi.pow
  obtain ⟨hn8, hn30⟩ := hi.len
  obtain ⟨fp, hfp, hfk⟩ := hfree
  have hhl : home cs.length x < cs.length := home_lt (by omega) x
  obtain ⟨fd, hfd, hfs⟩ := free_at hfp hhl
  have HFk := Lib.hid (show knd cs ((home cs.length x + fd) % cs.length) = 0 from by rw [hfs]; exact hfk)
  have HI := Lib.hid hi
  obtain ⟨v, hb, ho, -, -, -⟩ := h
  obtain ⟨g, cap, rfl⟩ := own_some ho (by omega)
  have HB := Lib.hid hb
  have HO := Lib.hid ho
  have c0 := blk_cell hb 0 rfl
  obtain ⟨n, hnn⟩ : ∃ n, cs.length = n := ⟨_, rfl⟩
  have HN := Lib.hid hnn
  have hmx := mix_in x
  have hmask := and_mask (x := mix x) (hnn.symm.trans hpw) (by omega) hmx.1 hmx.2
  have hH0 : ((home n x : Nat) : Int) = mix x % n := home_int (by omega) x
  rw [← hH0] at hmask
  rw [hnn] at c0 hn8 hn30 hfd hhl
  have wm : IntKind.u64.wrap ((n : Int) - 1) = n - 1 := by rw [IntKind.wrap_u64]; omega
  have HMa := Lib.hid (fun (i : Nat) (hi : i < n) => show bits .and .u64 ((i : Int) + 1) ((n : Int) - 1) = (((i + 1) % n : Nat) : Int) from by
    have h := and_mask (x := (i : Int) + 1) (hnn.symm.trans hpw) (by omega) (by omega) (by omega)
    rw [h, Int.natCast_emod, Int.natCast_add]
    rfl)
  have HSp := Lib.hid (fun W => spread_any W x)
  have Bx := Lib.hid (heap_alloc_new w (.cells #[.int .u64 x.hi, .int .u64 x.lo] 24))
  have FA := Lib.hid ((Fr.refl (fun _ => False) w).alloc (.cells #[.int .u64 x.hi, .int .u64 x.lo] 24))
  have HBl := Lib.hid (blk_lt hb)
  have c0' := blk_cell (blk_alloc hb (.cells #[.int .u64 x.hi, .int .u64 x.lo] 24)) 0 rfl
  rw [hnn] at c0'
  obtain ⟨H0, hH⟩ : ∃ H0, home n x = H0 := ⟨_, rfl⟩
  have HH := Lib.hid hH
  rw [hH] at hmask hhl
  clear hi hpw he3 he30 hfp hfk hfs hb ho hnn hH0 hH c0
  go_enter Tryd.func95, Tryd.ntmps95
  go_wp2_with fail
  refine (HSp.out _).mono ?_
  rintro e w1 ⟨rfl, f1⟩
  have F1 := Lib.hid (FA.out.then_ f1 (fun _ h => h.elim))
  have Bx1 := Lib.hid (f1.blk Bx.out (fun h => h))
  clear f1 c0'
  go_wp2_with fail
  have HIx := Lib.hid HI.out
  go_loopw [7, 8] (fun pv iv wr => ∃ (j i : Nat) (put : Option Nat), j ≤ fd ∧ iv = .int .u64 i ∧ (H0 + j) % n = i ∧ pv = .int .i64 (putI put) ∧ Way home cs x j put ∧ Fr (fun _ => False) w wr ∧ wr.heap[w.heap.size]? = some (.cells #[.int .u64 x.hi, .int .u64 x.lo] 24 (0, 0))) (fun _ iv wr => gap ((H0 + fd) % n) n (intOf iv).toNat)
  case atStart => exact ⟨0, H0, none, Nat.zero_le _, rfl, by rw [Nat.add_zero, Nat.mod_eq_of_lt hhl], rfl, way_zero, F1.out, Bx1.out⟩
  case round =>
    obtain ⟨j, i, put, hj, rfl, hie, rfl, hway, hf, hbx⟩ := hrel
    have HWay := Lib.hid hway
    have HF := Lib.hid hf
    have HBx := Lib.hid hbx
    have hb1 := hf.blk HB.out (fun h => h)
    have c0 := blk_cell hb1 0 rfl
    rw [HN.out] at c0
    have ho1 := own_fr HO.out hf (fun _ _ h => h)
    rw [HN.out] at ho1
    have hjn : j < n := by omega
    have hin : i < n := by rw [← hie]; exact Nat.mod_lt _ (by omega)
    have hil : i < cs.length := by rw [HN.out]; exact hin
    have HIe := Lib.hid hie
    obtain ⟨c, hce⟩ : ∃ c, cs[i] = c := ⟨_, rfl⟩
    have hget : cs[i]? = some c := by rw [List.getElem?_eq_getElem hil, hce]
    have HGt := Lib.hid (show cs[(home cs.length x + j) % cs.length]? = some c from by rw [HN.out, HH.out, hie]; exact hget)
    have hmem : c ∈ cs := hce ▸ List.getElem_mem hil
    have hkk := HI.out.kinds c hmem
    have HGap := Lib.hid (fun (k : Nat) (hk : k ≤ fd) => gap_at (n := n) (H := H0) (fd := fd) (j := k) hhl (by omega) hk)
    obtain ⟨⟨chi, clo⟩, cat, ckd⟩ := c
    have p0 := own_pc ho1 HN.out hil 0 (by omega) (v := .int .u64 chi) (by rw [hce]; rfl)
    rw [Nat.add_zero] at p0
    have p1 := own_pc ho1 HN.out hil 1 (by omega) (v := .int .u64 clo) (by rw [hce]; rfl)
    have p2 := own_pc ho1 HN.out hil 2 (by omega) (v := .int .i64 cat) (by rw [hce]; rfl)
    have p3 := own_pc ho1 HN.out hil 3 (by omega) (v := .int .u8 ckd) (by rw [hce]; rfl)
    have Hc := Lib.hid (heap_alloc_new wr (.cells #[.int .u64 chi, .int .u64 clo, .int .i64 cat, .int .u8 ckd] 141))
    have FC := Lib.hid (hf.alloc (.cells #[.int .u64 chi, .int .u64 clo, .int .i64 cat, .int .u8 ckd] 141))
    have HBx2 := Lib.hid (blk_alloc hbx (.cells #[.int .u64 chi, .int .u64 clo, .int .i64 cat, .int .u8 ckd] 141))
    have x0 := blk_cell HBx2.out 0 rfl
    have x1 := blk_cell HBx2.out 1 rfl
    have he := eqm_Num
    have hI1 : (i : Int) < n := by omega
    have hI0 : (0 : Int) ≤ i := by omega
    have wi : IntKind.i64.wrap (i : Int) = i := IntWalk.i64_in _ (by omega)
    have wu : IntKind.u64.wrap ((i : Int) + 1) = i + 1 := by rw [IntKind.wrap_u64]; omega
    have hnx := HMa.out i hin
    have HNx := Lib.hid (show (i + 1) % n = (H0 + (j + 1)) % n from by rw [← hie, Nat.mod_add_mod, Nat.add_assoc])
    have HMs := Lib.hid (show j + 1 ≤ fd → gap ((H0 + fd) % n) n (((i : Int) + 1) % (n : Int)).toNat < gap ((H0 + fd) % n) n ((i : Int)).toNat from fun h => by
      have e1 : (((i : Int) + 1) % (n : Int)).toNat = (i + 1) % n := by
        rw [show ((i : Int) + 1) = ((i + 1 : Nat) : Int) from rfl, ← Int.natCast_emod, Int.toNat_natCast]
      rw [e1, Int.toNat_natCast, HNx.out, ← hie, HGap.out j hj, gap_at hhl (by omega) h]
      omega)
    clear hway hf hbx hb1 ho1 hie hce hget hmem hil
    rcases hkk with hk | hk | hk
    · have hk : ckd = 0 := hk
      subst hk
      have HE := Lib.hid (way_end HI.out HWay.out (by rw [knd_at HGt.out]) (by rw [HN.out]; omega))
      cases put with
      | none =>
        have hpi : putI none = -1 := rfl
        rw [hpi]
        go_wp2_with fail
        go_ret2
        refine ⟨i, false, rfl, ?_, FC.out⟩
        have h := HE.out
        rw [Option.getD_none, HN.out, HH.out, HIe.out] at h
        exact h
      | some p =>
        have hpi : putI (some p) = p := rfl
        have hp0 : ¬ (p : Int) < 0 := by omega
        rw [hpi]
        go_wp2_with fail
        go_ret2
        exact ⟨p, false, rfl, HE.out, FC.out⟩
    · have hk : ckd = 1 := hk
      subst hk
      by_cases hkx : chi = x.hi ∧ clo = x.lo
      · obtain ⟨hk1, hk2⟩ := hkx
        have b1 : (chi == x.hi) = true := by simpa using hk1
        have b2 : (clo == x.lo) = true := by simpa using hk2
        have HFd := Lib.hid (show Fnd home cs x i true from ⟨by rw [HN.out]; exact hin, .inl ⟨rfl, ⟨⟨chi, clo⟩, cat, 1⟩, by have h := HGt.out; rw [HN.out, HH.out, HIe.out] at h; exact h, rfl, by obtain ⟨h, l⟩ := x; simp only at hk1 hk2; rw [hk1, hk2]⟩⟩)
        clear hk1 hk2
        go_wp2_with fail
        go_ret2
        exact ⟨i, true, rfl, HFd.out, by (repeat (first | (with_reducible exact Fr.refl _ _) | (with_reducible refine Fr.drew ?_) | (with_reducible refine Fr.drewN ?_ _) | (with_reducible refine Fr.alloc ?_ _) | (with_reducible refine Fr.set1 ?_ _) | (with_reducible refine Fr.setNew ?_ (by omega) _))) <;> exact HF.out⟩
      · have hne : ¬ ((1 : Int) = 1 ∧ (⟨chi, clo⟩ : Nm) = x) := fun h => hkx (by rw [← h.2]; exact ⟨rfl, rfl⟩)
        have HW2 := Lib.hid (way_next (put' := put) HWay.out HGt.out (show (1 : Int) ≠ 0 by decide) hne (by rw [HN.out]; omega) (.inl rfl))
        have hjd : j + 1 ≤ fd := by
          apply Decidable.byContradiction
          intro hc
          have e : j = fd := by omega
          have h := HFk.out
          rw [← e, knd_at HGt.out] at h
          exact absurd h (show (1 : Int) ≠ 0 by decide)
        cases q1 : (chi == x.hi)
        all_goals
          cases q2 : (clo == x.lo)
        all_goals first
          | (exfalso; apply hkx; exact ⟨by simpa using q1, by simpa using q2⟩)
          | (go_wp2_with fail
             go_roundw
             case rel => exact ⟨j + 1, (i + 1) % n, put, hjd, by go_num, HNx.out.symm, rfl, HW2.out, by (repeat (first | (with_reducible exact Fr.refl _ _) | (with_reducible refine Fr.drew ?_) | (with_reducible refine Fr.drewN ?_ _) | (with_reducible refine Fr.alloc ?_ _) | (with_reducible refine Fr.set1 ?_ _) | (with_reducible refine Fr.setNew ?_ (by omega) _))) <;> exact HF.out, by (repeat (first | (with_reducible refine blk_drew ?_) | (with_reducible refine blk_drewN ?_ _) | (with_reducible refine blk_alloc ?_ _) | (with_reducible refine blk_far2 ?_ (by omega) _))) <;> exact HBx.out⟩
             case measure => exact HMs.out hjd)
    · have hk : ckd = 2 := hk
      subst hk
      have hjd : j + 1 ≤ fd := by
        apply Decidable.byContradiction
        intro hc
        have e : j = fd := by omega
        have h := HFk.out
        rw [← e, knd_at HGt.out] at h
        exact absurd h (show (2 : Int) ≠ 0 by decide)
      have hne : ¬ ((2 : Int) = 1 ∧ (⟨chi, clo⟩ : Nm) = x) := fun h => absurd h.1 (by decide)
      cases put with
      | none =>
        have hpi : putI none = -1 := rfl
        rw [hpi]
        have HW2 := Lib.hid (way_next (put' := some i) HWay.out HGt.out (show (2 : Int) ≠ 0 by decide) hne (by rw [HN.out]; omega) (.inr ⟨by rw [HN.out, HH.out, HIe.out], rfl⟩))
        go_wp2_with fail
        go_roundw
        case rel => exact ⟨j + 1, (i + 1) % n, some i, hjd, by go_num, HNx.out.symm, rfl, HW2.out, by (repeat (first | (with_reducible exact Fr.refl _ _) | (with_reducible refine Fr.drew ?_) | (with_reducible refine Fr.drewN ?_ _) | (with_reducible refine Fr.alloc ?_ _) | (with_reducible refine Fr.set1 ?_ _) | (with_reducible refine Fr.setNew ?_ (by omega) _))) <;> exact HF.out, by (repeat (first | (with_reducible refine blk_drew ?_) | (with_reducible refine blk_drewN ?_ _) | (with_reducible refine blk_alloc ?_ _) | (with_reducible refine blk_far2 ?_ (by omega) _))) <;> exact HBx.out⟩
        case measure => exact HMs.out hjd
      | some p =>
        have hpi : putI (some p) = p := rfl
        have hp0 : ¬ (p : Int) < 0 := by omega
        rw [hpi]
        have HW2 := Lib.hid (way_next (put' := some p) HWay.out HGt.out (show (2 : Int) ≠ 0 by decide) hne (by rw [HN.out]; omega) (.inl rfl))
        go_wp2_with fail
        go_roundw
        case rel => exact ⟨j + 1, (i + 1) % n, some p, hjd, by go_num, HNx.out.symm, rfl, HW2.out, by (repeat (first | (with_reducible exact Fr.refl _ _) | (with_reducible refine Fr.drew ?_) | (with_reducible refine Fr.drewN ?_ _) | (with_reducible refine Fr.alloc ?_ _) | (with_reducible refine Fr.set1 ?_ _) | (with_reducible refine Fr.setNew ?_ (by omega) _))) <;> exact HF.out, by (repeat (first | (with_reducible refine blk_drew ?_) | (with_reducible refine blk_drewN ?_ _) | (with_reducible refine blk_alloc ?_ _) | (with_reducible refine blk_far2 ?_ (by omega) _))) <;> exact HBx.out⟩
        case measure => exact HMs.out hjd
end Go.Proofs.YtjchjpmgbmeohaaDoor

/- Package probe: cells that turn (plain). -/
set_option linter.unusedSimpArgs false
set_option linter.unusedVariables false
namespace Go.Proofs.YtjchjpmgbmeohaaDoor
open Go.RowKit

/-- How many cells are of a kind. -/
def cnt (k : Int) (cs : List PC) : Nat := (cs.filter (fun c => c.kind == k)).length
theorem cnt_set {cs : List PC} {p : Nat} {c d : PC} (k : Int) (hc : cs[p]? = some c) : cnt k (cs.set p d) + (if c.kind = k then 1 else 0) = cnt k cs + (if d.kind = k then 1 else 0) := by
  induction cs generalizing p with
  | nil => simp at hc
  | cons x xs ih =>
    cases p with
    | zero =>
      simp only [List.getElem?_cons_zero, Option.some.injEq] at hc
      subst hc
      simp only [List.set_cons_zero, cnt, List.filter_cons, beq_iff_eq]
      split <;> split <;> simp <;> omega
    | succ p =>
      have hc : xs[p]? = some c := by simpa using hc
      have h := ih hc
      simp only [List.set_cons_succ, cnt, List.filter_cons, beq_iff_eq] at h ⊢
      split <;> (try simp only [List.length_cons]) <;> omega
theorem cnt_all {cs : List PC} (h : ∀ c ∈ cs, c.kind = 0 ∨ c.kind = 1 ∨ c.kind = 2) : cnt 0 cs + cnt 1 cs + cnt 2 cs = cs.length := by
  induction cs with
  | nil => rfl
  | cons x xs ih =>
    have h1 := ih (fun c hc => h c (List.mem_cons_of_mem _ hc))
    have h2 := h x (List.mem_cons_self ..)
    simp only [cnt, List.filter_cons, beq_iff_eq, List.length_cons] at h1 ⊢
    rcases h2 with e | e | e
    · simp [e]; omega
    · simp [e]; omega
    · simp [e]; omega
theorem cnt_pos {cs : List PC} {k : Int} (h : 0 < cnt k cs) : ∃ (p : Nat) (c : PC), cs[p]? = some c ∧ c.kind = k := by
  obtain ⟨c, hc⟩ := List.exists_mem_of_length_pos h
  rw [List.mem_filter] at hc
  obtain ⟨p, hp, rfl⟩ := List.getElem_of_mem hc.1
  exact ⟨p, cs[p], List.getElem?_eq_getElem hp, by simpa using hc.2⟩
theorem free_of_cnt {cs : List PC} (h : 0 < cnt 0 cs) : ∃ p, p < cs.length ∧ knd cs p = 0 := by
  obtain ⟨p, c, hc, hk⟩ := cnt_pos h
  exact ⟨p, (List.getElem?_eq_some_iff.1 hc).1, by rw [knd_at hc, hk]⟩
section
variable {hm : Nat → Nm → Nat} {cs : List PC} {p : Nat}
theorem get_set_ne {q : Nat} {d : PC} (h : p ≠ q) : (cs.set p d)[q]? = cs[q]? := List.getElem?_set_ne h
theorem knd_set {d : PC} (hp : p < cs.length) (q : Nat) : knd (cs.set p d) q = if p = q then d.kind else knd cs q := by
  by_cases e : p = q
  · subst e; rw [if_pos rfl, knd, List.getElem?_set_self hp]; rfl
  · rw [if_neg e, knd, get_set_ne e, knd]
theorem reach_set {d : PC} (hp : p < cs.length) (hd : d.kind ≠ 0) {h q : Nat} (hr : Reach cs h q) : Reach (cs.set p d) h q := by
  obtain ⟨e, he, hq, hn⟩ := hr
  refine ⟨e, by simpa using he, by simpa using hq, fun j hj => ?_⟩
  rw [List.length_set, knd_set hp]
  split
  · exact hd
  · exact hn j hj
/-- A cell is left behind. -/
theorem PInv.drop (h : PInv hm cs) {c d : PC} (hc : cs[p]? = some c) (hd : d.kind = 2) : PInv hm (cs.set p d) := by
  have hp := (List.getElem?_eq_some_iff.1 hc).1
  have hd0 : d.kind ≠ 0 := by omega
  have old : ∀ (q : Nat) (e : PC), (cs.set p d)[q]? = some e → e.kind = 1 → q ≠ p ∧ cs[q]? = some e := fun q e he hk => by
    by_cases hq : p = q
    · subst hq
      rw [List.getElem?_set_self hp] at he
      cases he
      omega
    · rw [get_set_ne hq] at he
      exact ⟨fun h => hq h.symm, he⟩
  refine ⟨by simpa using h.pow, fun e he => ?_, fun q r e f he hf hk hl hkey => ?_, fun q e he hk => ?_⟩
  · rcases List.mem_or_eq_of_mem_set he with he | rfl
    · exact h.kinds e he
    · exact .inr (.inr hd)
  · exact h.uniq q r e f (old q e he hk).2 (old r f hf hl).2 hk hl hkey
  · rw [List.length_set]
    exact reach_set hp hd0 (h.path q e (old q e he hk).2 hk)
/-- A used cell's place is written. -/
theorem PInv.again (h : PInv hm cs) {c : PC} (hc : cs[p]? = some c) (hk : c.kind = 1) (a : Int) : PInv hm (cs.set p ⟨c.key, a, 1⟩) := by
  have hp := (List.getElem?_eq_some_iff.1 hc).1
  have hd0 : (⟨c.key, a, 1⟩ : PC).kind ≠ 0 := by show (1 : Int) ≠ 0; omega
  have old : ∀ (q : Nat) (e : PC), (cs.set p ⟨c.key, a, 1⟩)[q]? = some e → e.kind = 1 → ∃ e' : PC, cs[q]? = some e' ∧ e'.kind = 1 ∧ e'.key = e.key := fun q e he hk2 => by
    by_cases hq : p = q
    · subst hq
      rw [List.getElem?_set_self hp] at he
      cases he
      exact ⟨c, hc, hk, rfl⟩
    · rw [get_set_ne hq] at he
      exact ⟨e, he, hk2, rfl⟩
  refine ⟨by simpa using h.pow, fun e he => ?_, fun q r e f he hf hk hl hkey => ?_, fun q e he hk => ?_⟩
  · rcases List.mem_or_eq_of_mem_set he with he | rfl
    · exact h.kinds e he
    · exact .inr (.inl rfl)
  · obtain ⟨e', h1, h2, h3⟩ := old q e he hk
    obtain ⟨f', g1, g2, g3⟩ := old r f hf hl
    exact h.uniq q r e' f' h1 g1 h2 g2 (by rw [h3, g3, hkey])
  · obtain ⟨e', h1, h2, h3⟩ := old q e he hk
    rw [List.length_set, ← h3]
    exact reach_set hp hd0 (h.path q e' h1 h2)
/-- A new name, where find told. -/
theorem PInv.put (h : PInv hm cs) {c : PC} (hc : cs[p]? = some c) (hk : c.kind ≠ 1) {x : Nm} (a : Int) (hno : ¬ IsIn cs x) (hr : Reach cs (hm cs.length x) p) : PInv hm (cs.set p ⟨x, a, 1⟩) := by
  have hp := (List.getElem?_eq_some_iff.1 hc).1
  have hd0 : (⟨x, a, 1⟩ : PC).kind ≠ 0 := by show (1 : Int) ≠ 0; omega
  have old : ∀ (q : Nat) (e : PC), (cs.set p ⟨x, a, 1⟩)[q]? = some e → e.kind = 1 → (q = p ∧ e.key = x) ∨ (q ≠ p ∧ cs[q]? = some e ∧ e.key ≠ x) := fun q e he hk2 => by
    by_cases hq : p = q
    · subst hq
      rw [List.getElem?_set_self hp] at he
      cases he
      exact .inl ⟨rfl, rfl⟩
    · rw [get_set_ne hq] at he
      exact .inr ⟨fun h => hq h.symm, he, fun hx => hno ⟨q, e, he, hk2, hx⟩⟩
  refine ⟨by simpa using h.pow, fun e he => ?_, fun q r e f he hf hk hl hkey => ?_, fun q e he hk => ?_⟩
  · rcases List.mem_or_eq_of_mem_set he with he | rfl
    · exact h.kinds e he
    · exact .inr (.inl rfl)
  · rcases old q e he hk with ⟨h1, h2⟩ | ⟨h1, h2, h3⟩
    · rcases old r f hf hl with ⟨g1, g2⟩ | ⟨g1, g2, g3⟩
      · rw [h1, g1]
      · exact absurd (by rw [← hkey, h2]) g3
    · rcases old r f hf hl with ⟨g1, g2⟩ | ⟨g1, g2, g3⟩
      · exact absurd (by rw [hkey, g2]) h3
      · exact h.uniq q r e f h2 g2 hk hl hkey
  · rw [List.length_set]
    rcases old q e he hk with ⟨h1, h2⟩ | ⟨h1, h2, h3⟩
    · rw [h1, h2]; exact reach_set hp hd0 hr
    · exact reach_set hp hd0 (h.path q e h2 hk)
theorem pinv_empty {n e : Nat} (hn : n = 2 ^ e) (h3 : 3 ≤ e) (h30 : e ≤ 30) : PInv hm (List.replicate n PC.zero) := by
  have z : ∀ (q : Nat) (c : PC), (List.replicate n PC.zero)[q]? = some c → c.kind = 1 → False := fun q c hc hk => by
    have := List.mem_of_getElem? hc
    rw [List.mem_replicate] at this
    rw [this.2] at hk
    exact absurd hk (by decide)
  refine ⟨⟨e, by rw [List.length_replicate, hn], h3, h30⟩, fun c hc => ?_, fun q r c d hc hd hk => (z q c hc hk).elim, fun q c hc hk => (z q c hc hk).elim⟩
  rw [List.mem_replicate] at hc
  rw [hc.2]
  exact .inl rfl
/-- A name, and its place. -/
def Has (cs : List PC) (x : Nm) (a : Int) : Prop := ∃ (p : Nat) (c : PC), cs[p]? = some c ∧ c.kind = 1 ∧ c.key = x ∧ c.at_ = a
theorem has_in {x : Nm} {a : Int} (h : Has cs x a) : IsIn cs x := by obtain ⟨p, c, h1, h2, h3, _⟩ := h; exact ⟨p, c, h1, h2, h3⟩
theorem has_one (h : PInv hm cs) {x : Nm} {a b : Int} (h1 : Has cs x a) (h2 : Has cs x b) : a = b := by
  obtain ⟨p, c, c1, c2, c3, rfl⟩ := h1
  obtain ⟨q, d, d1, d2, d3, rfl⟩ := h2
  have e := h.uniq p q c d c1 d1 c2 d2 (by rw [c3, d3])
  subst e
  rw [c1] at d1
  cases d1
  rfl
theorem has_put {c : PC} (hc : cs[p]? = some c) (hk : c.kind ≠ 1) {x : Nm} {a : Int} (hno : ¬ IsIn cs x) (y : Nm) (b : Int) : Has (cs.set p ⟨x, a, 1⟩) y b ↔ (Has cs y b) ∨ (y = x ∧ b = a) := by
  have hp := (List.getElem?_eq_some_iff.1 hc).1
  constructor
  · rintro ⟨q, d, hd, h1, h2, h3⟩
    by_cases hq : p = q
    · subst hq
      rw [List.getElem?_set_self hp] at hd
      cases hd
      exact .inr ⟨h2.symm, h3.symm⟩
    · rw [get_set_ne hq] at hd
      exact .inl ⟨q, d, hd, h1, h2, h3⟩
  · rintro (⟨q, d, hd, h1, h2, h3⟩ | ⟨rfl, rfl⟩)
    · refine ⟨q, d, ?_, h1, h2, h3⟩
      rw [get_set_ne (fun e => by subst e; rw [hc] at hd; cases hd; exact hk h1)]
      exact hd
    · exact ⟨p, _, List.getElem?_set_self hp, rfl, rfl, rfl⟩
theorem has_again (h : PInv hm cs) {c : PC} (hc : cs[p]? = some c) (hk : c.kind = 1) {a : Int} (y : Nm) (b : Int) : Has (cs.set p ⟨c.key, a, 1⟩) y b ↔ (Has cs y b ∧ y ≠ c.key) ∨ (y = c.key ∧ b = a) := by
  have hp := (List.getElem?_eq_some_iff.1 hc).1
  constructor
  · rintro ⟨q, d, hd, h1, h2, h3⟩
    by_cases hq : p = q
    · subst hq
      rw [List.getElem?_set_self hp] at hd
      cases hd
      exact .inr ⟨h2.symm, h3.symm⟩
    · rw [get_set_ne hq] at hd
      exact .inl ⟨⟨q, d, hd, h1, h2, h3⟩, fun e => hq (h.uniq p q c d hc hd hk h1 (by rw [h2, e]))⟩
  · rintro (⟨⟨q, d, hd, h1, h2, h3⟩, hne⟩ | ⟨rfl, rfl⟩)
    · refine ⟨q, d, ?_, h1, h2, h3⟩
      rw [get_set_ne (fun e => by subst e; rw [hc] at hd; cases hd; exact hne h2.symm)]
      exact hd
    · exact ⟨p, _, List.getElem?_set_self hp, rfl, rfl, rfl⟩
theorem has_drop (h : PInv hm cs) {c d : PC} (hc : cs[p]? = some c) (hk : c.kind = 1) (hd : d.kind = 2) (y : Nm) (b : Int) : Has (cs.set p d) y b ↔ Has cs y b ∧ y ≠ c.key := by
  have hp := (List.getElem?_eq_some_iff.1 hc).1
  constructor
  · rintro ⟨q, e, he, h1, h2, h3⟩
    by_cases hq : p = q
    · subst hq
      rw [List.getElem?_set_self hp] at he
      cases he
      omega
    · rw [get_set_ne hq] at he
      exact ⟨⟨q, e, he, h1, h2, h3⟩, fun ey => hq (h.uniq p q c e hc he hk h1 (by rw [h2, ey]))⟩
  · rintro ⟨⟨q, e, he, h1, h2, h3⟩, hne⟩
    refine ⟨q, e, ?_, h1, h2, h3⟩
    rw [get_set_ne (fun eq => by subst eq; rw [hc] at he; cases he; exact hne h2.symm)]
    exact he
end
end Go.Proofs.YtjchjpmgbmeohaaDoor

/- Package probe: a cell stored; Get; Drop. -/
set_option linter.unusedSimpArgs false
set_option linter.unusedVariables false
namespace Go.Proofs.YtjchjpmgbmeohaaDoor
open Go.RowKit

def setL (vs : List Value) : Nat → List Value → List Value
  | _, [] => vs
  | o, u :: us => setL (vs.set o u) (o + 1) us
theorem setL_get : ∀ (us : List Value) (vs : List Value) (o j : Nat), (setL vs o us)[j]? = if j < o then vs[j]? else if j < o + us.length ∧ j < vs.length then us[j - o]? else vs[j]?
  | [], vs, o, j => by simp [setL]; intro _ _; omega
  | u :: us, vs, o, j => by
    rw [setL, setL_get us (vs.set o u) (o + 1) j, List.length_set]
    by_cases h1 : j < o
    · rw [if_pos (by omega), if_pos h1, List.getElem?_set_ne (by omega)]
    · rw [if_neg h1]
      by_cases h2 : j = o
      · subst h2
        rw [if_pos (by omega)]
        by_cases h3 : j < vs.length
        · rw [if_pos ⟨by simp, h3⟩, List.getElem?_set_self h3]; simp
        · rw [if_neg (fun h => h3 h.2), List.getElem?_eq_none (by simpa using h3), List.getElem?_eq_none (by simpa using h3)]
      · rw [if_neg (by omega), List.getElem?_set_ne (by omega)]
        by_cases h3 : j < o + (u :: us).length ∧ j < vs.length
        · rw [if_pos ⟨by simp at h3; omega, h3.2⟩, if_pos h3, show j - o = (j - (o + 1)) + 1 by omega, List.getElem?_cons_succ]
        · rw [if_neg (fun h => h3 ⟨by simp; omega, h.2⟩), if_neg h3]
theorem setL_len : ∀ (us : List Value) (vs : List Value) (o : Nat), (setL vs o us).length = vs.length
  | [], _, _ => rfl
  | u :: us, vs, o => by rw [setL, setL_len us, List.length_set]
theorem own_setCells {w : World} {et : TypeId} {sz n g cap : Nat} {vs : List Value} : ∀ (us : List Value) (o : Nat) (w : World) (vs : List Value), w.ownsRow 0 et sz (.slice (some ⟨g, 0, none⟩) n cap) n vs → (w.setCells g o us).ownsRow 0 et sz (.slice (some ⟨g, 0, none⟩) n cap) n (setL vs o us)
  | [], _, _, _, h => h
  | u :: us, o, w, vs, h => own_setCells (w := w) (vs := vs) us (o + 1) _ _ (h.stored o u).1
theorem setCells_size (b : Nat) : ∀ (vs : List Value) (o : Nat) (w : World), (w.setCells b o vs).heap.size = w.heap.size
  | [], _, _ => rfl
  | v :: vs, o, w => by rw [World.setCells, setCells_size b vs]; simp [World.setCell]
theorem pcs_set {cs : List PC} {p : Nat} (hp : p < cs.length) (d : PC) : setL (pcs cs) (p * 4) d.cells = pcs (cs.set p d) := by
  apply List.ext_getElem?
  intro j
  have hdl : d.cells.length = 4 := rfl
  rw [setL_get, hdl, pcs_len]
  by_cases hj : j < cs.length * 4
  · have hq : j / 4 < cs.length := by omega
    have hr : j % 4 < 4 := Nat.mod_lt _ (by decide)
    have ej : j = (j / 4) * 4 + j % 4 := by omega
    have e1 : (pcs (cs.set p d))[j]? = (PC.cells ((cs.set p d)[j / 4]'(by simpa using hq)))[j % 4]? := by
      have := pcs_get (cs.set p d) (i := j / 4) (by simpa using hq) (j % 4) hr
      rw [← ej] at this
      exact this
    have e2 : (pcs cs)[j]? = (PC.cells cs[j / 4])[j % 4]? := by
      have := pcs_get cs hq (j % 4) hr
      rw [← ej] at this
      exact this
    rw [e1, List.getElem_set]
    by_cases h1 : j < p * 4
    · rw [if_pos h1, if_neg (by omega), e2]
    · rw [if_neg h1]
      by_cases h2 : j < p * 4 + 4
      · rw [if_pos ⟨h2, hj⟩, if_pos (by omega), show j - p * 4 = j % 4 by omega]
      · rw [if_neg (fun h => h2 h.1), if_neg (by omega), e2]
  · have hl : (pcs (cs.set p d)).length = cs.length * 4 := by rw [pcs_len, List.length_set]
    rw [List.getElem?_eq_none (l := pcs (cs.set p d)) (by omega)]
    split
    · rw [List.getElem?_eq_none (by rw [pcs_len]; omega)]
    · rw [if_neg (fun h => hj h.2), List.getElem?_eq_none (by rw [pcs_len]; omega)]
/-- A cell of a table is stored whole: the world behind. -/
theorem isP_store {w : World} {S : Nat → Prop} {T g cap p : Nat} {cs : List PC} {u l : Int} (hb : w.heap[T]? = some (.cells #[.slice (some ⟨g, 0, none⟩) cs.length cap, .int .i64 u, .int .i64 l] 135 (0, 0))) (h : IsP w S T cs u l) (hp : p < cs.length) (d : PC) :
    w.there g (p * 4) 4 ∧ IsP (w.setCells g (p * 4) d.cells) S T (cs.set p d) u l ∧ (w.setCells g (p * 4) d.cells).heap[T]? = some (.cells #[.slice (some ⟨g, 0, none⟩) cs.length cap, .int .i64 u, .int .i64 l] 135 (0, 0)) ∧ Fr S w (w.setCells g (p * 4) d.cells) := by
  obtain ⟨v, hb2, ho, hS, hSv, hl⟩ := h
  rw [hb] at hb2
  simp only [Option.some.injEq, Obj.cells.injEq, and_true] at hb2
  have hv : v = .slice (some ⟨g, 0, none⟩) cs.length cap := by
    have h0 := congrArg (fun a : Array Value => a[0]?) hb2
    simpa using h0.symm
  subst hv
  have hg := hSv g rfl
  have hfr := setCells_fr g d.cells (p * 4) w
  have hbT := hfr.blk hb (fun h => hg.2 h.symm)
  refine ⟨fun j hj => ⟨?_, ho.frozenAt _⟩, ⟨_, hbT, ?_, hS, hSv, fun k hk => ?_⟩, hbT, hfr.mono (fun k hk => by rw [hk]; exact hg.1)⟩
  · have := ho.cellAt (p * 4 + j) (by omega)
    rw [this, List.getElem?_eq_getElem (by rw [pcs_len]; omega)]
    rfl
  · have h := own_setCells (w := w) (vs := pcs cs) d.cells (p * 4) w (pcs cs) ho
    rw [pcs_set hp] at h
    rw [List.length_set]
    exact h
  · rw [setCells_size]; exact hl k hk
/-- .. as a step of a walk. -/
theorem wpList_store_pc {P : Program} {ops : Array Oper} {rest : List Oper} {op : Oper} {a : Act} {w : World} {Q : Exit → Act → World → Prop} (hgd : op.guard = none) (x y : Operand) (ho : op.op = .store 141 x y)
    {S : Nat → Prop} {T g cap p : Nat} {cs : List PC} {u l : Int} (d : PC) (hx : a.eval x = .pointer (some ⟨g, p * 4, none⟩)) (hy : a.eval y = .agg d.cells.toArray)
    (hb : w.heap[T]? = some (.cells #[.slice (some ⟨g, 0, none⟩) cs.length cap, .int .i64 u, .int .i64 l] 135 (0, 0))) (h : IsP w S T cs u l) (hp : p < cs.length) (hi : (P.info? 141).map (·.size) = some 4)
    (k : ∀ w2, w2.heap[T]? = some (.cells #[.slice (some ⟨g, 0, none⟩) cs.length cap, .int .i64 u, .int .i64 l] 135 (0, 0)) → IsP w2 S T (cs.set p d) u l → Fr S w w2 → wpList P ops Q rest (a.put op.dst undef) w2) : wpList P ops Q (op :: rest) a w := by
  obtain ⟨h1, h2, h3, h4⟩ := isP_store hb h hp d
  exact wpList_store_mid hgd 141 x y ho g (p * 4) d.cells.toArray hx hy h1 hi (by simp [PC.cells, Value.oneCell']) (k _ h3 h2 h4)
/-- A count is stored. -/
theorem IsP.set1 {w : World} {S : Nat → Prop} {T : Nat} {cs : List PC} {u l : Int} (h : IsP w S T cs u l) (u' : Int) :
    IsP (w.setCell ⟨T, 1, none⟩ (.int .i64 u')) S T cs u' l ∧ Fr S w (w.setCell ⟨T, 1, none⟩ (.int .i64 u')) := by
  obtain ⟨v, hb, ho, hS, hSv, hl⟩ := h
  have hf := (Fr.refl (fun k => k = T) w).setCell (p := ⟨T, 1, none⟩) (.inl rfl) (.int .i64 u')
  have hb2 := blk_set hb 1 (.int .i64 u')
  exact ⟨⟨v, by simpa using hb2, own_fr ho hf (fun k hk => (hSv k hk).2), hS, hSv, fun k hk => by have := hl k hk; simpa [World.setCell] using this⟩, hf.mono (fun k hk => by rw [hk]; exact hS)⟩
theorem IsP.set2 {w : World} {S : Nat → Prop} {T : Nat} {cs : List PC} {u l : Int} (h : IsP w S T cs u l) (l' : Int) :
    IsP (w.setCell ⟨T, 2, none⟩ (.int .i64 l')) S T cs u l' ∧ Fr S w (w.setCell ⟨T, 2, none⟩ (.int .i64 l')) := by
  obtain ⟨v, hb, ho, hS, hSv, hl⟩ := h
  have hf := (Fr.refl (fun k => k = T) w).setCell (p := ⟨T, 2, none⟩) (.inl rfl) (.int .i64 l')
  have hb2 := blk_set hb 2 (.int .i64 l')
  exact ⟨⟨v, by simpa using hb2, own_fr ho hf (fun k hk => (hSv k hk).2), hS, hSv, fun k hk => by have := hl k hk; simpa [World.setCell] using this⟩, hf.mono (fun k hk => by rw [hk]; exact hS)⟩
end Go.Proofs.YtjchjpmgbmeohaaDoor

/- Package probe: Get, Drop. -/
set_option linter.unusedSimpArgs false
set_option linter.unusedVariables false
namespace Go.Proofs.YtjchjpmgbmeohaaDoor
open Go.RowKit

/-- A table as it must be. -/
structure IsT (w : World) (S : Nat → Prop) (T : Nat) (cs : List PC) : Prop where
  is : IsP w S T cs (cnt 1 cs) (cnt 2 cs)
  inv : PInv home cs
  room : 4 * (cnt 1 cs + cnt 2 cs) ≤ 3 * cs.length
theorem IsT.fr {w w' : World} {S S2 : Nat → Prop} {T : Nat} {cs : List PC} (h : IsT w S T cs) (hf : Fr S2 w w') (hd : ∀ k, S k → ¬ S2 k) : IsT w' S T cs := ⟨IsP.fr h.is hf hd, h.inv, h.room⟩
theorem IsT.free {w : World} {S : Nat → Prop} {T : Nat} {cs : List PC} (h : IsT w S T cs) : ∃ p, p < cs.length ∧ knd cs p = 0 := by
  have h1 := cnt_all h.inv.kinds
  have h2 := h.inv.len
  have h3 := h.room
  exact free_of_cnt (by omega)
theorem IsT.find {w : World} {S : Nat → Prop} {T : Nat} {cs : List PC} (h : IsT w S T cs) (x : Nm) : Calls Tryd.prog 95 #[.pointer (some ⟨T, 0, none⟩), .agg #[.int .u64 x.hi, .int .u64 x.lo]] w (FindPost cs x w) :=
  find_any w T S cs _ _ x h.is h.inv h.free
def GetPost (cs : List PC) (x : Nm) (w : World) (e : Ending) (w' : World) : Prop := ∃ (a : Int) (b : Bool), e = .returned (.tuple #[.int .i64 a, .bool b]) ∧ ((b = true ∧ Has cs x a) ∨ (b = false ∧ a = 0 ∧ ¬ IsIn cs x)) ∧ Fr (fun _ => False) w w'
set_option maxRecDepth 4000 in
set_option maxHeartbeats 3200000 in
theorem get_any (w : World) (S : Nat → Prop) (T : Nat) (cs : List PC) (x : Nm) (h : IsT w S T cs) :
    Calls Tryd.prog 55 #[.pointer (some ⟨T, 0, none⟩), .agg #[.int .u64 x.hi, .int .u64 x.lo]] w (GetPost cs x w) := by
  have FA := Lib.hid ((Fr.refl (fun _ => False) w).alloc (.cells #[.int .u64 x.hi, .int .u64 x.lo] 24))
  have HF := Lib.hid ((h.fr FA.out (fun _ _ h => h)).find x)
  obtain ⟨hn8, hn30⟩ := h.inv.len
  have HI := Lib.hid h.inv
  obtain ⟨v, hb, ho, -, -, -⟩ := h.is
  obtain ⟨g, cap, rfl⟩ := own_some ho (by omega)
  have HB := Lib.hid (FA.out.blk hb (fun h => h))
  have HO := Lib.hid (own_fr ho FA.out (fun _ _ h => h))
  clear h hb ho
  go_enter Tryd.func55, Tryd.ntmps55
  go_wp2_with fail
  refine HF.out.mono ?_
  rintro e w2 ⟨p, b, rfl, hfd, f2⟩
  have HFd := Lib.hid hfd
  have F2 := Lib.hid (FA.out.then_ f2 (fun _ h => h.elim))
  have hb2 := f2.blk HB.out (fun h => h)
  have c0 := blk_cell hb2 0 rfl
  have ho2 := own_fr HO.out f2 (fun _ _ h => h)
  cases b with
  | false =>
    clear hfd f2 hb2 c0 ho2
    go_wp2_with fail
    go_ret2
    have hno : ¬ IsIn cs x := by
      rcases HFd.out.2 with h | h
      · cases h.1
      · exact h.2.2.1
    exact ⟨0, false, rfl, .inr ⟨rfl, rfl, hno⟩, F2.out⟩
  | true =>
    have hp := hfd.1
    have hc : ∃ c : PC, cs[p]? = some c ∧ c.kind = 1 ∧ c.key = x := by
      rcases hfd.2 with ⟨_, h⟩ | ⟨h, _⟩
      · exact h
      · cases h
    obtain ⟨c, hc1, hc2, hc3⟩ := hc
    have hge : cs[p] = c := by rw [List.getElem?_eq_getElem hp] at hc1; exact Option.some.inj hc1
    have p2 := own_pc ho2 rfl hp 2 (by omega) (v := .int .i64 c.at_) (by rw [hge]; rfl)
    have HHas := Lib.hid (show Has cs x c.at_ from ⟨p, c, hc1, hc2, hc3, rfl⟩)
    obtain ⟨a, ha⟩ : ∃ a, c.at_ = a := ⟨_, rfl⟩
    rw [ha] at p2 HHas
    have hpI : (p : Int) < cs.length := by omega
    clear hfd f2 hb2 ho2 hc1 hc2 hc3 hge ha
    go_wp2_with fail
    go_ret2
    exact ⟨a, true, rfl, .inl ⟨rfl, HHas.out⟩, F2.out⟩
def DropPost (S : Nat → Prop) (T : Nat) (cs : List PC) (x : Nm) (w : World) (e : Ending) (w' : World) : Prop :=
  ∃ (b : Bool) (cs' : List PC), e = .returned (.bool b) ∧ (b = true ↔ IsIn cs x) ∧ IsT w' S T cs' ∧ (∀ y a, Has cs' y a ↔ Has cs y a ∧ y ≠ x) ∧ cnt 1 cs' + (if b = true then 1 else 0) = cnt 1 cs ∧ cs'.length = cs.length ∧ Fr S w w'
set_option maxRecDepth 4000 in
set_option maxHeartbeats 3200000 in
theorem drop_any (w : World) (S : Nat → Prop) (T : Nat) (cs : List PC) (x : Nm) (h : IsT w S T cs) :
    Calls Tryd.prog 60 #[.pointer (some ⟨T, 0, none⟩), .agg #[.int .u64 x.hi, .int .u64 x.lo]] w (DropPost S T cs x w) := by
  have FA := Lib.hid ((Fr.refl (fun _ => False) w).alloc (.cells #[.int .u64 x.hi, .int .u64 x.lo] 24))
  have HT := Lib.hid (h.fr FA.out (fun _ _ h => h))
  have HF := Lib.hid (HT.out.find x)
  obtain ⟨hn8, hn30⟩ := h.inv.len
  clear h
  go_enter Tryd.func60, Tryd.ntmps60
  go_wp2_with fail
  refine HF.out.mono ?_
  rintro e w2 ⟨p, b, rfl, hfd, f2⟩
  have HFd := Lib.hid hfd
  have F2 := Lib.hid (FA.out.then_ f2 (fun _ h => h.elim))
  have HT2 := Lib.hid (HT.out.fr f2 (fun _ _ h => h))
  cases b with
  | false =>
    clear hfd f2
    go_wp2_with fail
    go_ret
    have hno : ¬ IsIn cs x := by
      rcases HFd.out.2 with h | h
      · cases h.1
      · exact h.2.2.1
    exact ⟨false, cs, rfl, ⟨fun h => Bool.noConfusion h, fun h => absurd h hno⟩, HT2.out, fun y a => ⟨fun h => ⟨h, fun e => hno (e ▸ has_in h)⟩, fun h => h.1⟩, by simp, rfl, F2.out.mono (fun _ h => h.elim)⟩
  | true =>
    have hp := hfd.1
    have hc : ∃ c : PC, cs[p]? = some c ∧ c.kind = 1 ∧ c.key = x := by
      rcases hfd.2 with ⟨_, h⟩ | ⟨h, _⟩
      · exact h
      · cases h
    obtain ⟨c, hc1, hc2, hc3⟩ := hc
    have HIn := Lib.hid (show IsIn cs x from ⟨p, c, hc1, hc2, hc3⟩)
    have k1 := cnt_set 1 (d := PC.left) hc1
    have k2 := cnt_set 2 (d := PC.left) hc1
    rw [hc2] at k1 k2
    have k1' : cnt 1 (cs.set p PC.left) + 1 = cnt 1 cs := by simpa [PC.left] using k1
    have k2' : cnt 2 (cs.set p PC.left) = cnt 2 cs + 1 := by simpa [PC.left] using k2
    have HInv := Lib.hid (HT2.out.inv.drop hc1 (d := PC.left) rfl)
    have HHas := Lib.hid (fun y b => has_drop (b := b) HT2.out.inv hc1 hc2 (d := PC.left) rfl y)
    rw [hc3] at HHas
    have HK1 := Lib.hid k1'
    have HK2 := Lib.hid k2'
    obtain ⟨u, hu⟩ : ∃ u : Int, (cnt 1 cs : Int) = u := ⟨_, rfl⟩
    obtain ⟨l, hl⟩ : ∃ l : Int, (cnt 2 cs : Int) = l := ⟨_, rfl⟩
    have HR := Lib.hid HT2.out.room
    have hu0 : 1 ≤ u := by omega
    have hl0 : 0 ≤ l := by omega
    have hul : 4 * (u + l) ≤ 3 * (cs.length : Int) := by have := HR.out; omega
    have HU := Lib.hid hu
    have HL := Lib.hid hl
    have his : IsP w2 S T cs u l := by rw [← hu, ← hl]; exact HT2.out.is
    have HIs := Lib.hid his
    obtain ⟨v, hb, ho, -, -, -⟩ := his
    obtain ⟨g, cap, rfl⟩ := own_some ho (by omega)
    have HB := Lib.hid hb
    have c0 := blk_cell hb 0 rfl
    have hpI : (p : Int) < cs.length := by omega
    have HP := Lib.hid hp
    clear hfd f2 hb ho hc1 hc2 hc3 k1 k2 k1' k2' hu hl hp
    go_wp2_with ((refine wpList_store_pc rfl (.tmp 23) (.tmp 22) rfl PC.left rfl rfl HB.out HIs.out HP.out rfl ?_); intro w3 hb3 h3 f3; have HIs3 := Lib.hid h3; have F3 := Lib.hid f3; have HB3 := Lib.hid hb3; have c1 := blk_cell hb3 1 rfl; have c2 := blk_cell hb3 2 rfl; have fz1 := blk_free hb3 1; have fz2 := blk_free hb3 2; clear h3 f3 hb3)
    go_ret
    have h4 := HIs3.out.set1 (u - 1)
    have h5 := h4.1.set2 (l + 1)
    refine ⟨true, cs.set p PC.left, rfl, ⟨fun _ => HIn.out, fun _ => rfl⟩, ⟨?_, HInv.out, ?_⟩, HHas.out, by simpa using HK1.out, List.length_set .., ((F2.out.mono (fun _ h => h.elim)).then_ F3.out (fun _ h => .inl h) |>.then_ h4.2 (fun _ h => .inl h)).then_ h5.2 (fun _ h => .inl h)⟩
    · have e1 : ((cnt 1 (cs.set p PC.left) : Nat) : Int) = u - 1 := by have := HK1.out; have := HU.out; omega
      have e2 : ((cnt 2 (cs.set p PC.left) : Nat) : Int) = l + 1 := by have := HK2.out; have := HL.out; omega
      rw [e1, e2]
      exact h5.1
    · have := HK1.out; have := HK2.out; have := HR.out; rw [List.length_set]; omega
end Go.Proofs.YtjchjpmgbmeohaaDoor

/- Package probe: grow. -/
set_option linter.unusedSimpArgs false
set_option linter.unusedVariables false
namespace Go.Proofs.YtjchjpmgbmeohaaDoor
open Go.RowKit

/-! Plain. -/
theorem cnt_take {cs : List PC} {k : Nat} {c : PC} (q : Int) (hc : cs[k]? = some c) : cnt q (cs.take (k + 1)) = cnt q (cs.take k) + (if c.kind = q then 1 else 0) := by
  rw [cnt, cnt, List.take_add_one, hc, Option.toList_some, List.filter_append, List.length_append, List.filter_cons, List.filter_nil]
  by_cases h : c.kind = q
  · simp [h]
  · simp [h]
theorem cnt_take_le (q : Int) (cs : List PC) (k : Nat) : cnt q (cs.take k) ≤ cnt q cs := by
  have h := congrArg (cnt q) (List.take_append_drop k cs)
  rw [cnt, List.filter_append, List.length_append] at h
  have : cnt q (cs.take k) = ((cs.take k).filter (fun c => c.kind == q)).length := rfl
  omega
theorem has_take {cs : List PC} {k : Nat} {c : PC} (hc : cs[k]? = some c) (y : Nm) (a : Int) : Has (cs.take (k + 1)) y a ↔ Has (cs.take k) y a ∨ (c.kind = 1 ∧ c.key = y ∧ c.at_ = a) := by
  constructor
  · rintro ⟨p, d, hd, h1, h2, h3⟩
    rw [List.getElem?_take] at hd
    split at hd
    · by_cases e : p = k
      · subst e
        rw [hc] at hd
        obtain rfl := Option.some.inj hd
        exact .inr ⟨h1, h2, h3⟩
      · exact .inl ⟨p, d, by rw [List.getElem?_take, if_pos (by omega)]; exact hd, h1, h2, h3⟩
    · cases hd
  · rintro (⟨p, d, hd, h1, h2, h3⟩ | ⟨h1, h2, h3⟩)
    · rw [List.getElem?_take] at hd
      split at hd
      · exact ⟨p, d, by rw [List.getElem?_take, if_pos (by omega)]; exact hd, h1, h2, h3⟩
      · cases hd
    · exact ⟨k, c, by rw [List.getElem?_take, if_pos (by omega)]; exact hc, h1, h2, h3⟩
/-- The cells that are put into a new table: so far. -/
structure Regrow (cs : List PC) (k : Nat) (ds : List PC) : Prop where
  inv : PInv home ds
  none2 : cnt 2 ds = 0
  one : cnt 1 ds = cnt 1 (cs.take k)
  has : ∀ y a, Has ds y a ↔ Has (cs.take k) y a
theorem regrow_zero {cs : List PC} {n e : Nat} (hn : n = 2 ^ e) (h3 : 3 ≤ e) (h30 : e ≤ 30) : Regrow cs 0 (List.replicate n PC.zero) := by
  have f : ∀ q : Int, q ≠ 0 → cnt q (List.replicate n PC.zero) = 0 := fun q hq => by
    rw [cnt, List.length_eq_zero_iff, List.filter_eq_nil_iff]
    intro c hc
    rw [List.mem_replicate] at hc
    rw [hc.2]
    simpa [PC.zero] using fun h => hq h.symm
  refine ⟨pinv_empty hn h3 h30, f 2 (by decide), by rw [f 1 (by decide)]; rfl, fun y a => ⟨?_, ?_⟩⟩
  · rintro ⟨p, c, hc, hk, _⟩
    have := List.mem_of_getElem? hc
    rw [List.mem_replicate] at this
    rw [this.2] at hk
    exact absurd hk (by decide)
  · rintro ⟨p, c, hc, _⟩
    simp at hc
theorem regrow_free {cs ds : List PC} {k : Nat} (h : Regrow cs k ds) (hl : cnt 1 cs < ds.length) : ∃ p, p < ds.length ∧ knd ds p = 0 := by
  have h1 := cnt_all h.inv.kinds
  have h2 := h.none2
  have h3 := h.one
  have h4 := cnt_take_le 1 cs k
  exact free_of_cnt (by omega)
theorem regrow_skip {cs ds : List PC} {k : Nat} {c : PC} (h : Regrow cs k ds) (hc : cs[k]? = some c) (hk : c.kind ≠ 1) : Regrow cs (k + 1) ds :=
  ⟨h.inv, h.none2, by rw [cnt_take 1 hc, if_neg hk]; exact h.one, fun y a => by rw [has_take hc, h.has]; exact ⟨.inl, fun h => h.elim id (fun h => (hk h.1).elim)⟩⟩
theorem regrow_put {cs ds : List PC} {k p : Nat} {b : Bool} {x : Nm} {a : Int} (h : Regrow cs k ds) (hi : PInv home cs) (hc : cs[k]? = some ⟨x, a, 1⟩) (hf : Fnd home ds x p b) : Regrow cs (k + 1) (ds.set p ⟨x, a, 1⟩) := by
  have hno : ¬ IsIn ds x := by
    rintro ⟨q, d, hd, h1, h2⟩
    have hh : Has ds x d.at_ := ⟨q, d, hd, h1, h2, rfl⟩
    rw [h.has] at hh
    obtain ⟨r, e, he, e1, e2, _⟩ := hh
    rw [List.getElem?_take] at he
    split at he
    · have := hi.uniq r k e ⟨x, a, 1⟩ he hc e1 rfl e2
      omega
    · cases he
  obtain ⟨hp, hf⟩ := hf
  have hg : ds[p]? = some ds[p] := List.getElem?_eq_getElem hp
  rcases hf with ⟨_, c, h1, h2, h3⟩ | ⟨_, h1, _, h3⟩
  · exact (hno ⟨p, c, h1, h2, h3⟩).elim
  · rw [knd_at hg] at h1
    refine ⟨h.inv.put hg h1 a hno h3, ?_, ?_, fun y b => ?_⟩
    · have := cnt_set 2 (d := ⟨x, a, 1⟩) hg
      rw [h.none2, if_neg (show ¬ (1 : Int) = 2 by decide)] at this
      omega
    · have := cnt_set 1 (d := ⟨x, a, 1⟩) hg
      rw [if_neg h1, if_pos rfl, h.one] at this
      rw [cnt_take 1 hc, if_pos rfl]
      omega
    · rw [has_put hg h1 hno, h.has, has_take hc]
      exact ⟨fun h => h.elim .inl (fun h => .inr ⟨rfl, h.1.symm, h.2.symm⟩), fun h => h.elim .inl (fun h => .inr ⟨h.2.1.symm, h.2.2.symm⟩)⟩
theorem regrow_end {cs ds : List PC} {k : Nat} (h : Regrow cs k ds) (hk : cs.length ≤ k) : cnt 1 ds = cnt 1 cs ∧ ∀ y a, Has ds y a ↔ Has cs y a := by
  have e : cs.take k = cs := List.take_of_length_le hk
  exact ⟨by rw [h.one, e], fun y a => by rw [h.has, e]⟩

/-! The walk. -/
theorem Tryd.infoCell : (Tryd.prog.info? 141).map (fun i => (i.zero, i.size, i.bytes)) = some (some (.agg #[.int .u64 0, .int .u64 0, .int .i64 0, .int .u8 0]), 4, 32) := by kernel_rfl
theorem made_pcs (n : Nat) : madeCells #[Value.int .u64 0, .int .u64 0, .int .i64 0, .int .u8 0] (n * 4) = (pcs (List.replicate n PC.zero)).toArray := by
  apply Array.ext
  · simp [madeCells, pcs_len]
  · intro i h1 h2
    have hi : i < n * 4 := by simpa [madeCells] using h1
    have hq : i / 4 < (List.replicate n PC.zero).length := by rw [List.length_replicate]; omega
    have h := pcs_get (List.replicate n PC.zero) hq (i % 4) (Nat.mod_lt _ (by decide))
    rw [show i / 4 * 4 + i % 4 = i by omega, List.getElem_replicate] at h
    have h3 : (pcs (List.replicate n PC.zero)).toArray[i]? = (PC.cells PC.zero)[i % 4]? := by simpa using h
    have h4 : (madeCells #[Value.int .u64 0, .int .u64 0, .int .i64 0, .int .u8 0] (n * 4))[i]? = (PC.cells PC.zero)[i % 4]? := by
      have hm : i % 4 < 4 := Nat.mod_lt _ (by decide)
      obtain ⟨r, hr⟩ : ∃ r, i % 4 = r := ⟨_, rfl⟩
      have hl : (madeCells #[Value.int .u64 0, .int .u64 0, .int .i64 0, .int .u8 0] (n * 4))[i]? = some (#[Value.int .u64 0, .int .u64 0, .int .i64 0, .int .u8 0][i % 4]!) := by
        rw [Array.getElem?_eq_getElem h1]; simp [madeCells]
      rw [hl, hr]
      rw [hr] at hm
      rcases r with _ | _ | _ | _ | r
      · rfl
      · rfl
      · rfl
      · rfl
      · omega
    have h5 := h4.trans h3.symm
    rw [Array.getElem?_eq_getElem h1, Array.getElem?_eq_getElem h2] at h5
    exact Option.some.inj h5
def GrowPost (S : Nat → Prop) (T : Nat) (cs : List PC) (w : World) (e : Ending) (w' : World) : Prop :=
  ∃ cs', e = .returned (.tuple #[]) ∧ IsT w' (Gro S w w') T cs' ∧ (∀ y a, Has cs' y a ↔ Has cs y a) ∧ cnt 1 cs' = cnt 1 cs ∧ cnt 2 cs' = 0 ∧ 3 * (cnt 1 cs + 1) ≤ cs'.length ∧ Fr S w w'
end Go.Proofs.YtjchjpmgbmeohaaDoor

/- Package probe: grow, the walk. -/
set_option linter.unusedSimpArgs false
set_option linter.unusedVariables false
namespace Go.Proofs.YtjchjpmgbmeohaaDoor
open Go.RowKit

theorem grown_world {w : World} {g m cap T n G : Nat} {u l : Int} (hb : w.heap[T]? = some (.cells #[.slice (some ⟨g, 0, none⟩) m cap, .int .i64 u, .int .i64 l] 135 (0, 0))) (hn : n ≤ 1000000) (hG : w.heap.size = G) :
    IsP (((w.alloc (.cells (pcs (List.replicate n PC.zero)).toArray 141)).setCell ⟨T, 0, none⟩ (.slice (some ⟨G, 0, none⟩) n n)).setCell ⟨T, 2, none⟩ (.int .i64 0)) (fun j => j = T ∨ j = G) T (List.replicate n PC.zero) u 0 ∧
    Fr (fun j => j = T) w (((w.alloc (.cells (pcs (List.replicate n PC.zero)).toArray 141)).setCell ⟨T, 0, none⟩ (.slice (some ⟨G, 0, none⟩) n n)).setCell ⟨T, 2, none⟩ (.int .i64 0)) := by
  subst hG
  have hT := blk_lt hb
  have ho := World.ownsRow_lit (base := 0) (e := 141) (size := 4) w (pcs (List.replicate n PC.zero)).toArray n (Nat.zero_le _) (by unfold maxLen; omega) (by simp [pcs_len])
  have hf := ((Fr.refl (fun j => j = T) (w.alloc (.cells (pcs (List.replicate n PC.zero)).toArray 141))).setCell (p := ⟨T, 0, none⟩) (.inl rfl) (.slice (some ⟨w.heap.size, 0, none⟩) n n)).setCell (p := ⟨T, 2, none⟩) (.inl rfl) (.int .i64 0)
  have hb2 := blk_set (blk_set (blk_alloc hb (.cells (pcs (List.replicate n PC.zero)).toArray 141)) 0 (.slice (some ⟨w.heap.size, 0, none⟩) n n)) 2 (.int .i64 0)
  refine ⟨⟨.slice (some ⟨w.heap.size, 0, none⟩) n n, by simpa using hb2, ?_, .inl rfl, fun k hk => ?_, fun k hk => ?_⟩, ((Fr.refl _ w).alloc _).then_ hf (fun _ h => .inl h)⟩
  · have h := own_fr ho hf (fun k hk e => by
      simp only [Value.ownBlock, Option.some.injEq] at hk
      omega)
    rw [List.length_replicate]
    simpa using h
  · simp only [Value.ownBlock, Option.some.injEq] at hk
    subst hk
    exact ⟨.inr rfl, by omega⟩
  · have e : ((w.alloc (.cells (pcs (List.replicate n PC.zero)).toArray 141)).setCell ⟨T, 0, none⟩ (.slice (some ⟨w.heap.size, 0, none⟩) n n)).heap.size = w.heap.size + 1 := by simp [World.setCell]
    have e2 : (((w.alloc (.cells (pcs (List.replicate n PC.zero)).toArray 141)).setCell ⟨T, 0, none⟩ (.slice (some ⟨w.heap.size, 0, none⟩) n n)).setCell ⟨T, 2, none⟩ (.int .i64 0)).heap.size = w.heap.size + 1 := by simp [World.setCell]
    rw [e2]
    rcases hk with rfl | rfl <;> omega
set_option maxRecDepth 4000 in
set_option maxHeartbeats 6400000 in
theorem grow_any (w : World) (S : Nat → Prop) (T : Nat) (cs : List PC) (h : IsT w S T cs) (hu : cnt 1 cs ≤ 100000) :
    Calls Tryd.prog 97 #[.pointer (some ⟨T, 0, none⟩)] w (GrowPost S T cs w) := by
  obtain ⟨ic, hic, hcz0, hcz1, hcz2⟩ := info_parts Tryd.infoCell
  obtain ⟨hn8, hn30⟩ := h.inv.len
  have HI := Lib.hid h.inv
  have HIs := Lib.hid h.is
  obtain ⟨u, hcu⟩ : ∃ u, cnt 1 cs = u := ⟨_, rfl⟩
  obtain ⟨l, hcl⟩ : ∃ l : Int, (cnt 2 cs : Int) = l := ⟨_, rfl⟩
  have HU := Lib.hid hcu
  obtain ⟨v, hb, ho, hST, hSv, hSl⟩ := h.is
  obtain ⟨g, cap, rfl⟩ := own_some ho (by omega)
  rw [hcu, hcl] at hb
  rw [hcu] at hu
  have HB := Lib.hid hb
  have HO := Lib.hid ho
  have HST := Lib.hid hST
  have HSg := Lib.hid (hSv g rfl)
  have HSl := Lib.hid hSl
  have HTl := Lib.hid (hSl T hST)
  have HGl := Lib.hid (hSl g (hSv g rfl).1)
  obtain ⟨n0, hn0⟩ : ∃ n0, cs.length = n0 := ⟨_, rfl⟩
  have HN := Lib.hid hn0
  rw [hn0] at hn8 hn30 hb
  have c0 := blk_cell hb 0 rfl
  have c1 := blk_cell hb 1 rfl
  have c2 := blk_cell hb 2 rfl
  have z0 := blk_free hb 0
  have z2 := blk_free hb 2
  clear hcu hcl hST hSv hSl ho h hn0 hb
  go_enter Tryd.func97, Tryd.ntmps97
  go_wp2_with fail
  go_loopw [3] (fun nv wr => ∃ (n e : Nat), 3 ≤ e ∧ e ≤ 30 ∧ n = 2 ^ e ∧ nv = .int .i64 n ∧ (n = 8 ∨ n < 6 * (u + 1)) ∧ 8 ≤ n ∧ wr = w) (fun nv _ => (3 * ((u : Int) + 1) - intOf nv).toNat)
  case atStart => exact ⟨8, 3, by omega, by omega, rfl, rfl, .inl rfl, by omega, rfl⟩
  case round =>
    obtain ⟨n, e, h3, h30, he, rfl, hn6, hn8', hwr⟩ := hrel
    obtain rfl := hwr.symm
    have HE := Lib.hid he
    have HN6 := Lib.hid hn6
    have hnb : n ≤ 1000000 := by omega
    clear he hn6
    have wi1 : IntKind.i64.wrap ((u : Int) + 1) = u + 1 := IntWalk.i64_in _ (by omega)
    have wi2 : IntKind.i64.wrap (3 * ((u : Int) + 1)) = 3 * (u + 1) := IntWalk.i64_in _ (by omega)
    have wi3 : IntKind.i64.wrap ((n : Int) * 2) = n * 2 := IntWalk.i64_in _ (by omega)
    by_cases hlt : (n : Int) < 3 * ((u : Int) + 1)
    · go_wp2_with fail
      go_roundw
      case rel =>
        refine ⟨n * 2, e + 1, by omega, ?_, by rw [HE.out, Nat.pow_succ], by go_num, by omega, by omega, trivial⟩
        apply Decidable.byContradiction
        intro hc
        have h31 : 2 ^ 30 ≤ 2 ^ e := Nat.pow_le_pow_right (by decide) (by omega)
        have : 2 ^ 30 = 1073741824 := rfl
        have := HE.out
        omega
      case measure => simp only [intOf]; omega
    · have hmk : ∀ w : World, (Instr.makeSlice 133 (.int .i64 n) (.int .i64 n)).run Tryd.prog w = .ok (.slice (some ⟨w.heap.size, 0, none⟩) n n) (w.alloc (.cells (pcs (List.replicate n PC.zero)).toArray 141)) := fun w => by
        have h := run_make (P := Tryd.prog) w 133 141 ic (.agg #[.int .u64 0, .int .u64 0, .int .i64 0, .int .u8 0]) Tryd.underlying133 hic hcz0 .i64 .i64 n n (by omega) (Int.le_refl _) (by rw [hcz2]; omega) (by omega)
        rw [hcz1] at h
        simpa [Value.cells, made_pcs] using h
      have hb1 := blk_alloc HB.out (.cells (pcs (List.replicate n PC.zero)).toArray 141)
      have c0' := blk_cell hb1 0 rfl
      have z0' := blk_free hb1 0
      have c2' := blk_cell hb1 2 rfl
      have z2' := blk_free hb1 2
      clear hb1
      go_wp2_with fail
      obtain ⟨G, hG⟩ : ∃ G, w.heap.size = G := ⟨_, rfl⟩
      have HG := Lib.hid hG
      have HGr := Lib.hid (grown_world (n := n) HB.out (by omega) hG)
      clear hG
      go_loopw [32] (fun iv wr => ∃ (k : Nat) (ds : List PC), k ≤ n0 ∧ iv = .int .i64 k ∧ ds.length = n ∧ Regrow cs k ds ∧ IsP wr (fun j => j = T ∨ j = G) T ds u 0 ∧ Fr (fun j => j = T) w wr) (fun iv _ => ((n0 : Int) - intOf iv).toNat)
      case atStart => exact ⟨0, List.replicate n PC.zero, Nat.zero_le _, rfl, List.length_replicate, regrow_zero HE.out h3 h30, by have e := HG.out; subst e; exact HGr.out.1, by have e := HG.out; subst e; exact HGr.out.2⟩
      case round =>
        obtain ⟨k, ds, hk, rfl, hdl, hre, his, hf⟩ := hrel
        have HRe := Lib.hid hre
        have HIs2 := Lib.hid his
        have HF := Lib.hid hf
        have HDl := Lib.hid hdl
        clear hre his hf hdl
        by_cases hkn : k = n0
        · subst hkn
          go_wp2_with fail
          go_end0
          have hend := regrow_end HRe.out (by rw [HN.out]; exact Nat.le_refl _)
          refine ⟨ds, rfl, ⟨?_, HRe.out.inv, ?_⟩, hend.2, hend.1, HRe.out.none2, ?_, ?_⟩
          · have h1 : cnt 1 ds = u := by rw [hend.1, HU.out]
            rw [h1, HRe.out.none2]
            refine HIs2.out.mono (fun j hj => ?_) (fun j hj => ?_)
            · rcases hj with e | e
              · exact .inl (by rw [e]; exact HST.out)
              · exact .inr ⟨by rw [e, HG.out]; exact Nat.le_refl _, HIs2.out.lt (.inr e)⟩
            · rcases hj with e | e
              · exact Nat.lt_of_lt_of_le (HSl.out j e) HF.out.size
              · exact e.2
          · rw [hend.1, HRe.out.none2, HU.out, HDl.out]; omega
          · rw [HU.out, HDl.out]; omega
          · exact HF.out.mono (fun j e => by rw [e]; exact HST.out)
        · have hki : (k : Int) < n0 := by omega
          have hkl : k < cs.length := by rw [HN.out]; omega
          obtain ⟨c, hce⟩ : ∃ c, cs[k] = c := ⟨_, rfl⟩
          have hget : cs[k]? = some c := by rw [List.getElem?_eq_getElem hkl, hce]
          have HGt := Lib.hid hget
          have hkk := HI.out.kinds c (hce ▸ List.getElem_mem hkl)
          have ho1 := own_fr HO.out HF.out (fun j hj e => by
            simp only [Value.ownBlock, Option.some.injEq] at hj
            exact HSg.out.2 (hj.trans e))
          obtain ⟨⟨chi, clo⟩, cat, ckd⟩ := c
          have p0 := own_pc ho1 rfl hkl 0 (by omega) (v := .int .u64 chi) (by rw [hce]; rfl)
          rw [Nat.add_zero] at p0
          have p1 := own_pc ho1 rfl hkl 1 (by omega) (v := .int .u64 clo) (by rw [hce]; rfl)
          have p2 := own_pc ho1 rfl hkl 2 (by omega) (v := .int .i64 cat) (by rw [hce]; rfl)
          have p3 := own_pc ho1 rfl hkl 3 (by omega) (v := .int .u8 ckd) (by rw [hce]; rfl)
          have Hc := Lib.hid (heap_alloc_new wr (.cells #[.int .u64 chi, .int .u64 clo, .int .i64 cat, .int .u8 ckd] 141))
          have FC := Lib.hid ((Fr.refl (fun _ => False) wr).alloc (.cells #[.int .u64 chi, .int .u64 clo, .int .i64 cat, .int .u8 ckd] 141))
          have wk : IntKind.i64.wrap ((k : Int) + 1) = k + 1 := IntWalk.i64_in _ (by omega)
          clear hget hce ho1
          by_cases hk1 : ckd = 1
          · subst hk1
            have HFi := Lib.hid (find_any _ T _ ds u 0 ⟨chi, clo⟩ (HIs2.out.fr FC.out (fun _ _ h => h)) HRe.out.inv (regrow_free HRe.out (by rw [HU.out, HDl.out]; omega)))
            go_wp2_with fail
            refine HFi.out.mono ?_
            rintro e2 w2 ⟨p, b, rfl, hfd, f2⟩
            have HRp := Lib.hid (regrow_put HRe.out HI.out HGt.out hfd)
            have HP := Lib.hid hfd.1
            have HIs3 := Lib.hid ((HIs2.out.fr FC.out (fun _ _ h => h)).fr f2 (fun _ _ h => h))
            have HF3 := Lib.hid (((HF.out.then_ FC.out (fun _ h => h.elim)).then_ f2 (fun _ h => h.elim)))
            have bC := f2.blk Hc.out (fun h => h)
            have d0 := blk_cell bC 0 rfl
            have d1 := blk_cell bC 1 rfl
            have d2 := blk_cell bC 2 rfl
            have d3 := blk_cell bC 3 rfl
            obtain ⟨v, hbT, hoT, -, -, -⟩ := HIs3.out
            obtain ⟨g2, cap2, rfl⟩ := own_some hoT (by rw [HDl.out]; omega)
            have HB3 := Lib.hid hbT
            have t0 := blk_cell hbT 0 rfl
            rw [HDl.out] at t0
            have hpI : (p : Int) < n := by have := hfd.1; rw [HDl.out] at this; omega
            clear hfd f2 bC hbT hoT
            go_upto_region 10 with fail
            go_still_tail 7, (by kernel_rfl)
            refine wpList_store_pc rfl (.tmp 52) (.tmp 51) rfl ⟨⟨chi, clo⟩, cat, 1⟩ rfl rfl HB3.out (Rw.drew HIs3.out) HP.out rfl ?_
            intro w3 hb3 h3 f3
            have HIs4 := Lib.hid h3
            have HF4 := Lib.hid f3
            clear h3 f3 hb3
            go_wp2_with fail
            go_roundw
            case rel => first | exact ⟨k + 1, ds.set p ⟨⟨chi, clo⟩, cat, 1⟩, by omega, by go_num, by rw [List.length_set]; exact HDl.out, HRp.out, HIs4.out, HF3.out.drew.then_ HF4.out (fun j hj => hj.elim .inl (fun e => .inr (by rw [e, HG.out]; exact Nat.le_refl _)))⟩ | ((repeat apply Exists.intro); refine (fun a b => ⟨b, a⟩ : ∀ {P Q : Prop}, P → Q → Q ∧ P) ?_ ?_; (first | rfl | exact ⟨rfl, rfl⟩ | exact ⟨rfl, rfl, rfl⟩); exact ⟨k + 1, ds.set p ⟨⟨chi, clo⟩, cat, 1⟩, by omega, by go_num, by rw [List.length_set]; exact HDl.out, HRp.out, HIs4.out, HF3.out.drew.then_ HF4.out (fun j hj => hj.elim .inl (fun e => .inr (by rw [e, HG.out]; exact Nat.le_refl _)))⟩)
            case measure => simp only [intOf]; omega
          · have hb1 : (ckd == 1) = false := by simpa using hk1
            go_wp2_with fail
            go_roundw
            case rel => exact ⟨k + 1, ds, by omega, by go_num, HDl.out, regrow_skip HRe.out HGt.out hk1, HIs2.out.fr FC.out (fun _ _ h => h), HF.out.then_ FC.out (fun _ h => h.elim)⟩
            case measure => simp only [intOf]; omega
end Go.Proofs.YtjchjpmgbmeohaaDoor

/- Package probe: Put. -/
set_option linter.unusedSimpArgs false
set_option linter.unusedVariables false
namespace Go.Proofs.YtjchjpmgbmeohaaDoor
open Go.RowKit

theorem pcs_at {cs : List PC} {p : Nat} {c : PC} (hc : cs[p]? = some c) (a : Int) : (pcs cs).set (p * 4 + 2) (.int .i64 a) = pcs (cs.set p ⟨c.key, a, c.kind⟩) := by
  have hp := (List.getElem?_eq_some_iff.1 hc).1
  have hcp : cs[p] = c := by rw [List.getElem?_eq_getElem hp] at hc; exact Option.some.inj hc
  apply List.ext_getElem?
  intro j
  by_cases hj : j < cs.length * 4
  · have hq : j / 4 < cs.length := by omega
    have hr : j % 4 < 4 := Nat.mod_lt _ (by decide)
    have e1 : (pcs (cs.set p ⟨c.key, a, c.kind⟩))[j]? = (PC.cells ((cs.set p ⟨c.key, a, c.kind⟩)[j / 4]'(by simpa using hq)))[j % 4]? := by
      have h := pcs_get (cs.set p ⟨c.key, a, c.kind⟩) (i := j / 4) (by simpa using hq) (j % 4) hr
      rwa [show j / 4 * 4 + j % 4 = j by omega] at h
    have e2 : (pcs cs)[j]? = (PC.cells cs[j / 4])[j % 4]? := by
      have h := pcs_get cs hq (j % 4) hr
      rwa [show j / 4 * 4 + j % 4 = j by omega] at h
    rw [e1, List.getElem_set]
    by_cases h1 : j = p * 4 + 2
    · rw [if_pos (by omega), show j % 4 = 2 by omega, h1, List.getElem?_set_self (by rw [pcs_len]; omega)]
      rfl
    · rw [List.getElem?_set_ne (fun e => h1 e.symm), e2]
      by_cases h2 : p = j / 4
      · rw [if_pos h2]
        have h3 : cs[j / 4] = c := by simp only [← h2]; exact hcp
        rw [h3]
        obtain ⟨r, hr2⟩ : ∃ r, j % 4 = r := ⟨_, rfl⟩
        have hne : r ≠ 2 := by omega
        rw [hr2]
        rw [hr2] at hr
        rcases r with _ | _ | _ | _ | r
        · rfl
        · rfl
        · exact (hne rfl).elim
        · rfl
        · omega
      · rw [if_neg h2]
  · rw [List.getElem?_eq_none (by rw [List.length_set, pcs_len]; omega), List.getElem?_eq_none (by rw [pcs_len, List.length_set]; omega)]
theorem IsP.at_ {w : World} {S : Nat → Prop} {T g cap p : Nat} {cs : List PC} {u l : Int} {c : PC} (hb : w.heap[T]? = some (.cells #[.slice (some ⟨g, 0, none⟩) cs.length cap, .int .i64 u, .int .i64 l] 135 (0, 0))) (h : IsP w S T cs u l) (hc : cs[p]? = some c) (a : Int) :
    IsP (w.setCell ⟨g, p * 4 + 2, none⟩ (.int .i64 a)) S T (cs.set p ⟨c.key, a, c.kind⟩) u l ∧ Fr S w (w.setCell ⟨g, p * 4 + 2, none⟩ (.int .i64 a)) := by
  obtain ⟨v, hb2, ho, hS, hSv, hl⟩ := h
  rw [hb] at hb2
  simp only [Option.some.injEq, Obj.cells.injEq, and_true] at hb2
  have hv : v = .slice (some ⟨g, 0, none⟩) cs.length cap := by
    have h0 := congrArg (fun a : Array Value => a[0]?) hb2
    simpa using h0.symm
  subst hv
  have h := rw_put (j := p * 4 + 2) (u := .int .i64 a) hb ho hS hSv hl
  rw [pcs_at hc] at h
  refine ⟨?_, h.2⟩
  have h1 := h.1
  unfold IsP
  rw [List.length_set]
  exact h1
theorem IsT.gro {w w' : World} {S S2 : Nat → Prop} {T : Nat} {cs : List PC} (h : IsT w S T cs) (hf : Fr S2 w w') (hd : ∀ k, S k → ¬ S2 k) : IsT w' (Gro S w w') T cs := by
  have h2 := h.fr hf hd
  refine ⟨Rw.mono h2.is (fun k hk => .inl hk) (fun k hk => ?_), h.inv, h.room⟩
  rcases hk with hk | hk
  · exact Rw.lt h2.is hk
  · exact hk.2
theorem IsT.mono {w : World} {S S2 : Nat → Prop} {T : Nat} {cs : List PC} (h : IsT w S T cs) (hs : ∀ k, S k → S2 k) (hl : ∀ k, S2 k → k < w.heap.size) : IsT w S2 T cs := ⟨Rw.mono h.is hs hl, h.inv, h.room⟩
def PutPost (S : Nat → Prop) (T : Nat) (cs : List PC) (x : Nm) (a : Int) (w : World) (e : Ending) (w' : World) : Prop :=
  ∃ (b : Bool) (cs' : List PC), e = .returned (.bool b) ∧ (b = true ↔ ¬ IsIn cs x) ∧ IsT w' (Gro S w w') T cs' ∧ (∀ y c, Has cs' y c ↔ (Has cs y c ∧ y ≠ x) ∨ (y = x ∧ c = a)) ∧ cnt 1 cs' = cnt 1 cs + (if b = true then 1 else 0) ∧ Fr S w w'
theorem isin_of_has {cs ds : List PC} (h : ∀ y a, Has ds y a ↔ Has cs y a) (x : Nm) : IsIn ds x ↔ IsIn cs x := by
  have f : ∀ es : List PC, IsIn es x ↔ ∃ a, Has es x a := fun es => ⟨fun ⟨p, c, h1, h2, h3⟩ => ⟨c.at_, p, c, h1, h2, h3, rfl⟩, fun ⟨_, hh⟩ => has_in hh⟩
  rw [f, f]
  exact ⟨fun ⟨a, ha⟩ => ⟨a, (h x a).1 ha⟩, fun ⟨a, ha⟩ => ⟨a, (h x a).2 ha⟩⟩
set_option maxRecDepth 4000 in
set_option maxHeartbeats 6400000 in
theorem put_any (w : World) (S : Nat → Prop) (T : Nat) (cs : List PC) (x : Nm) (a : Int) (h : IsT w S T cs) (hu : cnt 1 cs ≤ 100000) :
    Calls Tryd.prog 57 #[.pointer (some ⟨T, 0, none⟩), .agg #[.int .u64 x.hi, .int .u64 x.lo], .int .i64 a] w (PutPost S T cs x a w) := by
  have HSlt := Lib.hid (fun k (hk : S k) => Rw.lt h.is hk)
  have HTl := Lib.hid (Rw.lt h.is (Rw.at_ h.is))
  have FA := Lib.hid ((Fr.refl (fun _ => False) w).alloc (.cells #[.int .u64 x.hi, .int .u64 x.lo] 24))
  have Bx := Lib.hid (heap_alloc_new w (.cells #[.int .u64 x.hi, .int .u64 x.lo] 24))
  have HTg := Lib.hid (h.gro FA.out (fun _ _ h => h))
  have HG := Lib.hid (fun N => grow_any ((w.alloc (.cells #[.int .u64 x.hi, .int .u64 x.lo] 24)).drewN N) S T cs (h.fr (FA.out.drewN N) (fun _ _ h => h)) hu)
  obtain ⟨hn8, hn30⟩ := h.inv.len
  have HR := Lib.hid h.room
  obtain ⟨v, hb, ho, -, -, -⟩ := h.is
  obtain ⟨g, cap, rfl⟩ := own_some ho (by omega)
  obtain ⟨u, hcu⟩ : ∃ u : Int, (cnt 1 cs : Int) = u := ⟨_, rfl⟩
  obtain ⟨l, hcl⟩ : ∃ l : Int, (cnt 2 cs : Int) = l := ⟨_, rfl⟩
  obtain ⟨n, hcn⟩ : ∃ n, cs.length = n := ⟨_, rfl⟩
  rw [hcu, hcl, hcn] at hb
  have hb1 := FA.out.blk hb (fun h => h)
  have c0 := blk_cell hb1 0 rfl
  have c1 := blk_cell hb1 1 rfl
  have c2 := blk_cell hb1 2 rfl
  have HU := Lib.hid hcu
  have HL := Lib.hid hcl
  have HN := Lib.hid hcn
  have hu0 : 0 ≤ u := by omega
  have hl0 : 0 ≤ l := by omega
  have hul : 4 * (u + l) ≤ 3 * (n : Int) := by have := HR.out; omega
  rw [hcn] at hn8 hn30
  have hn31 : (n : Int) ≤ 1073741824 := by omega
  have HU1 := Lib.hid hu
  clear h hb ho hcu hcl hcn hb1 hu
  have w1 : IntKind.i64.wrap (u + l) = u + l := IntWalk.i64_in _ (by omega)
  have w2 : IntKind.i64.wrap (u + l + 1) = u + l + 1 := IntWalk.i64_in _ (by omega)
  have w3 : IntKind.i64.wrap (4 * (u + l + 1)) = 4 * (u + l + 1) := IntWalk.i64_in _ (by omega)
  have w4 : IntKind.i64.wrap (3 * (n : Int)) = 3 * n := IntWalk.i64_in _ (by omega)
  go_enter Tryd.func57, Tryd.ntmps57
  go_upto_region 3 with fail
  go_quiet (fail)
  go_upto_if 28 with fail
  go_cut [] from 9 (fun w' => ∃ cs2, IsT w' (Gro S w w') T cs2 ∧ (∀ y b, Has cs2 y b ↔ Has cs y b) ∧ cnt 1 cs2 = cnt 1 cs ∧ 4 * (cnt 1 cs2 + cnt 2 cs2 + 1) ≤ 3 * cs2.length ∧ Fr S w w' ∧ w'.heap[w.heap.size]? = some (.cells #[.int .u64 x.hi, .int .u64 x.lo] 24 (0, 0)))
  case first =>
    by_cases hgr : 3 * (n : Int) < 4 * (u + l + 1)
    · go_wp2_with fail
      refine (HG.out _).mono ?_
      rintro e w2 ⟨cs2, rfl, h2, hh, h1, hc2, h3, f2⟩
      have HT2 := Lib.hid h2
      have HH := Lib.hid hh
      have H1 := Lib.hid h1
      have H2 := Lib.hid hc2
      have H3 := Lib.hid h3
      have F2 := Lib.hid f2
      clear h2 hh h1 hc2 h3 f2
      go_wp2_with fail
      go_meet
      have hsz := FA.out.size
      have hF : Fr S w w2 := ((FA.out.mono (fun _ h => h.elim)).drewN _).then_ F2.out (fun _ h => .inl h)
      refine ⟨cs2, HT2.out.mono (fun k hk => ?_) (fun k hk => ?_), HH.out, H1.out, ?_, hF, F2.out.blk Bx.out (fun h => ?_)⟩
      · rcases hk with hk | hk
        · exact .inl hk
        · exact .inr ⟨Nat.le_trans hsz hk.1, hk.2⟩
      · rcases hk with hk | hk
        · exact Nat.lt_of_lt_of_le (HSlt.out k hk) hF.size
        · exact hk.2
      · have := H1.out; have := H2.out; have := H3.out; omega
      · exact absurd (HSlt.out _ h) (Nat.lt_irrefl _)
    · go_wp2_with fail
      go_meet
      refine ⟨cs, HTg.out.fr ((Fr.refl (fun _ => False) _).drewN _) (fun _ _ h => h), fun _ _ => Iff.rfl, rfl, ?_, (FA.out.mono (fun _ h => h.elim)).drewN _, Bx.out⟩
      have := HU.out; have := HL.out; have := HN.out; omega
  case rest =>
    obtain ⟨ds, ht, hh, h1, h3, hf, hbx⟩ := hcut
    have HH := Lib.hid hh
    have H1 := Lib.hid h1
    have H3 := Lib.hid h3
    have HF := Lib.hid hf
    have HBx := Lib.hid hbx
    obtain ⟨S2, hS2⟩ : ∃ S2, Gro S w wc = S2 := ⟨_, rfl⟩
    rw [hS2] at ht
    have HS2 := Lib.hid (show ∀ k, S2 k → S k ∨ w.heap.size ≤ k from fun k hk => by rw [← hS2] at hk; exact hk.elim .inl (fun h => .inr h.1))
    have HS3 := Lib.hid (show ∀ k, S k → S2 k from fun k hk => by rw [← hS2]; exact .inl hk)
    clear hS2
    have HTc := Lib.hid ht
    obtain ⟨m8, m30⟩ := ht.inv.len
    have x0 := blk_cell hbx 0 rfl
    have x1 := blk_cell hbx 1 rfl
    have HFi := Lib.hid (ht.find x)
    clear ht hh h1 h3 hf hbx c0 c1 c2
    go_wp2_with fail
    refine HFi.out.mono ?_
    rintro e w2 ⟨p, b, rfl, hfd, f2⟩
    have HFd := Lib.hid hfd
    have F2 := Lib.hid (HF.out.then_ f2 (fun _ h => h.elim))
    have HT2 := Lib.hid (HTc.out.fr f2 (fun _ _ h => h))
    have HBx2 := Lib.hid (f2.blk HBx.out (fun h => h))
    have hp := hfd.1
    have HP := Lib.hid hp
    have hget : ds[p]? = some ds[p] := List.getElem?_eq_getElem hp
    obtain ⟨u2, hu2⟩ : ∃ u2 : Int, (cnt 1 ds : Int) = u2 := ⟨_, rfl⟩
    obtain ⟨l2, hl2⟩ : ∃ l2 : Int, (cnt 2 ds : Int) = l2 := ⟨_, rfl⟩
    have his : IsP w2 (S2) T ds u2 l2 := by rw [← hu2, ← hl2]; exact HT2.out.is
    have HIs := Lib.hid his
    have HU2 := Lib.hid hu2
    have HL2 := Lib.hid hl2
    have hv1 : 0 ≤ u2 := by omega
    have hv2 : 0 ≤ l2 := by omega
    have hv3 : u2 ≤ 100000 := by have := H1.out; have := HU1.out; omega
    have hv4 : l2 ≤ 1073741824 := by have := H3.out; omega
    obtain ⟨v, hb, ho, -, -, -⟩ := his
    obtain ⟨g2, cap2, rfl⟩ := own_some ho (by omega)
    have HB := Lib.hid hb
    have t0 := blk_cell hb 0 rfl
    have t1 := blk_cell hb 1 rfl
    have t2 := blk_cell hb 2 rfl
    have z1 := blk_free hb 1
    have z2 := blk_free hb 2
    have hpI : (p : Int) < ds.length := by omega
    obtain ⟨c, hce⟩ : ∃ c, ds[p] = c := ⟨_, rfl⟩
    have p2 := own_pc ho rfl hp 2 (by omega) (v := .int .i64 c.at_) (by have h := hce; subst h; rfl)
    have p3 := own_pc ho rfl hp 3 (by omega) (v := .int .u8 c.kind) (by have h := hce; subst h; rfl)
    have zp := ho.frozenAt (p * 4 + 2)
    rw [hce] at hget
    have HGt := Lib.hid hget
    have hkk := HTc.out.inv.kinds c (hce ▸ List.getElem_mem hp)
    have HIn := Lib.hid (isin_of_has HH.out x)
    clear hfd f2 hp hget hce hb ho hu2 hl2
    cases b with
    | true =>
      obtain ⟨key, at0, kind⟩ := c
      have hc3 : kind = 1 ∧ key = x := by
        rcases HFd.out.2 with ⟨_, d, h1, h2, h3⟩ | ⟨h, _⟩
        · rw [HGt.out] at h1
          obtain rfl := Option.some.inj h1
          exact ⟨h2, h3⟩
        · cases h
      obtain ⟨rfl, rfl⟩ := hc3
      clear hkk
      go_wp2_with fail
      go_ret
      have h5 := IsP.at_ HB.out HIs.out HGt.out a
      have k1 := cnt_set 1 (d := ⟨key, a, 1⟩) HGt.out
      have k2 := cnt_set 2 (d := ⟨key, a, 1⟩) HGt.out
      simp only [if_true] at k1
      simp only [show ¬ (1 : Int) = 2 by decide, if_false] at k2
      have k1' : cnt 1 (ds.set p ⟨key, a, 1⟩) = cnt 1 ds := by omega
      have k2' : cnt 2 (ds.set p ⟨key, a, 1⟩) = cnt 2 ds := by omega
      have hF := F2.out.then_ h5.2 HS2.out
      refine ⟨false, ds.set p ⟨key, a, 1⟩, rfl, ⟨fun h => Bool.noConfusion h, fun h => absurd (HIn.out.1 ⟨p, _, HGt.out, rfl, rfl⟩) h⟩, ⟨?_, HTc.out.inv.again HGt.out rfl a, by rw [k1', k2', List.length_set]; exact HTc.out.room⟩, fun y d => ?_, by rw [k1', H1.out]; rfl, hF⟩
      · rw [k1', k2', HU2.out, HL2.out]
        refine Rw.mono h5.1 (fun k hk => ?_) (fun k hk => ?_)
        · rcases HS2.out k hk with hk2 | hk2
          · exact .inl hk2
          · exact .inr ⟨hk2, Rw.lt h5.1 hk⟩
        · rcases hk with hk | hk
          · exact Nat.lt_of_lt_of_le (HSlt.out k hk) hF.size
          · exact hk.2
      · rw [has_again HTc.out.inv HGt.out rfl, HH.out]
    | false =>
      have hnk : c.kind ≠ 1 ∧ ¬ IsIn ds x ∧ Reach ds (home ds.length x) p := by
        rcases HFd.out.2 with ⟨h, _⟩ | ⟨_, h1, h2, h3⟩
        · cases h
        · exact ⟨by rw [knd_at HGt.out] at h1; exact h1, h2, h3⟩
      have HNk := Lib.hid hnk
      have k1 := cnt_set 1 (d := ⟨x, a, 1⟩) HGt.out
      have k2 := cnt_set 2 (d := ⟨x, a, 1⟩) HGt.out
      rw [if_pos rfl, if_neg hnk.1] at k1
      rw [if_neg (show ¬ (1 : Int) = 2 by decide)] at k2
      have K1 := Lib.hid k1
      have K2 := Lib.hid k2
      obtain ⟨kind, hkd⟩ : ∃ kind, c.kind = kind := ⟨_, rfl⟩
      rw [hkd] at p3 hkk
      have HKd := Lib.hid hkd
      have hk02 : kind = 0 ∨ kind = 2 := by have := hnk.1; omega
      clear hnk k1 k2 hkd hkk
      go_upto_if 54 with fail
      go_cut [] from 9 (fun w' => IsP w' (S2) T ds u2 (cnt 2 (ds.set p ⟨x, a, 1⟩) : Nat) ∧ Fr S2 w2 w' ∧ w'.heap[w.heap.size]? = some (.cells #[.int .u64 x.hi, .int .u64 x.lo] 24 (0, 0)))
      case first =>
        rcases hk02 with rfl | rfl
        · go_wp2_with fail
          go_meet
          have e : ((cnt 2 (ds.set p ⟨x, a, 1⟩) : Nat) : Int) = l2 := by have := K2.out; rw [HKd.out] at this; simp at this; have := HL2.out; omega
          rw [e]
          exact ⟨HIs.out, Fr.refl _ _, HBx2.out⟩
        · go_wp2_with fail
          go_meet
          have e : ((cnt 2 (ds.set p ⟨x, a, 1⟩) : Nat) : Int) = l2 - 1 := by have := K2.out; rw [HKd.out] at this; simp at this; have := HL2.out; omega
          rw [e]
          exact ⟨(HIs.out.set2 (l2 - 1)).1, (HIs.out.set2 (l2 - 1)).2, blk_far2 HBx2.out (fun e => absurd HTl.out (by rw [← e]; exact Nat.lt_irrefl _)) _⟩
      case rest =>
        obtain ⟨his3, f3, hbx3⟩ := hcut
        have HF3 := Lib.hid (F2.out.then_ f3 HS2.out)
        obtain ⟨l3, hl3⟩ : ∃ l3 : Int, ((cnt 2 (ds.set p ⟨x, a, 1⟩) : Nat) : Int) = l3 := ⟨_, rfl⟩
        rw [hl3] at his3
        have HL3 := Lib.hid hl3
        have HIs3 := Lib.hid his3
        obtain ⟨v, hb, ho, -, -, -⟩ := his3
        obtain ⟨g3, cap3, rfl⟩ := own_some ho (by omega)
        have HB3 := Lib.hid hb
        have s0 := blk_cell hb 0 rfl
        have y0 := blk_cell hbx3 0 rfl
        have y1 := blk_cell hbx3 1 rfl
        clear f3 hbx3 hl3 hb ho x0 x1 t0 t1 t2 z1 z2 p2 p3 zp
        go_upto_region 11 with fail
        go_still_tail 9, (by kernel_rfl)
        refine wpList_store_pc rfl (.tmp 70) (.tmp 69) rfl ⟨x, a, 1⟩ rfl rfl HB3.out (Rw.drew HIs3.out) HP.out rfl ?_
        intro w4 hb4 h4 f4
        have HIs4 := Lib.hid h4
        have HF4 := Lib.hid (HF3.out.drew.then_ f4 HS2.out)
        have q1 := blk_cell hb4 1 rfl
        have q1z := blk_free hb4 1
        clear h4 f4 hb4
        go_wp2_with fail
        go_ret
        have h5 := HIs4.out.set1 (u2 + 1)
        have hF := HF4.out.then_ h5.2 HS2.out
        have k1 := K1.out
        have k2 := K2.out
        have k1' : cnt 1 (ds.set p ⟨x, a, 1⟩) = cnt 1 ds + 1 := by omega
        have k2' : cnt 2 (ds.set p ⟨x, a, 1⟩) ≤ cnt 2 ds := by split at k2 <;> omega
        refine ⟨true, ds.set p ⟨x, a, 1⟩, rfl, ⟨fun _ h => HNk.out.2.1 (HIn.out.2 h), fun _ => rfl⟩, ⟨?_, HTc.out.inv.put HGt.out HNk.out.1 a HNk.out.2.1 HNk.out.2.2, ?_⟩, fun y d => ?_, by rw [k1', H1.out]; rfl, hF⟩
        · have e1 : ((cnt 1 (ds.set p ⟨x, a, 1⟩) : Nat) : Int) = u2 + 1 := by rw [k1']; have := HU2.out; omega
          rw [e1, HL3.out]
          refine Rw.mono h5.1 (fun k hk => ?_) (fun k hk => ?_)
          · rcases HS2.out k hk with hk2 | hk2
            · exact .inl hk2
            · exact .inr ⟨hk2, Rw.lt h5.1 hk⟩
          · rcases hk with hk | hk
            · exact Nat.lt_of_lt_of_le (HSlt.out k hk) hF.size
            · exact hk.2
        · rw [k1', List.length_set]; have := H3.out; omega
        · rw [has_put HGt.out HNk.out.1 HNk.out.2.1, HH.out]
          refine ⟨fun h => h.elim (fun h => .inl ⟨h, fun e => HNk.out.2.1 (e ▸ has_in ((HH.out y d).2 h))⟩) .inr, fun h => h.elim (fun h => .inl h.1) .inr⟩
end Go.Proofs.YtjchjpmgbmeohaaDoor

/- Package probe: New, Len, a nil table; what the law's alive asks. -/
set_option linter.unusedSimpArgs false
set_option linter.unusedVariables false
namespace Go.Proofs.YtjchjpmgbmeohaaDoor
open Go.RowKit

def empty8 : List PC := List.replicate 8 PC.zero
theorem empty8_len : empty8.length = 8 := List.length_replicate
theorem empty8_cnt (q : Int) (hq : q ≠ 0) : cnt q empty8 = 0 := by
  rw [cnt, List.length_eq_zero_iff, List.filter_eq_nil_iff]
  intro c hc
  rw [empty8, List.mem_replicate] at hc
  rw [hc.2]
  simpa [PC.zero] using fun h => hq h.symm
theorem empty8_in (x : Nm) : ¬ IsIn empty8 x := by
  rintro ⟨p, c, hc, hk, _⟩
  have := List.mem_of_getElem? hc
  rw [empty8, List.mem_replicate] at this
  rw [this.2] at hk
  exact absurd hk (by decide)
theorem empty8_has (x : Nm) (a : Int) : ¬ Has empty8 x a := fun h => empty8_in x (has_in h)
def NewPost (w : World) (e : Ending) (w' : World) : Prop := ∃ T S, e = .returned (.pointer (some ⟨T, 0, none⟩)) ∧ IsT w' S T empty8 ∧ (∀ k, S k → w.heap.size ≤ k) ∧ Fr (fun _ => False) w w'
set_option maxHeartbeats 1600000 in
theorem new_any (w : World) : Calls Tryd.prog 51 #[] w (NewPost w) := by
  obtain ⟨ic, hic, hcz0, hcz1, hcz2⟩ := info_parts Tryd.infoCell
  have hmk : ∀ w : World, (Instr.makeSlice 133 (.int .i64 8) (.int .i64 8)).run Tryd.prog w = .ok (.slice (some ⟨w.heap.size, 0, none⟩) 8 8) (w.alloc (.cells (pcs empty8).toArray 141)) := fun w => by
    have h8 : ∀ n : Nat, n ≤ 8 → (Instr.makeSlice 133 (.int .i64 n) (.int .i64 n)).run Tryd.prog w = .ok (.slice (some ⟨w.heap.size, 0, none⟩) n n) (w.alloc (.cells (pcs (List.replicate n PC.zero)).toArray 141)) := fun n hn => by
      have h := run_make (P := Tryd.prog) w 133 141 ic (.agg #[.int .u64 0, .int .u64 0, .int .i64 0, .int .u8 0]) Tryd.underlying133 hic hcz0 .i64 .i64 n n (by omega) (Int.le_refl _) (by rw [hcz2]; omega) (by omega)
      rw [hcz1] at h
      simpa [Value.cells, made_pcs] using h
    exact h8 8 (Nat.le_refl _)
  have ho := World.ownsRow_lit (base := 0) (e := 141) (size := 4) w (pcs empty8).toArray 8 (Nat.zero_le _) (by unfold maxLen; omega) (by simp [pcs_len, empty8_len])
  have FA := (Fr.refl (fun _ => False) w).alloc (.cells (pcs empty8).toArray 141)
  have FB := (Fr.refl (fun _ => False) (w.alloc (.cells (pcs empty8).toArray 141))).alloc (.cells #[.slice (some ⟨w.heap.size, 0, none⟩) 8 8, .int .i64 0, .int .i64 0] 135)
  have hz : (w.alloc (.cells (pcs empty8).toArray 141)).heap.size = w.heap.size + 1 := Array.size_push ..
  have hz2 : ((w.alloc (.cells (pcs empty8).toArray 141)).alloc (.cells #[.slice (some ⟨w.heap.size, 0, none⟩) 8 8, .int .i64 0, .int .i64 0] 135)).heap.size = w.heap.size + 1 + 1 := (Array.size_push ..).trans (by rw [hz])
  have hb := heap_alloc_new (w.alloc (.cells (pcs empty8).toArray 141)) (.cells #[.slice (some ⟨w.heap.size, 0, none⟩) 8 8, .int .i64 0, .int .i64 0] 135)
  rw [hz] at hb
  have HT : IsT ((w.alloc (.cells (pcs empty8).toArray 141)).alloc (.cells #[.slice (some ⟨w.heap.size, 0, none⟩) 8 8, .int .i64 0, .int .i64 0] 135)) (fun j => j = w.heap.size ∨ j = w.heap.size + 1) (w.heap.size + 1) empty8 := by
    refine ⟨⟨.slice (some ⟨w.heap.size, 0, none⟩) 8 8, ?_, ?_, .inr rfl, fun k hk => ?_, fun k hk => ?_⟩, pinv_empty (e := 3) rfl (by omega) (by omega), ?_⟩
    · rw [empty8_cnt 1 (by decide), empty8_cnt 2 (by decide)]
      simpa using hb
    · have h := own_fr ho FB (fun _ _ h => h)
      rw [empty8_len]
      simpa using h
    · simp only [Value.ownBlock, Option.some.injEq] at hk
      subst hk
      exact ⟨.inl rfl, by omega⟩
    · rw [hz2]
      rcases hk with rfl | rfl <;> omega
    · rw [empty8_cnt 1 (by decide), empty8_cnt 2 (by decide)]
      exact Nat.zero_le _
  have HH := Lib.hid HT
  have HF := Lib.hid (FA.then_ FB (fun _ h => h.elim))
  have HZ := Lib.hid hz
  clear ho FA FB hz hz2 hb HT
  go_enter Tryd.func51, Tryd.ntmps51
  go_wp2_with fail
  go_ret
  refine ⟨w.heap.size + 1, _, by rw [← HZ.out]; rfl, HH.out, fun k hk => ?_, HF.out⟩
  rcases hk with rfl | rfl <;> omega
def five : Nm := ⟨0, 5⟩
theorem nil_get (w : World) (x : Nm) : Calls Tryd.prog 55 #[.pointer none, .agg #[.int .u64 x.hi, .int .u64 x.lo]] w fun e w' => e = .returned (.tuple #[.int .i64 0, .bool false]) ∧ Fr (fun _ => False) w w' := by
  have FA := Lib.hid ((Fr.refl (fun _ => False) w).alloc (.cells #[.int .u64 x.hi, .int .u64 x.lo] 24))
  go_enter Tryd.func55, Tryd.ntmps55
  go_wp2_with fail
  go_ret2
  exact ⟨rfl, by (repeat (first | (with_reducible exact Fr.refl _ _) | (with_reducible refine Fr.drew ?_) | (with_reducible refine Fr.drewN ?_ _) | (with_reducible refine Fr.alloc ?_ _) | (with_reducible refine Fr.set1 ?_ _) | (with_reducible refine Fr.setNew ?_ (by omega) _)))⟩
theorem nil_put (w : World) (x : Nm) (a : Int) : Calls Tryd.prog 57 #[.pointer none, .agg #[.int .u64 x.hi, .int .u64 x.lo], .int .i64 a] w fun e w' => e = .returned (.bool false) ∧ Fr (fun _ => False) w w' := by
  go_enter Tryd.func57, Tryd.ntmps57
  go_wp2_with fail
  go_ret
  exact ⟨rfl, by (repeat (first | (with_reducible exact Fr.refl _ _) | (with_reducible refine Fr.drew ?_) | (with_reducible refine Fr.drewN ?_ _) | (with_reducible refine Fr.alloc ?_ _) | (with_reducible refine Fr.set1 ?_ _) | (with_reducible refine Fr.setNew ?_ (by omega) _)))⟩
theorem nil_drop (w : World) (x : Nm) : Calls Tryd.prog 60 #[.pointer none, .agg #[.int .u64 x.hi, .int .u64 x.lo]] w fun e w' => e = .returned (.bool false) ∧ Fr (fun _ => False) w w' := by
  go_enter Tryd.func60, Tryd.ntmps60
  go_wp2_with fail
  go_ret
  exact ⟨rfl, by (repeat (first | (with_reducible exact Fr.refl _ _) | (with_reducible refine Fr.drew ?_) | (with_reducible refine Fr.drewN ?_ _) | (with_reducible refine Fr.alloc ?_ _) | (with_reducible refine Fr.set1 ?_ _) | (with_reducible refine Fr.setNew ?_ (by omega) _)))⟩
end Go.Proofs.YtjchjpmgbmeohaaDoor

/- '==' of the structs that this seat compares. -/
set_option linter.unusedSimpArgs false
set_option linter.unusedVariables false
namespace Go.Proofs.YtjchjpmgbmeohaaDoor
open Go.RowKit

theorem eq_Tx (d : Nat) (w : World) (x0 y0 x1 y1 x2 y2 x3 y3 x4 y4 x5 y5 x6 y6 x7 y7 x8 y8 x9 y9 x10 y10 x11 y11 x12 y12 x13 y13 x14 y14 x15 y15 : Int) :
    (Op.equalIn (d + 3) 40 (.agg #[.int .u64 x0, .int .u64 x1, .int .u64 x2, .int .u64 x3, .int .u64 x4, .int .u64 x5, .int .u64 x6, .int .u64 x7, .int .u64 x8, .int .u64 x9, .int .i64 x10, .int .i64 x11, .int .i64 x12, .int .i64 x13, .int .i64 x14, .int .i64 x15]) (.agg #[.int .u64 y0, .int .u64 y1, .int .u64 y2, .int .u64 y3, .int .u64 y4, .int .u64 y5, .int .u64 y6, .int .u64 y7, .int .u64 y8, .int .u64 y9, .int .i64 y10, .int .i64 y11, .int .i64 y12, .int .i64 y13, .int .i64 y14, .int .i64 y15])).run Tryd.prog w = .ok ((x0 == y0 && (x1 == y1)) && ((x2 == y2 && (x3 == y3)) && ((x4 == y4 && (x5 == y5)) && ((x6 == y6 && (x7 == y7)) && ((x8 == y8 && (x9 == y9)) && (x10 == y10 && (x11 == y11 && (x12 == y12 && (x13 == y13 && (x14 == y14 && (x15 == y15))))))))))) w := by
  refine eqs_of Tryd.underlying40 (by kernel_rfl) ?_
  refine eqs_cons (by decide) (by go_simp) (by go_simp) (eq_Num (d + 0) w _ _ _ _) ?_
  refine eqs_cons (by decide) (by go_simp) (by go_simp) (eq_Num (d + 0) w _ _ _ _) ?_
  refine eqs_cons (by decide) (by go_simp) (by go_simp) (eq_Num (d + 0) w _ _ _ _) ?_
  refine eqs_cons (by decide) (by go_simp) (by go_simp) (eq_Num (d + 0) w _ _ _ _) ?_
  refine eqs_cons (by decide) (by go_simp) (by go_simp) (eq_Num (d + 0) w _ _ _ _) ?_
  refine eqs_cons (by decide) (by go_simp; rfl) (by go_simp; rfl) (by go_simp) ?_
  refine eqs_cons (by decide) (by go_simp; rfl) (by go_simp; rfl) (by go_simp) ?_
  refine eqs_cons (by decide) (by go_simp; rfl) (by go_simp; rfl) (by go_simp) ?_
  refine eqs_cons (by decide) (by go_simp; rfl) (by go_simp; rfl) (by go_simp) ?_
  refine eqs_cons (by decide) (by go_simp; rfl) (by go_simp; rfl) (by go_simp) ?_
  exact eqs_last (by decide) (by go_simp; rfl) (by go_simp; rfl) (by go_simp)
theorem eqm_Tx (w : World) (x0 y0 x1 y1 x2 y2 x3 y3 x4 y4 x5 y5 x6 y6 x7 y7 x8 y8 x9 y9 x10 y10 x11 y11 x12 y12 x13 y13 x14 y14 x15 y15 : Int) :
    (Op.equalIn 10000 40 (.agg #[.int .u64 x0, .int .u64 x1, .int .u64 x2, .int .u64 x3, .int .u64 x4, .int .u64 x5, .int .u64 x6, .int .u64 x7, .int .u64 x8, .int .u64 x9, .int .i64 x10, .int .i64 x11, .int .i64 x12, .int .i64 x13, .int .i64 x14, .int .i64 x15]) (.agg #[.int .u64 y0, .int .u64 y1, .int .u64 y2, .int .u64 y3, .int .u64 y4, .int .u64 y5, .int .u64 y6, .int .u64 y7, .int .u64 y8, .int .u64 y9, .int .i64 y10, .int .i64 y11, .int .i64 y12, .int .i64 y13, .int .i64 y14, .int .i64 y15])).run Tryd.prog w = .ok ((x0 == y0 && (x1 == y1)) && ((x2 == y2 && (x3 == y3)) && ((x4 == y4 && (x5 == y5)) && ((x6 == y6 && (x7 == y7)) && ((x8 == y8 && (x9 == y9)) && (x10 == y10 && (x11 == y11 && (x12 == y12 && (x13 == y13 && (x14 == y14 && (x15 == y15))))))))))) w := eq_Tx 9997 w _ _ _ _ _ _ _ _ _ _ _ _ _ _ _ _ _ _ _ _ _ _ _ _ _ _ _ _ _ _ _ _ 

end Go.Proofs.YtjchjpmgbmeohaaDoor

/- Package xfer: Ends, Pending, Balances, together, ending, moving, Check. -/
set_option linter.unusedSimpArgs false
set_option linter.unusedVariables false
namespace Go.Proofs.YtjchjpmgbmeohaaDoor
open Go.RowKit

structure Tx where
  id : Nm
  debit : Nm
  credit : Nm
  amount : Nm
  pending : Nm
  timeout : Int
  ledger : Int
  code : Int
  flags : Int
  stamp : Int
  born : Int
def Tx.val (a : Tx) : Value := .agg #[.int .u64 a.id.hi, .int .u64 a.id.lo, .int .u64 a.debit.hi, .int .u64 a.debit.lo, .int .u64 a.credit.hi, .int .u64 a.credit.lo, .int .u64 a.amount.hi, .int .u64 a.amount.lo, .int .u64 a.pending.hi, .int .u64 a.pending.lo, .int .i64 a.timeout, .int .i64 a.ledger, .int .i64 a.code, .int .i64 a.flags, .int .i64 a.stamp, .int .i64 a.born]
structure Tx.ok (a : Tx) : Prop where
  id : a.id.ok
  debit : a.debit.ok
  credit : a.credit.ok
  amount : a.amount.ok
  pending : a.pending.ok
  timeout : -9223372036854775808 ≤ a.timeout ∧ a.timeout ≤ 9223372036854775807
  ledger : -9223372036854775808 ≤ a.ledger ∧ a.ledger ≤ 9223372036854775807
  code : -9223372036854775808 ≤ a.code ∧ a.code ≤ 9223372036854775807
  flags : -9223372036854775808 ≤ a.flags ∧ a.flags ≤ 9223372036854775807
  stamp : -9223372036854775808 ≤ a.stamp ∧ a.stamp ≤ 9223372036854775807
  born : -9223372036854775808 ≤ a.born ∧ a.born ≤ 9223372036854775807
/-- The flags go together. -/
def Tx.together (a : Tx) : Bool :=
  !((bits .and .i64 a.flags 2 != 0 && bits .and .i64 a.flags 4 != 0) || (bits .and .i64 a.flags 2 != 0 && bits .and .i64 a.flags 8 != 0) || (bits .and .i64 a.flags 4 != 0 && bits .and .i64 a.flags 8 != 0)) &&
    (!(bits .and .i64 a.flags 12 != 0 && bits .and .i64 a.flags 240 != 0) && (bits .and .i64 a.flags 192 == 0 || bits .and .i64 a.flags 2 != 0))

end Go.Proofs.YtjchjpmgbmeohaaDoor
