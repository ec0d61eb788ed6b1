/- sort.Search; find. -/
import Derived.Test.YtjegnhcpepkpoaaOrd
namespace Go.Proofs.Ytjegnhcpepkpoaa
open Go.RowKit

set_option maxHeartbeats 3200000 in
theorem search_any (w : World) (bl bs L r : Nat) (S : Nat → Prop) (ps : List Pr) (s : Int) (hbl : w.heap[bl]? = some (.cells #[.pointer (some ⟨L, 0, none⟩)] 24 (0, 0))) (hbs : w.heap[bs]? = some (.cells #[.int .i64 s] 3 (0, 0))) (h : IsO w S L ps) (hn : ps.length ≤ 1000000)
    (hr : r ≤ ps.length) (hlo : ∀ i (hi : i < ps.length), i < r → ps[i].1 < s) (hhi : ∀ i (hi : i < ps.length), r ≤ i → s ≤ ps[i].1) :
    Calls Try.prog 20 #[.int .i64 ps.length, .func (.func 21) #[] #[.pointer (some ⟨bl, 0, none⟩), .pointer (some ⟨bs, 0, none⟩)]] w fun e w' => e = .returned (.int .i64 r) ∧ Fr (fun _ => False) w w' := by
  have HC := Lib.hid (show ∀ W i, Fr (fun _ => False) w W → i < ps.length → Calls Try.prog 21 #[.int .i64 i, .pointer (some ⟨bl, 0, none⟩), .pointer (some ⟨bs, 0, none⟩)] W fun e w' => e = .returned (.bool (decide (r ≤ i))) ∧ Fr (fun _ => False) W w' from fun W i hf hi => by
    have q := less_any W bl bs L i S ps s (hf.blk hbl (fun h => h)) (hf.blk hbs (fun h => h)) (IsO.fr (S2 := fun _ => False) h hf (fun _ _ h => h)) hi hn
    have e : decide (s ≤ ps[i].1) = decide (r ≤ i) := by
      by_cases hc : r ≤ i
      · rw [decide_eq_true hc, decide_eq_true (hhi i hi hc)]
      · rw [decide_eq_false hc, decide_eq_false (by have := hlo i hi (by omega); omega)]
    rwa [e] at q)
  obtain ⟨n, hnn⟩ : ∃ n, ps.length = n := ⟨_, rfl⟩
  rw [hnn] at hn hr HC ⊢
  clear hbl hbs h hlo hhi hnn
  go_enter Try.func20, Try.ntmps20
  go_wp2_with fail
  go_loopw [5, 6] (fun a b wr => ∃ i j : Nat, i ≤ r ∧ r ≤ j ∧ j ≤ n ∧ a = .int .i64 i ∧ b = .int .i64 j ∧ Fr (fun _ => False) w wr) (fun a b _ => (intOf b - intOf a).toNat)
  case atStart => exact ⟨0, n, by omega, hr, Nat.le_refl _, rfl, rfl, Fr.refl _ _⟩
  case round =>
    obtain ⟨i, j, hi, hj, hjn, rfl, rfl, hf⟩ := hrel
    have HF := Lib.hid hf
    clear hf
    by_cases hlt : (i : Int) < j
    · have w1 : IntKind.i64.wrap ((i : Int) + j) = i + j := IntWalk.i64_in _ (by omega)
      have w2 : IntKind.u64.wrap ((i : Int) + j) = i + j := by rw [IntKind.wrap_u64]; omega
      go_wp2_with fail
      obtain ⟨m, hm⟩ : ∃ m : Nat, ((i : Int) + j) / 2 = m := ⟨(i + j) / 2, by omega⟩
      have hmi : i ≤ m := by omega
      have hmj : m < j := by omega
      rw [hm]
      clear hm w1 w2
      with_reducible refine (HC.out wr m HF.out (by omega)).mono ?_
      rintro e w2 ⟨rfl, f2⟩
      have F2 := Lib.hid f2
      have w3 : IntKind.i64.wrap ((m : Int) + 1) = m + 1 := IntWalk.i64_in _ (by omega)
      clear f2
      by_cases hc : r ≤ m
      · rw [decide_eq_true hc]
        go_wp2_with fail
        go_roundw
        case rel => exact ⟨i, m, hi, hc, by omega, rfl, rfl, HF.out.then_ F2.out (fun _ h => h.elim)⟩
        case measure => simp [intOf]; omega
      · rw [decide_eq_false hc]
        go_wp2_with fail
        go_roundw
        case rel => exact ⟨m + 1, j, by omega, hj, by omega, by go_num, rfl, HF.out.then_ F2.out (fun _ h => h.elim)⟩
        case measure => simp [intOf]; omega
    · obtain rfl : i = r := by omega
      go_wp2_with fail
      go_ret
      exact ⟨rfl, HF.out⟩

/-- The place of the first stamp that isn't below one. -/
def low : List Pr → Int → Nat
  | [], _ => 0
  | p :: ps, s => if p.1 < s then low ps s + 1 else 0
theorem low_le (ps : List Pr) (s : Int) : low ps s ≤ ps.length := by
  induction ps with
  | nil => simp [low]
  | cons p ps ih =>
    simp only [low, List.length_cons]
    split <;> omega
/-- Strictly rising. -/
def Ris (ps : List Pr) : Prop := ps.Pairwise (fun p q => p.1 < q.1)
theorem low_lo {ps : List Pr} {s : Int} {i : Nat} (hi : i < ps.length) (h : i < low ps s) : ps[i].1 < s := by
  induction ps generalizing i with
  | nil => simp at hi
  | cons p ps ih =>
    simp only [low] at h
    split at h
    · rename_i hp
      cases i with
      | zero => exact hp
      | succ i => exact ih (by simpa using hi) (by omega)
    · omega
theorem low_hi {ps : List Pr} (hR : Ris ps) {s : Int} {i : Nat} (hi : i < ps.length) (h : low ps s ≤ i) : s ≤ ps[i].1 := by
  induction ps generalizing i with
  | nil => simp at hi
  | cons p ps ih =>
    have hr := List.pairwise_cons.1 hR
    simp only [low] at h
    split at h
    · rename_i hp
      cases i with
      | zero => omega
      | succ i => exact ih hr.2 (by simpa using hi) (by omega)
    · rename_i hp
      cases i with
      | zero => simp; omega
      | succ i =>
        have h1 : i < ps.length := by simpa using hi
        have := hr.1 ps[i] (List.getElem_mem h1)
        simp only [List.getElem_cons_succ]
        omega

set_option maxHeartbeats 1600000 in
theorem find_any (w : World) (L : Nat) (S : Nat → Prop) (ps : List Pr) (s : Int) (h : IsO w S L ps) (hn : ps.length ≤ 1000000) (hR : Ris ps) :
    Calls Try.prog 18 #[.pointer (some ⟨L, 0, none⟩), .int .i64 s] w fun e w' => e = .returned (.int .i64 (low ps s)) ∧ Fr (fun _ => False) w w' := by
  have H := Lib.hid h
  have hmf : ∀ (fn : Fn) (first cap : Array Value) (w : World), (Instr.makeFunc fn first cap).run Try.prog w = .ok (.func fn first cap) w := fun _ _ _ _ => rfl
  have HS := Lib.hid (show ∀ W bl bs, W.heap[bl]? = some (.cells #[.pointer (some ⟨L, 0, none⟩)] 24 (0, 0)) → W.heap[bs]? = some (.cells #[.int .i64 s] 3 (0, 0)) → IsO W S L ps → Calls Try.prog 20 #[.int .i64 ps.length, .func (.func 21) #[] #[.pointer (some ⟨bl, 0, none⟩), .pointer (some ⟨bs, 0, none⟩)]] W fun e w' => e = .returned (.int .i64 (low ps s)) ∧ Fr (fun _ => False) W w' from fun W bl bs h1 h2 h3 =>
    search_any W bl bs L (low ps s) S ps s h1 h2 h3 hn (low_le ps s) (fun i hi h => low_lo hi h) (fun i hi h => low_hi hR hi h))
  obtain ⟨v, hb, ho, -, -, -⟩ := h
  obtain ⟨a, cap, rfl, -, -⟩ := own_form ho
  have c0 := blk_cell hb 0 rfl
  have hLlt := blk_lt hb
  have B1 := Lib.hid (blk_alloc (heap_alloc_new w (.cells #[.pointer (some ⟨L, 0, none⟩)] 24)) (.cells #[.int .i64 s] 3))
  have B2 := Lib.hid (show ((w.alloc (.cells #[.pointer (some ⟨L, 0, none⟩)] 24)).alloc (.cells #[.int .i64 s] 3)).heap[w.heap.size + 1]? = some (.cells #[.int .i64 s] 3 (0, 0)) from by
    have h := heap_alloc_new (w.alloc (.cells #[.pointer (some ⟨L, 0, none⟩)] 24)) (.cells #[.int .i64 s] 3)
    rwa [show (w.alloc (.cells #[.pointer (some ⟨L, 0, none⟩)] 24)).heap.size = w.heap.size + 1 from Array.size_push ..] at h)
  clear hb ho
  go_enter Try.func18, Try.ntmps18
  go_wp2_with (go_at_call 20; go_must (with_reducible refine (HS.out _ _ _ B1.out B2.out (IsO.fr (S2 := fun _ => False) H.out (by repeat (first | (with_reducible exact Fr.refl _ _) | (with_reducible refine Fr.drew ?_) | (with_reducible refine Fr.drewN ?_ _) | (with_reducible refine Fr.alloc ?_ _) | (with_reducible refine Fr.set1 ?_ _) | (with_reducible refine Fr.setNew ?_ (by omega) _))) (fun _ _ h => h))).mono ?_); rintro e w2 ⟨rfl, f2⟩; have F2 := Lib.hid f2; clear f2)
  go_ret
  exact ⟨rfl, Fr.then_ (by repeat (first | (with_reducible exact Fr.refl _ _) | (with_reducible refine Fr.drew ?_) | (with_reducible refine Fr.drewN ?_ _) | (with_reducible refine Fr.alloc ?_ _) | (with_reducible refine Fr.set1 ?_ _) | (with_reducible refine Fr.setNew ?_ (by omega) _))) F2.out (fun _ h => h.elim)⟩
end Go.Proofs.Ytjegnhcpepkpoaa
