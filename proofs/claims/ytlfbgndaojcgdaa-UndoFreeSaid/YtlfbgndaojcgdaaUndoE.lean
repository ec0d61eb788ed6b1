/- Law 14: calls; edit. -/
import Derived.Test.YtlfbgndaojcgdaaUndoD
namespace Go.Proofs.Ytlfbgndaojcgdaa
open Go.RowKit

structure Cal where
  kind : Int
  second : Bool
  i : Int
  x : Int
def Cal.cells (c : Cal) : List Value := [.int .i64 c.kind, .bool c.second, .int .i64 c.i, .int .i64 c.x]
def Cal.run (xs : List Int) (c : Cal) : List Int := if c.kind = 0 then xs ++ [c.x] else if c.kind = 1 then setI xs c.i c.x else xs
def runs (xs : List Int) (cs : List Cal) : List Int := cs.foldl Cal.run xs
theorem setI_len (xs : List Int) (i x : Int) : (setI xs i x).length = xs.length := by unfold setI; split <;> simp
theorem run_len (xs : List Int) (c : Cal) : (c.run xs).length ≤ xs.length + 1 := by
  unfold Cal.run
  split
  · simp
  · split
    · rw [setI_len]; omega
    · omega
theorem runs_len (xs : List Int) (cs : List Cal) : (runs xs cs).length ≤ xs.length + cs.length := by
  induction cs generalizing xs with
  | nil => simp [runs]
  | cons c cs ih =>
    have h := ih (c.run xs)
    have h2 := run_len xs c
    simp only [runs, List.foldl_cons, List.length_cons] at h ⊢
    omega
theorem runs_succ {xs : List Int} {cs : List Cal} {k : Nat} (h : k < cs.length) : runs xs (cs.take (k + 1)) = cs[k].run (runs xs (cs.take k)) := by
  rw [List.take_succ_eq_append_getElem h, runs, List.foldl_append]; rfl

theorem Row.cal {w : World} {a : Option Addr} {l : List Cal} (h : Row w a (l.flatMap Cal.cells)) {i : Nat} (hi : i < l.length) :
    ∃ b off, a = some ⟨b, off, none⟩ ∧ b < w.heap.size ∧ w.cell? ⟨b, off + i * 4, none⟩ = some (.int .i64 l[i].kind) ∧ w.cell? ⟨b, off + i * 4 + 1, none⟩ = some (.bool l[i].second) ∧ w.cell? ⟨b, off + i * 4 + 2, none⟩ = some (.int .i64 l[i].i) ∧
      w.cell? ⟨b, off + i * 4 + 3, none⟩ = some (.int .i64 l[i].x) := by
  have g : ∀ j u, j < 4 → (Cal.cells l[i])[j]? = some u → ∃ b off, a = some ⟨b, off, none⟩ ∧ w.cell? ⟨b, off + i * 4 + j, none⟩ = some u := fun j u hj hu => by
    obtain ⟨b, off, e, hc⟩ := h (i * 4 + j) u ((flat_get (f := Cal.cells) (n := 4) (fun _ => rfl) l i hi j hj).trans hu)
    exact ⟨b, off, e, by rw [Nat.add_assoc]; exact hc⟩
  obtain ⟨b, off, e, c0⟩ := g 0 _ (by omega) rfl
  subst e
  have g2 : ∀ j u, j < 4 → (Cal.cells l[i])[j]? = some u → w.cell? ⟨b, off + i * 4 + j, none⟩ = some u := fun j u hj hu => by
    obtain ⟨b', off', e, hc⟩ := g j u hj hu
    simp only [Option.some.injEq, Addr.mk.injEq] at e
    obtain ⟨rfl, rfl, _⟩ := e
    exact hc
  exact ⟨b, off, rfl, World.block_lt_of_cell? w _ c0, c0, g2 1 _ (by omega) rfl, g2 2 _ (by omega) rfl, g2 3 _ (by omega) rfl⟩

theorem row_lt {w : World} {a : Option Addr} {l : List Cal} (h : Row w a (l.flatMap Cal.cells)) (hl : 0 < l.length) : ∀ b, a = some b → b.block < w.heap.size := fun b hb => by
  obtain ⟨b', off, e, hlt, _⟩ := h.cal hl
  rw [hb] at e
  simp only [Option.some.injEq] at e
  rw [e]
  exact hlt
theorem sg_join {w wr W w2 : World} {S G S' G' S2 G2 : Nat → Prop} (hF : Fr (fun k => S k ∨ G k) w wr) (hG : ∀ k, S' k ∨ G' k → S k ∨ G k ∨ w.heap.size ≤ k) (hW : Fr (fun _ => False) wr W) (f2 : Fr (fun k => S' k ∨ G' k) W w2) (g2 : ∀ k, S2 k ∨ G2 k → S' k ∨ G' k ∨ W.heap.size ≤ k) :
    Fr (fun k => S k ∨ G k) w w2 ∧ ∀ k, S2 k ∨ G2 k → S k ∨ G k ∨ w.heap.size ≤ k := by
  have s1 := hF.size
  have s2 := hW.size
  refine ⟨(hF.then_ hW (fun _ h => h.elim)).then_ f2 (fun k hk => ?_), fun k hk => ?_⟩
  · rcases hG k hk with h | h | h
    · exact .inl (.inl h)
    · exact .inl (.inr h)
    · exact .inr h
  · rcases g2 k hk with h | h | h
    · exact hG k (.inl h)
    · exact hG k (.inr h)
    · exact .inr (.inr (by omega))
set_option maxHeartbeats 3200000 in
/-- edit: Add and Set of calls. -/
theorem edit_any (w : World) (S G : Nat → Prop) (L g : Nat) (xs : List Int) (es : List Ent) (a : Option Addr) (cap : Nat) (cs : List Cal) (h : St w S G L g xs es) (hr : Row w a (cs.flatMap Cal.cells)) (ha : 0 < cs.length → ∀ b, a = some b → ¬ (S b.block ∨ G b.block))
    (hx : xs.length ≤ 1000) (he : es.length ≤ 1000) (hc : cs.length ≤ 1000) :
    Calls Try.prog 17 #[.pointer (some ⟨L, 0, none⟩), .slice a cs.length cap] w fun r w' => r = .returned (.tuple #[]) ∧ ∃ S' G' new, St w' S' G' L g (runs xs cs) (new ++ es) ∧ new.length ≤ cs.length ∧ new.foldl (fun l e => e.undo l) (runs xs cs) = xs ∧ Fr (fun k => S k ∨ G k) w w' ∧ ∀ k, S' k ∨ G' k → S k ∨ G k ∨ w.heap.size ≤ k := by
  have H := Lib.hid h
  have HR := Lib.hid hr
  have HA := Lib.hid ha
  clear h hr ha
  go_enter Try.func17, Try.ntmps17
  go_wp2_with fail
  go_loopw [8] (fun i wr => ∃ k : Nat, k ≤ cs.length ∧ i = .int .i64 k ∧ ∃ S' G' new, St wr S' G' L g (runs xs (cs.take k)) (new ++ es) ∧ new.length ≤ k ∧ new.foldl (fun l e => e.undo l) (runs xs (cs.take k)) = xs ∧ Fr (fun k => S k ∨ G k) w wr ∧ ∀ k, S' k ∨ G' k → S k ∨ G k ∨ w.heap.size ≤ k)
    (fun i _ => ((cs.length : Int) - intOf i).toNat)
  case atStart => exact ⟨0, by omega, rfl, S, G, [], H.out, by simp, rfl, Fr.refl _ _, fun k hk => hk.elim .inl (fun h => .inr (.inl h))⟩
  case round =>
    obtain ⟨k, hk, rfl, S', G', new, hs, hn, hu, hf, hg⟩ := hrel
    have HS := Lib.hid hs
    have HU := Lib.hid hu
    have HF := Lib.hid hf
    have HG := Lib.hid hg
    by_cases hlt : k < cs.length
    · obtain ⟨b, off, rfl, hb, x0, x1, x2, x3⟩ := (HR.out.fr hf (fun b hb => HA.out (by omega) b hb)).cal hlt
      have hsucc := runs_succ (xs := xs) hlt
      have hlen := runs_len xs (cs.take k)
      rw [List.length_take] at hlen
      obtain ⟨ys, hys⟩ : ∃ ys, runs xs (cs.take k) = ys := ⟨_, rfl⟩
      obtain ⟨c, hce⟩ : ∃ c, cs[k] = c := ⟨_, rfl⟩
      rw [hys] at hsucc hlen
      rw [hce] at hsucc x0 x1 x2 x3
      have HY := Lib.hid hys
      have HSc := Lib.hid hsucc
      have hyl : ys.length ≤ 2000 := by omega
      have hel : (new ++ es).length ≤ 2000 := by rw [List.length_append]; omega
      have hltI : (k : Int) < cs.length := by omega
      have HS2 := Lib.hid (show St (wr.alloc (.cells #[.int .i64 c.kind, .bool c.second, .int .i64 c.i, .int .i64 c.x] 31)) S' G' L g ys (new ++ es) from by rw [← hys]; exact St.fr (S2 := fun _ => False) HS.out ((Fr.refl _ wr).alloc _) (fun _ _ h => h))
      have HFa := Lib.hid ((Fr.refl (fun k => S' k ∨ G' k) wr).alloc (.cells #[.int .i64 c.kind, .bool c.second, .int .i64 c.i, .int .i64 c.x] 31))
      have hsz1 : (wr.alloc (.cells #[.int .i64 c.kind, .bool c.second, .int .i64 c.i, .int .i64 c.x] 31)).heap.size = wr.heap.size + 1 := Array.size_push ..
      have Hz1 := Lib.hid hsz1
      clear hs hu hf hg hys hce hsucc hsz1
      by_cases k0 : c.kind = 0
      · have HC := Lib.hid (show c.run ys = ys ++ [c.x] from if_pos k0)
        have k1 : 0 ≤ c.kind := by omega
        have k2 : c.kind ≤ 0 := by omega
        clear k0
        go_wp2_with (go_at_call 11; go_must (refine (add_log _ S' G' L g ys (new ++ es) c.x (by have h := HS2.out; exact h) (by omega) (by omega)).mono ?_); rintro r w2 ⟨rfl, S2, G2, e, s2, u2, f2, g2, -⟩; have s2h := Lib.hid s2; have u2h := Lib.hid u2; have f2h := Lib.hid f2; have g2h := Lib.hid g2; clear s2 u2 f2 g2)
        go_roundw
        case rel =>
          have hj := sg_join HF.out HG.out ((Fr.refl _ wr).alloc _) f2h.out g2h.out
          exact ⟨k + 1, by omega, by go_num, S2, G2, e :: new, by rw [HSc.out, HC.out]; exact s2h.out, by simp only [List.length_cons]; omega, by rw [HSc.out, HC.out, List.foldl_cons, u2h.out, ← HY.out]; exact HU.out, hj.1, hj.2⟩
        case measure => simp [intOf]; omega
      by_cases k1 : c.kind = 1
      · have HC := Lib.hid (show c.run ys = setI ys c.i c.x from by rw [Cal.run, if_neg k0, if_pos k1])
        have k2 : 1 ≤ c.kind := by omega
        have k3 : c.kind ≤ 1 := by omega
        clear k0 k1
        go_wp2_with (go_at_call 12; go_must (refine (set_log _ S' G' L g ys (new ++ es) c.i c.x (by have h := HS2.out; exact h) (by omega) (by omega)).mono ?_); rintro r w2 ⟨rfl, S2, G2, new2, s2, n2, u2, f2, g2, -⟩; have s2h := Lib.hid s2; have u2h := Lib.hid u2; have f2h := Lib.hid f2; have g2h := Lib.hid g2; clear s2 u2 f2 g2)
        go_roundw
        case rel =>
          have hj := sg_join HF.out HG.out ((Fr.refl _ wr).alloc _) f2h.out g2h.out
          exact ⟨k + 1, by omega, by go_num, S2, G2, new2 ++ new, by rw [HSc.out, HC.out, List.append_assoc]; exact s2h.out, by rw [List.length_append]; omega, by rw [HSc.out, HC.out, List.foldl_append, u2h.out, ← HY.out]; exact HU.out, hj.1, hj.2⟩
        case measure => simp [intOf]; omega
      · have HC := Lib.hid (show c.run ys = ys from by rw [Cal.run, if_neg k0, if_neg k1])
        have k2 : (c.kind == 0) = false := by simpa using k0
        have k3 : (c.kind == 1) = false := by simpa using k1
        clear k0 k1
        go_wp2_with fail
        go_roundw
        case rel =>
          have hj := sg_join (S2 := S') (G2 := G') (w2 := wr.alloc (.cells #[.int .i64 c.kind, .bool c.second, .int .i64 c.i, .int .i64 c.x] 31)) HF.out HG.out ((Fr.refl _ wr).alloc _) (Fr.refl _ _) (fun k hk => hk.elim .inl (fun h => .inr (.inl h)))
          exact ⟨k + 1, by omega, by go_num, S', G', new, by rw [HSc.out, HC.out]; exact HS2.out, by omega, by rw [HSc.out, HC.out, ← HY.out]; exact HU.out, hj.1, hj.2⟩
        case measure => simp [intOf]; omega
    · clear hs hu hf hg
      obtain rfl : k = cs.length := by omega
      go_wp2_with fail
      go_end0
      have e : cs.take cs.length = cs := List.take_length
      have h1 := HS.out
      have h2 := HU.out
      rw [e] at h1 h2
      exact ⟨rfl, S', G', new, h1, hn, h2, HF.out, HG.out⟩
end Go.Proofs.Ytlfbgndaojcgdaa
