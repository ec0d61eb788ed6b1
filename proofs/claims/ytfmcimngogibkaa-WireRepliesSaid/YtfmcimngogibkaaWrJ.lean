/- Law 22: alive; WireOps. -/
import Derived.Test.YtfmcimngogibkaaWrI
set_option linter.unusedSimpArgs false
set_option linter.unusedVariables false
namespace Go.Proofs.Ytfmcimngogibkaa
open Go.RowKit

def sample : List Int := [3, 1, 0, 0, 0, 0, 0, 0, 0]
theorem sample_req : rdReq sample = (⟨3, [], [], 1, [], Flt.zero⟩, ([], false)) := by kernel_rfl
theorem sample_good : wgood 3 [] [] 1 0 Flt.zero = true := by kernel_rfl
theorem sample_ok : rdOk sample = true := by rw [rdOk, sample_req]; exact sample_good
theorem sample_bytes : reqBytes 3 [] [] 1 [] Flt.zero = sample := by kernel_rfl
theorem sample_isb : Bytes sample := by
  intro x hx
  simp only [sample, List.mem_cons, List.not_mem_nil, or_false] at hx
  omega
theorem sample_str : (⟨#[3, 1, 0, 0, 0, 0, 0, 0, 0]⟩ : ByteArray) = strOfNums sample := by kernel_rfl

set_option maxRecDepth 4000 in
set_option maxHeartbeats 1600000 in
theorem alive22_any (w : World) :
    Calls Try.prog 9 #[] w fun e w' => e = .returned (.bool true) ∧ Fr (fun _ => False) w w' := by
  have HW := Lib.hid (wbytes_any w 3 none 0 0 none 0 0 1 none 0 0 Flt.zero [] [] [] rfl rfl rfl row_nil row_nil row_nil)
  rw [sample_good, if_pos rfl, if_pos rfl, sample_bytes] at HW
  have HR := Lib.hid (fun W => read_any W sample sample_isb)
  rw [sample_ok, if_pos rfl, if_pos rfl, sample_req] at HR
  have Hs := sample_str
  go_enter Try.func9, Try.ntmps9
  go_wp2_with fail
  refine HW.out.mono ?_
  rintro e w1 ⟨rfl, f1⟩
  have F1 := Lib.hid f1
  clear f1
  go_wp2_with fail
  refine (HR.out w1).mono ?_
  rintro e w2 ⟨v, rfl, ⟨a1, c1, a2, c2, a3, c3, rfl, -, -, -⟩, f2⟩
  have F2 := Lib.hid (F1.out.then_ f2 (fun _ h => h.elim))
  clear f2
  go_wp2_with fail
  go_ret
  exact ⟨rfl, F2.out.alloc _⟩
theorem body_op (op : Int) (s : RS) : (rdBody op s).1.op = op := by
  unfold rdBody
  split
  · rfl
  split
  · rfl
  split
  · rfl
  split <;> rfl
theorem good_ops {q : Req} (h : q.op < 1 ∨ 6 < q.op) : q.good = false := by
  have e1 : engGood q.op q.accs.length q.txs.length q.now = false := by rw [engGood, if_neg (by omega), if_neg (by omega), if_neg (by omega)]
  have e2 : askGood q.op q.ids.length q.flt = false := by rw [askGood, if_neg (by omega), if_neg (by omega)]
  rw [Req.good, wgood, e1, e2]
  rfl
theorem bad_op {l : List Int} (h : wrap64 (le (rdV (l, false) 1)) < 1 ∨ 6 < wrap64 (le (rdV (l, false) 1))) : rdOk l = false := by
  have e : (rdReq l).1.good = false := good_ops (by rw [rdReq, body_op]; exact h)
  rw [rdOk, e, Bool.and_false]
theorem bad_cons {c : Int} {l : List Int} (hc : 0 ≤ c ∧ c < 256) (h : c < 1 ∨ 6 < c) : rdOk (c :: l) = false := by
  refine bad_op ?_
  rw [rdV_good (by simp)]
  have e : wrap64 (le ((c :: l).take 1)) = c := by simp [le, wrap64]; omega
  rw [e]
  exact h
theorem bad_nil : rdOk [] = false := bad_op (by left; simp [rdV, le, wrap64])
set_option maxRecDepth 4000 in
set_option maxHeartbeats 1600000 in
theorem wops_any (w : World) (c : Int) (l : List Int) (hc : 0 ≤ c ∧ c < 256) (hB : Bytes l) (hl : l.length ≤ 140737488355328) :
    Calls Try.prog 6 #[.int .u8 c, .string (strOfNums l)] w fun e w' => e = .returned (.bool true) ∧ Fr (fun _ => False) w w' := by
  have hs := strOfNums_size l
  have hs1 := strOfNums_size [c]
  have HA := Lib.hid (alive22_any w)
  go_enter Try.func6, Try.ntmps6
  go_wp2_with fail
  refine HA.out.mono ?_
  rintro e w1 ⟨rfl, f1⟩
  have F1 := Lib.hid f1
  clear f1
  by_cases h1 : (2000 : Int) < l.length
  · go_wp2_with fail
    go_ret
    exact ⟨rfl, F1.out⟩
  by_cases h2 : 1 ≤ c
  · by_cases h3 : c ≤ 6
    · go_wp2_with fail
      go_ret
      exact ⟨rfl, F1.out⟩
    · have HR := Lib.hid (fun W => read_any W (c :: l) (Bytes.cons hc hB))
      have HE := Lib.hid (fun W => read_any W [] (fun _ h => nomatch h))
      rw [bad_cons hc (by omega), if_neg (by decide), if_neg (by decide)] at HR
      rw [bad_nil, if_neg (by decide), if_neg (by decide)] at HE
      have HC := conv_one (P := Try.prog) 43 5 Try.underlying43 Try.underlying5 9 Try.underlying9 w1 c
      have hap := strOf_append [c] l
      go_wp2_with fail
      refine (HR.out _).mono ?_
      rintro e w2 ⟨v, rfl, ⟨a1, c1, a2, c2, a3, c3, rfl, -, -, -⟩, f2⟩
      have F2 := Lib.hid ((F1.out.alloc (.cells #[.int .u8 c] 5)).then_ f2 (fun _ h => h.elim))
      clear f2 HC
      go_wp2_with fail
      refine (HE.out _).mono ?_
      rintro e w3 ⟨v, rfl, ⟨b1, d1, b2, d2, b3, d3, rfl, -, -, -⟩, f3⟩
      have F3 := Lib.hid ((F2.out.alloc _).then_ f3 (fun _ h => h.elim))
      clear f3
      go_wp2_with fail
      go_ret
      exact ⟨rfl, F3.out.alloc _⟩
  · have HR := Lib.hid (fun W => read_any W (c :: l) (Bytes.cons hc hB))
    have HE := Lib.hid (fun W => read_any W [] (fun _ h => nomatch h))
    rw [bad_cons hc (by omega), if_neg (by decide), if_neg (by decide)] at HR
    rw [bad_nil, if_neg (by decide), if_neg (by decide)] at HE
    have HC := conv_one (P := Try.prog) 43 5 Try.underlying43 Try.underlying5 9 Try.underlying9 w1 c
    have hap := strOf_append [c] l
    go_wp2_with fail
    refine (HR.out _).mono ?_
    rintro e w2 ⟨v, rfl, ⟨a1, c1, a2, c2, a3, c3, rfl, -, -, -⟩, f2⟩
    have F2 := Lib.hid ((F1.out.alloc (.cells #[.int .u8 c] 5)).then_ f2 (fun _ h => h.elim))
    clear f2 HC
    go_wp2_with fail
    refine (HE.out _).mono ?_
    rintro e w3 ⟨v, rfl, ⟨b1, d1, b2, d2, b3, d3, rfl, -, -, -⟩, f3⟩
    have F3 := Lib.hid ((F2.out.alloc _).then_ f3 (fun _ h => h.elim))
    clear f3
    go_wp2_with fail
    go_ret
    exact ⟨rfl, F3.out.alloc _⟩
end Go.Proofs.Ytfmcimngogibkaa
