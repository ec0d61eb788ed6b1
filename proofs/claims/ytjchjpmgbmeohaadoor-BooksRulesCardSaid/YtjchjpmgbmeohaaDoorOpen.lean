/- Reading arguments: a struct's cells leaf by leaf; a slice's elements; what sizes the row's weights give. No program in sight. -/
import Derived.Test.YtjchjpmgbmeohaaDoorRow
import Derived.ProofKit
import Derived.OpenShut
import Derived.SizedLaws
import Derived.Deep.Slices
import Derived.ChangeArms
set_option linter.unusedSimpArgs false
set_option linter.unusedVariables false
namespace Go.Proofs.YtjchjpmgbmeohaaDoor
open Go.RowKit Go.ChangeShapes Go.WideShapes Go.ChangeAt

/-- A datum's weights are within the reach. -/
def Sz {H : Type} (P : Program) (t : TypeId) (d : DataW H) : Prop := ∀ n ∈ DataW.weights P t d, n ≤ 140737488351232

section
variable {H : Type} {enc : TypeId × Value → H} {P : Program} {w : World} {base : Nat} {spare : Nat → Bool} {held : Bool}

theorem Sz.each {ts : List TypeId} {ds : List (DataW H)} (h : (DataW.weightsEach P ts ds).all (· ≤ reachBytes) = true) : ∀ (j : Nat) (t : TypeId) (d : DataW H), ts[j]? = some t → ds[j]? = some d → Sz P t d := by
  induction ts generalizing ds with
  | nil => intro j t d h1; simp at h1
  | cons t0 ts ih =>
    cases ds with
    | nil => intro j t d _ h2; simp at h2
    | cons d0 ds =>
      rw [DataW.weightsEach, List.all_append, Bool.and_eq_true] at h
      intro j t d h1 h2
      cases j with
      | zero =>
        simp at h1 h2
        subst h1; subst h2
        intro n hn
        have := List.all_eq_true.1 h.1 n hn
        have h3 := of_decide_eq_true this
        simpa [reachBytes] using h3
      | succ j => exact ih h.2 j t d (by simpa using h1) (by simpa using h2)
theorem weightsAll_mem {e : TypeId} {ds : List (DataW H)} {d : DataW H} (hd : d ∈ ds) {n : Nat} (hn : n ∈ DataW.weights P e d) : n ∈ DataW.weightsAll P e ds := by
  induction ds with
  | nil => cases hd
  | cons d0 ds ih =>
    rw [DataW.weightsAll]
    rcases List.mem_cons.1 hd with rfl | h
    · exact List.mem_append_left _ hn
    · exact List.mem_append_right _ (ih h)
theorem weightsEach_mem {ts : List TypeId} {ds : List (DataW H)} {n : Nat} : ∀ (j : Nat) (t : TypeId) (d : DataW H), ts[j]? = some t → ds[j]? = some d → n ∈ DataW.weights P t d → n ∈ DataW.weightsEach P ts ds := by
  induction ts generalizing ds with
  | nil => intro j t d h1; simp at h1
  | cons t0 ts ih =>
    cases ds with
    | nil => intro j t d _ h2; simp at h2
    | cons d0 ds =>
      intro j t d h1 h2 hn
      rw [DataW.weightsEach]
      cases j with
      | zero =>
        simp at h1 h2
        subst h1; subst h2
        exact List.mem_append_left _ hn
      | succ j => exact List.mem_append_right _ (ih j t d (by simpa using h1) (by simpa using h2) hn)
theorem Sz.slice {t e : TypeId} {elems rest : List (DataW H)} (hu : P.underlying t = some (.slice e)) (h : Sz P t (.slice elems rest)) : (elems.length + rest.length) * P.bytesOf e ≤ 140737488351232 ∧ ∀ d ∈ elems, Sz P e d := by
  unfold Sz at h
  rw [DataW.weights, hu] at h
  exact ⟨h _ (List.mem_cons_self ..), fun d hd n hn => h n (List.mem_cons_of_mem _ (List.mem_append_left _ (weightsAll_mem hd hn)))⟩
theorem Sz.agg {t : TypeId} {fs : Array Field} {parts : List (DataW H)} (hu : P.underlying t = some (.struct fs)) (h : Sz P t (.agg parts)) (i : Nat) (f : Field) (d : DataW H) (hf : fs[i]? = some f) (hd : parts[i]? = some d) : Sz P f.type d := by
  unfold Sz at h
  rw [DataW.weights, hu] at h
  exact fun n hn => h n (weightsEach_mem i f.type d (by simp [hf]) hd hn)

/-- The types of a struct's cells, one by one; none where a field doesn't lie behind the one ahead of it. -/
def leafs (P : Program) : Nat → TypeId → Option (List TypeId)
  | 0, _ => none
  | n + 1, t => match P.underlying t with
    | some (.struct fs) => fs.toList.foldlM (fun acc f => if f.offset = acc.length then (leafs P n f.type).bind fun l => if l.length = P.cellsOf f.type then some (acc ++ l) else none else none) []
    | some (.array _ _) => none
    | _ => some [t]

/-- One cell, read at a type. -/
def Leaf (enc : TypeId × Value → H) (P : Program) (w : World) (base : Nat) (spare : Nat → Bool) (held : Bool) (t : TypeId) (c : Value) : Prop := ∃ n y, DataW.trod enc P w base spare held n t [c] = some y ∧ Sz P t y.1

inductive All2 {α β : Type} (R : α → β → Prop) : List α → List β → Prop
  | nil : All2 R [] []
  | cons {a b l m} : R a b → All2 R l m → All2 R (a :: l) (b :: m)
theorem All2.append {α β : Type} {R : α → β → Prop} {l l2 : List α} {m m2 : List β} (h : All2 R l m) (k : All2 R l2 m2) : All2 R (l ++ l2) (m ++ m2) := by
  induction h with
  | nil => exact k
  | cons hr _ ih => exact .cons hr ih
theorem All2.len {α β : Type} {R : α → β → Prop} {l : List α} {m : List β} (h : All2 R l m) : l.length = m.length := by
  induction h with
  | nil => rfl
  | cons _ _ ih => simp [ih]

theorem leafs_all : ∀ (n m : Nat) (t : TypeId) (ts : List TypeId) (cs : List Value) (x : DataW H × List MemPlace), leafs P n t = some ts → (∀ t' ∈ ts, P.cellsOf t' = 1) → cs.length = ts.length → DataW.trod enc P w base spare held m t cs = some x → Sz P t x.1 → All2 (Leaf enc P w base spare held) ts cs := by
  intro n
  induction n with
  | zero => intro m t ts cs x h; simp [leafs] at h
  | succ n ih =>
    intro m t ts cs x h h1 hc ht hs
    rw [leafs] at h
    split at h
    · rename_i fs hu
      obtain ⟨xs, k, rfl, rfl, hcs, hxs, hel⟩ := DataW.trod_struct hu ht
      have key : ∀ (l : List Field) (j : Nat) (acc res : List TypeId), (∀ (i : Nat) f, l[i]? = some f → fs[j + i]? = some f) → l.foldlM (fun acc f => if f.offset = acc.length then (leafs P n f.type).bind fun l => if l.length = P.cellsOf f.type then some (acc ++ l) else none else none) acc = some res → (∀ t' ∈ res, P.cellsOf t' = 1) → acc.length ≤ cs.length → res.length ≤ cs.length →
          ∃ tail, res = acc ++ tail ∧ All2 (Leaf enc P w base spare held) tail ((cs.drop acc.length).take tail.length) := by
        intro l
        induction l with
        | nil =>
          intro j acc res _ hf _ _ _
          simp at hf
          subst hf
          exact ⟨[], by simp, by simpa using All2.nil⟩
        | cons f l ihl =>
          intro j acc res hl hf h1r ha hr
          rw [List.foldlM_cons] at hf
          split at hf
          · rename_i hoff
            cases hlf : leafs P n f.type with
            | none => rw [hlf] at hf; simp at hf
            | some lf =>
              rw [hlf] at hf
              simp only [Option.bind_some] at hf
              split at hf
              · rename_i hlen
                simp only [Option.bind_eq_bind, Option.bind_some] at hf
                have hmono : (acc ++ lf).length ≤ res.length := by
                  clear ihl hl
                  revert hf
                  generalize acc ++ lf = A
                  intro hf
                  induction l generalizing A with
                  | nil => simp at hf; subst hf; exact Nat.le_refl _
                  | cons f2 l ih2 =>
                    rw [List.foldlM_cons] at hf
                    split at hf
                    · cases h2 : leafs P n f2.type with
                      | none => rw [h2] at hf; simp at hf
                      | some l2 =>
                        rw [h2] at hf
                        simp only [Option.bind_some] at hf
                        split at hf
                        · simp only [Option.bind_eq_bind, Option.bind_some] at hf
                          have := ih2 _ hf
                          rw [List.length_append] at this
                          omega
                        · simp at hf
                    · simp at hf
                obtain ⟨tail, rfl, hall⟩ := ihl (j + 1) (acc ++ lf) res (fun i f' hi => by have := hl (i + 1) f' (by simpa using hi); rwa [show j + (i + 1) = j + 1 + i by omega] at this) hf h1r (by omega) hr
                have hfj : fs[j]? = some f := hl 0 f rfl
                have hx := hel j f hfj
                have hjx : j < xs.length := by
                  have := (Array.getElem?_eq_some_iff.1 hfj).1
                  omega
                rw [List.getElem?_eq_getElem hjx, hoff, ← hlen] at hx
                rw [List.length_append] at hmono
                have hlc : ((cs.drop acc.length).take lf.length).length = lf.length := by
                  rw [List.length_take, List.length_drop]
                  omega
                have hA := ih _ _ _ _ _ hlf (fun t' ht' => h1r t' (by simp [ht'])) hlc hx (hs.agg hu j f _ hfj (by simp [hjx]))
                refine ⟨lf ++ tail, by simp, ?_⟩
                have e : (cs.drop acc.length).take (lf ++ tail).length = (cs.drop acc.length).take lf.length ++ ((cs.drop (acc ++ lf).length).take tail.length) := by
                  rw [List.length_append, List.take_add, List.drop_drop, List.length_append]
                rw [e]
                exact hA.append hall
              · simp at hf
          · simp at hf
      obtain ⟨tail, he, hall⟩ := key fs.toList 0 [] ts (fun i f hi => by simpa using hi) h h1 (by simp) (by omega)
      simp only [List.nil_append] at he
      subst he
      simpa [← hc] using hall
    · simp at h
    · simp only [Option.some.injEq] at h
      subst h
      match cs, hc with
      | [c], _ => exact .cons ⟨m, x, ht, hs⟩ .nil

theorem Leaf.int {t : TypeId} {c : Value} {k : IntKind} (hu : P.underlying t = some (.int k)) (h : Leaf enc P w base spare held t c) : ∃ n, c = .int k n ∧ (Lit.int k n).wf = true := by
  obtain ⟨m, y, ht, _⟩ := h
  obtain ⟨n, e, _, hw⟩ := DataW.trod_int hu ht
  simp only [List.cons.injEq, and_true] at e
  exact ⟨n, e, hw⟩
theorem Leaf.bool {t : TypeId} {c : Value} (hu : P.underlying t = some .bool) (h : Leaf enc P w base spare held t c) : ∃ b, c = .bool b := by
  obtain ⟨m, y, ht, _⟩ := h
  obtain ⟨b, e, _⟩ := DataW.trod_bool hu ht
  simp only [List.cons.injEq, and_true] at e
  exact ⟨b, e⟩
theorem Leaf.string {t : TypeId} {c : Value} (hu : P.underlying t = some .string) (h : Leaf enc P w base spare held t c) : ∃ s : ByteArray, c = .string s ∧ s.size ≤ 140737488351232 := by
  obtain ⟨m, y, ht, hs⟩ := h
  obtain ⟨s, e, hy, _⟩ := DataW.trod_string hu ht
  simp only [List.cons.injEq, and_true] at e
  subst hy
  exact ⟨s, e, by have := hs s.data.toList.length (by simp [DataW.weights]); simpa using this⟩

theorem cells?_get {a : Addr} {n : Nat} {cs : List Value} (h : w.cells? base a n = some cs) : cs.length = n ∧ ∀ j u, cs[j]? = some u → w.cell? (a.add j) = some u := by
  obtain ⟨_, hl, hg⟩ := World.cells?_some h
  exact ⟨hl, fun j u hu => by
    have hj : j < n := by have := (List.getElem?_eq_some_iff.1 hu).1; omega
    rw [hg j hj]
    exact hu⟩

/-- A slice whose elements are flat structs: nil, or cells from an address on that read leaf by leaf. -/
theorem open_flat {t e : TypeId} {ts : List TypeId} {fuel n len cap B : Nat} {a : Option Addr} {x : DataW H × List MemPlace} (hu : P.underlying t = some (.slice e)) (hlf : leafs P n e = some ts) (h1 : ∀ t' ∈ ts, P.cellsOf t' = 1) (hce : P.cellsOf e = ts.length) (hB : P.bytesOf e = B)
    (h : DataW.trod enc P w base spare held fuel t [.slice a len cap] = some x) (hs : Sz P t x.1) :
    (a = none ∧ len = 0 ∧ cap = 0) ∨
    ∃ ad, a = some ad ∧ len ≤ cap ∧ cap ≤ maxLen ∧ len * B ≤ 140737488351232 ∧
      ∀ i, i < len → ∃ cs, All2 (Leaf enc P w base spare held) ts cs ∧ ∀ j u, cs[j]? = some u → ∃ b off, ad = ⟨b, off, none⟩ ∧ w.cell? ⟨b, off + (i * ts.length + j), none⟩ = some u := by
  rcases Deep.open_slice hu h with ⟨hcs, _⟩ | ⟨ad, l, c, m, n2, D, Pl, hcs, _, hl, hm, hmm, hx, hel⟩
  · simp only [List.cons.injEq, Value.slice.injEq, and_true] at hcs
    exact .inl hcs
  · simp only [List.cons.injEq, Value.slice.injEq, and_true] at hcs
    obtain ⟨rfl, rfl, rfl⟩ := hcs
    subst hx
    obtain ⟨hz, hze⟩ := Sz.slice hu hs
    simp only [List.length_map, List.length_range] at hz
    have hlm : len ≤ m := by rw [hmm]; split <;> omega
    refine .inr ⟨ad, rfl, hl, hm, ?_, fun i hi => ?_⟩
    · rw [hB] at hz
      exact Nat.le_trans (Nat.mul_le_mul_right _ (by omega)) hz
    · obtain ⟨cs, hc, ht⟩ := hel i (by omega)
      obtain ⟨hcl, hcg⟩ := cells?_get hc
      refine ⟨cs, leafs_all n n2 e ts cs _ hlf h1 (by rw [hcl, hce]) ht (hze _ (List.mem_map.2 ⟨i, by simpa using hi, rfl⟩)), fun j u hu => ?_⟩
      have hcell := hcg j u hu
      rw [hce] at hcell
      have hsp : ad.spot = none := by
        have h0 : 0 < cs.length := by have := (List.getElem?_eq_some_iff.1 hu).1; omega
        obtain ⟨cs0, hc0, _⟩ := hel 0 (by omega)
        obtain ⟨hcl0, hcg0⟩ := cells?_get hc0
        have h00 := hcg0 0 cs0[0] (List.getElem?_eq_getElem (by omega))
        have e0 : (ad.add (0 * P.cellsOf e)).add 0 = ad := by simp [Addr.add]
        rw [e0] at h00
        unfold World.cell? at h00
        split at h00
        · split at h00
          · simp at h00
          · rename_i hs; simpa using hs
        · simp at h00
      obtain ⟨b, off, sp⟩ := ad
      simp only at hsp
      subst hsp
      refine ⟨b, off, rfl, ?_⟩
      rw [Addr.add_lit, Addr.add_lit, Nat.add_assoc] at hcell
      exact hcell
end
end Go.Proofs.YtjchjpmgbmeohaaDoor
