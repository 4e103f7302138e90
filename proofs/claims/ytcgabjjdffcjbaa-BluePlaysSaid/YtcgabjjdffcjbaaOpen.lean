/- What came in, opened: a value of plain cells (numbers and bools, in structs and arrays), and slices of such. -/
import Derived.Test.YtcgabjjdffcjbaaKit
import Derived.ChangeArms
import Derived.OpenShut
import Derived.Deep.Slices
namespace Go.Proofs.Ytcgabjjdffcjbaa
open Go.RowKit Go.ChangeShapes Go.WideShapes
set_option linter.unusedVariables false
set_option linter.unusedSimpArgs false

/-- The kind of a plain cell. -/
inductive Kd where
  | i (k : IntKind)
  | b

/-- A cell of this kind. -/
def okCell : Kd → Value → Prop
  | .i k, v => ∃ n, v = .int k n ∧ (Lit.int k n).wf = true
  | .b, v => ∃ c, v = .bool c

def okCells (ks : List Kd) (cs : List Value) : Prop := cs.length = ks.length ∧ ∀ (j : Nat) (k : Kd) (v : Value), ks[j]? = some k → cs[j]? = some v → okCell k v

/-- The fields' cells, one behind the other. -/
def flatFields (P : Program) (flat : TypeId → Option (List Kd)) : Nat → List Field → Option (List Kd)
  | _, [] => some []
  | off, f :: rest =>
    if f.offset = off then
      match flat f.type with
      | some l => if P.cellsOf f.type = l.length then (match flatFields P flat (off + l.length) rest with | some r => some (l ++ r) | none => none) else none
      | none => none
    else none

/-- The kinds of a plain type's cells. -/
def flat (P : Program) : Nat → TypeId → Option (List Kd)
  | 0, _ => none
  | n + 1, t =>
    match P.underlying t with
    | some .bool => some [.b]
    | some (.int k) => some [.i k]
    | some (.struct fs) => match flatFields P (flat P n) 0 fs.toList with | some l => if P.cellsOf t = l.length then some l else none | none => none
    | some (.array m e) => match flat P n e with | some l => if P.cellsOf e = l.length ∧ P.cellsOf t = m * l.length then some ((List.replicate m l).flatten) else none | none => none
    | _ => none

theorem okCells_append {ks ls : List Kd} {cs : List Value} (h1 : okCells ks (cs.take ks.length)) (h2 : okCells ls (cs.drop ks.length)) : okCells (ks ++ ls) cs := by
  obtain ⟨l1, e1⟩ := h1
  obtain ⟨l2, e2⟩ := h2
  rw [List.length_take] at l1
  rw [List.length_drop] at l2
  refine ⟨by rw [List.length_append]; omega, fun j k v hk hv => ?_⟩
  rcases Nat.lt_or_ge j ks.length with hj | hj
  · rw [List.getElem?_append_left hj] at hk
    exact e1 j k v hk (by rw [List.getElem?_take, if_pos hj]; exact hv)
  · rw [List.getElem?_append_right hj] at hk
    refine e2 (j - ks.length) k v hk ?_
    rw [List.getElem?_drop, Nat.add_sub_cancel' hj]
    exact hv

section
variable {H : Type} {enc : TypeId × Value → H} {P : Program} {w : World} {base : Nat} {spare : Nat → Bool} {held : Bool}

theorem flatFields_ok {fl : TypeId → Option (List Kd)} {n : Nat} (ih : ∀ t cs x ks, fl t = some ks → DataW.trod enc P w base spare held n t cs = some x → okCells ks cs) (all : List Value) :
    ∀ (fs : List Field) (off : Nat) (ls : List Kd), flatFields P fl off fs = some ls → off + ls.length = all.length →
      (∀ (f : Field), f ∈ fs → ∃ x, DataW.trod enc P w base spare held n f.type ((all.drop f.offset).take (P.cellsOf f.type)) = some x) → okCells ls (all.drop off)
  | [], off, ls, h, hlen, _ => by
    simp only [flatFields, Option.some.injEq] at h
    subst h
    simp at hlen
    exact ⟨by simp; omega, fun j k v hk => by simp at hk⟩
  | f :: rest, off, ls, h, hlen, hf => by
    unfold flatFields at h
    split at h
    · rename_i hoff
      split at h
      · rename_i l hl
        split at h
        · rename_i hc
          split at h
          · rename_i r hr
            simp only [Option.some.injEq] at h
            subst h
            rw [List.length_append] at hlen
            obtain ⟨x, hx⟩ := hf f (by simp)
            rw [hc, hoff] at hx
            refine okCells_append (ih _ _ _ _ hl hx) ?_
            rw [List.drop_drop]
            exact flatFields_ok ih all rest (off + l.length) r hr (by omega) (fun g hg => hf g (by simp [hg]))
          · cases h
        · cases h
      · cases h
    · cases h

theorem array_ok {n : Nat} {e : TypeId} {l : List Kd} (ih : ∀ cs x, DataW.trod enc P w base spare held n e cs = some x → okCells l cs) (all : List Value) :
    ∀ (m : Nat) (off : Nat), off * l.length + m * l.length = all.length → (∀ i, off ≤ i → i < off + m → ∃ x, DataW.trod enc P w base spare held n e ((all.drop (i * l.length)).take l.length) = some x) →
      okCells ((List.replicate m l).flatten) (all.drop (off * l.length))
  | 0, off, hlen, _ => by
    simp at hlen
    exact ⟨by simp; omega, fun j k v hk => by simp at hk⟩
  | m + 1, off, hlen, hf => by
    rw [List.replicate_succ, List.flatten_cons]
    obtain ⟨x, hx⟩ := hf off (Nat.le_refl _) (by omega)
    rw [Nat.add_mul, Nat.one_mul] at hlen
    refine okCells_append (ih _ _ hx) ?_
    rw [List.drop_drop, show off * l.length + l.length = (off + 1) * l.length by rw [Nat.add_mul, Nat.one_mul]]
    exact array_ok ih all m (off + 1) (by rw [Nat.add_mul, Nat.one_mul]; omega) (fun i h1 h2 => hf i (by omega) (by omega))

/-- WHAT IS READ AS DATA OF A PLAIN TYPE IS CELLS OF THESE KINDS. -/
theorem flat_ok : ∀ (m n : Nat) (t : TypeId) (cs : List Value) (x : DataW H × List MemPlace) (ks : List Kd), flat P m t = some ks → DataW.trod enc P w base spare held n t cs = some x → okCells ks cs
  | 0, _, _, _, _, _, h, _ => by simp [flat] at h
  | m + 1, n, t, cs, x, ks, h, ht => by
    unfold flat at h
    split at h
    · rename_i hu
      simp only [Option.some.injEq] at h
      subst h
      cases n with
      | zero => simp [DataW.trod] at ht
      | succ n =>
        unfold DataW.trod at ht
        rw [hu] at ht
        split at ht <;> simp_all
        refine ⟨rfl, fun j k v hk hv => ?_⟩
        match j, hk, hv with
        | 0, hk, hv =>
          obtain rfl : Kd.b = k := by simpa using hk
          obtain rfl := Option.some.inj hv
          exact ⟨_, rfl⟩
    · rename_i k hu
      simp only [Option.some.injEq] at h
      subst h
      obtain ⟨q, rfl, _, hw⟩ := DataW.trod_int hu ht
      refine ⟨rfl, fun j k v hk hv => ?_⟩
      match j, hk, hv with
      | 0, hk, hv =>
        rename_i k0 _ _
        obtain rfl := Option.some.inj hk
        obtain rfl := Option.some.inj hv
        exact ⟨_, rfl, hw⟩
    · rename_i fs hu
      split at h
      · rename_i l hl
        split at h
        · rename_i hc
          simp only [Option.some.injEq] at h
          subst h
          obtain ⟨xs, k, hk, hx, hlen, hxs, hf⟩ := DataW.trod_struct hu ht
          have := flatFields_ok (enc := enc) (P := P) (w := w) (base := base) (spare := spare) (held := held) (n := k) (fl := flat P m) (fun t cs x ks h1 h2 => flat_ok m k t cs x ks h1 h2) cs fs.toList 0 l hl (by omega) (fun f hfm => by
            obtain ⟨i, hi, rfl⟩ := List.getElem_of_mem hfm
            have hi' : i < fs.size := by simpa using hi
            have h1 := hf i fs[i] (by simp [hi'])
            refine ⟨xs[i]'(by omega), ?_⟩
            rw [List.getElem?_eq_getElem (by omega)] at h1
            simpa using h1)
          simpa using this
        · cases h
      · cases h
    · rename_i q e hu
      split at h
      · rename_i l hl
        split at h
        · rename_i hc
          simp only [Option.some.injEq] at h
          subst h
          obtain ⟨xs, k, hk, hx, hlen, hxs, hf⟩ := DataW.trod_array hu ht
          have := array_ok (enc := enc) (P := P) (w := w) (base := base) (spare := spare) (held := held) (n := k) (e := e) (l := l) (fun cs x h2 => flat_ok m k e cs x l hl h2) cs q 0 (by omega) (fun i _ hi => by
            have h1 := hf i (by omega)
            rw [hc.1, List.getElem?_eq_getElem (by omega)] at h1
            exact ⟨_, h1⟩)
          simpa using this
        · cases h
      · cases h
    · cases h

/-- A slice of plain elements that came in: the elements' cells, one behind the other. -/
def SlP (ks : List Kd) (W : World) (A : Option Addr) (n c : Nat) (rows : List (List Value)) : Prop :=
  rows.length = n ∧ n ≤ c ∧ c ≤ 9223372036854775807 ∧ (∀ r ∈ rows, okCells ks r) ∧ ∀ j r q v, rows[j]? = some r → r[q]? = some v → ∃ ad, A = some ad ∧ W.cell? (ad.add (j * ks.length + q)) = some v

theorem open_SlP {t e : TypeId} {ks : List Kd} {a : Option Addr} {n c : Nat} {d : DataW H} {ps : List MemPlace} (m : Nat)
    (hu : P.underlying t = some (.slice e)) (hks : flat P m e = some ks) (hc : P.cellsOf e = ks.length) (h : DataW.Trod enc P w base spare held t (.slice a n c) d ps) : ∃ rows, SlP ks w a n c rows := by
  obtain ⟨fuel, hf⟩ := h
  rcases Go.Deep.open_slice hu hf with ⟨hcs, _⟩ | ⟨x, l, c', m', n', D, Pl, hcs, _, hl, hm, hmm, hx, hall⟩
  · simp [Value.cells] at hcs
    obtain ⟨rfl, rfl, rfl⟩ := hcs
    exact ⟨[], rfl, Nat.le_refl _, by omega, by simp, fun j r q v h => by simp at h⟩
  · simp [Value.cells] at hcs
    obtain ⟨rfl, rfl, rfl⟩ := hcs
    have hnm : n ≤ m' := by
      rw [hmm]
      split
      · exact hl
      · exact Nat.le_refl _
    refine ⟨(List.range n).map fun i => ((w.cells? base (x.add (i * ks.length)) ks.length).getD []), by simp, hl, by simpa [maxLen] using hm, ?_, ?_⟩
    · intro r hr
      simp only [List.mem_map, List.mem_range] at hr
      obtain ⟨i, hi, rfl⟩ := hr
      obtain ⟨cs', h1, h2⟩ := hall i (by omega)
      rw [hc] at h1
      rw [h1]
      exact flat_ok m _ _ _ _ _ hks h2
    · intro j r q v hr hv
      rw [List.getElem?_map, Option.map_eq_some_iff] at hr
      obtain ⟨i, hi, rfl⟩ := hr
      have hj : j < n := by
        have := (List.getElem?_eq_some_iff.1 hi).1
        simpa using this
      rw [List.getElem?_range hj] at hi
      cases hi
      obtain ⟨cs', h1, h2⟩ := hall j (by omega)
      rw [hc] at h1
      rw [h1] at hv
      obtain ⟨_, hlen, hcell⟩ := World.cells?_some h1
      simp only [Option.getD_some] at hv
      have hq := (List.getElem?_eq_some_iff.1 hv).1
      refine ⟨x, rfl, ?_⟩
      have := hcell q (by omega)
      rw [add_add] at this
      rw [this]
      exact hv
end
theorem ok_int {ks : List Kd} {r : List Value} (h : okCells ks r) (j : Nat) (k : IntKind) (hk : ks[j]? = some (.i k)) : ∃ n, r[j]? = some (.int k n) ∧ (Lit.int k n).wf = true := by
  have hj := (List.getElem?_eq_some_iff.1 hk).1
  have hr : j < r.length := by rw [h.1]; exact hj
  obtain ⟨n, hn, hw⟩ := h.2 j _ _ hk (List.getElem?_eq_getElem hr)
  exact ⟨n, by rw [List.getElem?_eq_getElem hr, hn], hw⟩
theorem ok_bool {ks : List Kd} {r : List Value} (h : okCells ks r) (j : Nat) (hk : ks[j]? = some .b) : ∃ c, r[j]? = some (.bool c) := by
  have hj := (List.getElem?_eq_some_iff.1 hk).1
  have hr : j < r.length := by rw [h.1]; exact hj
  obtain ⟨n, hn⟩ := h.2 j _ _ hk (List.getElem?_eq_getElem hr)
  exact ⟨n, by rw [List.getElem?_eq_getElem hr, hn]⟩
theorem SlP.row {ks : List Kd} {W : World} {A : Option Addr} {n c : Nat} {rows : List (List Value)} (h : SlP ks W A n c rows) (j : Nat) (hj : j < n) : ∃ r, rows[j]? = some r ∧ okCells ks r := by
  have hl : j < rows.length := by rw [h.1]; exact hj
  exact ⟨rows[j], List.getElem?_eq_getElem hl, h.2.2.2.1 _ (List.getElem_mem hl)⟩
theorem SlP.below {ks : List Kd} {W W' : World} {A : Option Addr} {n c : Nat} {rows : List (List Value)} (h : SlP ks W A n c rows) (hb : Below W.heap.size W W') : SlP ks W' A n c rows :=
  ⟨h.1, h.2.1, h.2.2.1, h.2.2.2.1, fun j r q v hr hv => let ⟨ad, e, hc⟩ := h.2.2.2.2 j r q v hr hv; ⟨ad, e, bl_keeps hb hc⟩⟩
theorem add_flat (b off j : Nat) : (⟨b, off, none⟩ : Addr).add j = ⟨b, off + j, none⟩ := by unfold Addr.add; split <;> simp_all
/-- Where such a slice lies. -/
theorem SlP.addr {ks : List Kd} {W : World} {A : Option Addr} {n c : Nat} {rows : List (List Value)} (h : SlP ks W A n c rows) (hn : 0 < n) (hk : 0 < ks.length) : ∃ b off, A = some ⟨b, off, none⟩ := by
  obtain ⟨r, hr, ho⟩ := h.row 0 hn
  obtain ⟨ad, rfl, hc⟩ := h.2.2.2.2 0 r 0 _ hr (List.getElem?_eq_getElem (show 0 < r.length by rw [ho.1]; exact hk))
  have hs := World.cell?_spot hc
  simp [Addr.add] at hs
  exact ⟨ad.block, ad.off, by rw [← hs]⟩
/-- A cell of a row. -/
theorem SlP.cell {ks : List Kd} {W : World} {b off : Nat} {n c : Nat} {rows : List (List Value)} (h : SlP ks W (some ⟨b, off, none⟩) n c rows) {j : Nat} {r : List Value} (hr : rows[j]? = some r) {q : Nat} {v : Value} (hv : r[q]? = some v) :
    W.cell? ⟨b, off + j * ks.length + q, none⟩ = some v := by
  obtain ⟨ad, e, hc⟩ := h.2.2.2.2 j r q v hr hv
  cases e
  rw [add_flat, ← Nat.add_assoc] at hc
  exact hc
/-- One number a row. -/
theorem SlP.one {k0 : IntKind} {W : World} {A : Option Addr} {n c : Nat} {rows : List (List Value)} (h : SlP [.i k0] W A n c rows) (j : Nat) (hj : j < n) :
    ∃ b off x, A = some ⟨b, off, none⟩ ∧ W.cell? ⟨b, off + j, none⟩ = some (.int k0 x) ∧ (Lit.int k0 x).wf = true := by
  obtain ⟨b, off, rfl⟩ := h.addr (by omega) (by simp)
  obtain ⟨r, hr, ho⟩ := h.row j hj
  obtain ⟨x, hx, wx⟩ := ok_int ho 0 k0 rfl
  have c0 := h.cell hr hx
  simp at c0
  exact ⟨b, off, x, rfl, c0, wx⟩
/-- Two numbers a row. -/
theorem SlP.two {k0 k1 : IntKind} {W : World} {A : Option Addr} {n c : Nat} {rows : List (List Value)} (h : SlP [.i k0, .i k1] W A n c rows) (j : Nat) (hj : j < n) :
    ∃ b off x y, A = some ⟨b, off, none⟩ ∧ W.cell? ⟨b, off + j * 2, none⟩ = some (.int k0 x) ∧ W.cell? ⟨b, off + j * 2 + 1, none⟩ = some (.int k1 y) ∧ (Lit.int k0 x).wf = true ∧ (Lit.int k1 y).wf = true := by
  obtain ⟨b, off, rfl⟩ := h.addr (by omega) (by simp)
  obtain ⟨r, hr, ho⟩ := h.row j hj
  obtain ⟨x, hx, wx⟩ := ok_int ho 0 k0 rfl
  obtain ⟨y, hy, wy⟩ := ok_int ho 1 k1 rfl
  exact ⟨b, off, x, y, rfl, h.cell hr hx, h.cell hr hy, wx, wy⟩
end Go.Proofs.Ytcgabjjdffcjbaa
