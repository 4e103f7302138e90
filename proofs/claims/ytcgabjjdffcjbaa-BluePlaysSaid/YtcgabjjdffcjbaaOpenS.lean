/- What came in, opened: values of plain cells and of slices of numbers, in structs and arrays, and slices of such. -/
import Derived.Test.YtcgabjjdffcjbaaOpen
import Derived.ChangeArms
import Derived.OpenShut
import Derived.Deep.Slices
namespace Go.Proofs.Ytcgabjjdffcjbaa
open Go.RowKit Go.ChangeShapes Go.WideShapes
set_option linter.unusedVariables false
set_option linter.unusedSimpArgs false

/-- The kind of a plain cell. -/
inductive KdS where
  | i (k : IntKind)
  | b
  | sl (k : IntKind)

/-- A cell of this kind. -/
def okCellS (w : World) : KdS → Value → Prop
  | .i k, v => ∃ n, v = .int k n ∧ (Lit.int k n).wf = true
  | .b, v => ∃ c, v = .bool c
  | .sl k, v => ∃ a n c l, v = .slice a n c ∧ SlI k w a n c l

def okCellsS (w : World) (ks : List KdS) (cs : List Value) : Prop := cs.length = ks.length ∧ ∀ (j : Nat) (k : KdS) (v : Value), ks[j]? = some k → cs[j]? = some v → okCellS w k v

/-- The fields' cells, one behind the other. -/
def flatFieldsS (P : Program) (flatS : TypeId → Option (List KdS)) : Nat → List Field → Option (List KdS)
  | _, [] => some []
  | off, f :: rest =>
    if f.offset = off then
      match flatS f.type with
      | some l => if P.cellsOf f.type = l.length then (match flatFieldsS P flatS (off + l.length) rest with | some r => some (l ++ r) | none => none) else none
      | none => none
    else none

/-- The kinds of a plain type's cells. -/
def flatS (P : Program) : Nat → TypeId → Option (List KdS)
  | 0, _ => none
  | n + 1, t =>
    match P.underlying t with
    | some .bool => some [.b]
    | some (.int k) => some [.i k]
    | some (.struct fs) => match flatFieldsS P (flatS P n) 0 fs.toList with | some l => if P.cellsOf t = l.length then some l else none | none => none
    | some (.slice e) => match P.underlying e with | some (.int k) => if P.cellsOf e = 1 then some [.sl k] else none | _ => none
    | some (.array m e) => match flatS P n e with | some l => if P.cellsOf e = l.length ∧ P.cellsOf t = m * l.length then some ((List.replicate m l).flatten) else none | none => none
    | _ => none

theorem okCellsS_append {w : World} {ks ls : List KdS} {cs : List Value} (h1 : okCellsS w ks (cs.take ks.length)) (h2 : okCellsS w ls (cs.drop ks.length)) : okCellsS w (ks ++ ls) cs := by
  obtain ⟨l1, e1⟩ := h1
  obtain ⟨l2, e2⟩ := h2
  rw [List.length_take] at l1
  rw [List.length_drop] at l2
  refine ⟨by rw [List.length_append]; omega, fun j k v hk hv => ?_⟩
  rcases Nat.lt_or_ge j ks.length with hj | hj
  · rw [List.getElem?_append_left hj] at hk
    exact e1 j k v hk (by rw [List.getElem?_take, if_pos hj]; exact hv)
  · rw [List.getElem?_append_right hj] at hk
    refine e2 (j - ks.length) k v hk ?_
    rw [List.getElem?_drop, Nat.add_sub_cancel' hj]
    exact hv

section
variable {H : Type} {enc : TypeId × Value → H} {P : Program} {w : World} {base : Nat} {spare : Nat → Bool} {held : Bool}

theorem flatFieldsS_ok {fl : TypeId → Option (List KdS)} {n : Nat} (ih : ∀ t cs x ks, fl t = some ks → DataW.trod enc P w base spare held n t cs = some x → okCellsS w ks cs) (all : List Value) :
    ∀ (fs : List Field) (off : Nat) (ls : List KdS), flatFieldsS P fl off fs = some ls → off + ls.length = all.length →
      (∀ (f : Field), f ∈ fs → ∃ x, DataW.trod enc P w base spare held n f.type ((all.drop f.offset).take (P.cellsOf f.type)) = some x) → okCellsS w ls (all.drop off)
  | [], off, ls, h, hlen, _ => by
    simp only [flatFieldsS, Option.some.injEq] at h
    subst h
    simp at hlen
    exact ⟨by simp; omega, fun j k v hk => by simp at hk⟩
  | f :: rest, off, ls, h, hlen, hf => by
    unfold flatFieldsS at h
    split at h
    · rename_i hoff
      split at h
      · rename_i l hl
        split at h
        · rename_i hc
          split at h
          · rename_i r hr
            simp only [Option.some.injEq] at h
            subst h
            rw [List.length_append] at hlen
            obtain ⟨x, hx⟩ := hf f (by simp)
            rw [hc, hoff] at hx
            refine okCellsS_append (ih _ _ _ _ hl hx) ?_
            rw [List.drop_drop]
            exact flatFieldsS_ok ih all rest (off + l.length) r hr (by omega) (fun g hg => hf g (by simp [hg]))
          · cases h
        · cases h
      · cases h
    · cases h

theorem arrayS_ok {n : Nat} {e : TypeId} {l : List KdS} (ih : ∀ cs x, DataW.trod enc P w base spare held n e cs = some x → okCellsS w l cs) (all : List Value) :
    ∀ (m : Nat) (off : Nat), off * l.length + m * l.length = all.length → (∀ i, off ≤ i → i < off + m → ∃ x, DataW.trod enc P w base spare held n e ((all.drop (i * l.length)).take l.length) = some x) →
      okCellsS w ((List.replicate m l).flatten) (all.drop (off * l.length))
  | 0, off, hlen, _ => by
    simp at hlen
    exact ⟨by simp; omega, fun j k v hk => by simp at hk⟩
  | m + 1, off, hlen, hf => by
    rw [List.replicate_succ, List.flatten_cons]
    obtain ⟨x, hx⟩ := hf off (Nat.le_refl _) (by omega)
    rw [Nat.add_mul, Nat.one_mul] at hlen
    refine okCellsS_append (ih _ _ hx) ?_
    rw [List.drop_drop, show off * l.length + l.length = (off + 1) * l.length by rw [Nat.add_mul, Nat.one_mul]]
    exact arrayS_ok ih all m (off + 1) (by rw [Nat.add_mul, Nat.one_mul]; omega) (fun i h1 h2 => hf i (by omega) (by omega))

/-- WHAT IS READ AS DATA OF A PLAIN TYPE IS CELLS OF THESE KINDS. -/
theorem flatS_ok : ∀ (m n : Nat) (t : TypeId) (cs : List Value) (x : DataW H × List MemPlace) (ks : List KdS), flatS P m t = some ks → DataW.trod enc P w base spare held n t cs = some x → okCellsS w ks cs
  | 0, _, _, _, _, _, h, _ => by simp [flatS] at h
  | m + 1, n, t, cs, x, ks, h, ht => by
    unfold flatS at h
    split at h
    · rename_i hu
      simp only [Option.some.injEq] at h
      subst h
      cases n with
      | zero => simp [DataW.trod] at ht
      | succ n =>
        unfold DataW.trod at ht
        rw [hu] at ht
        split at ht <;> simp_all
        refine ⟨rfl, fun j k v hk hv => ?_⟩
        match j, hk, hv with
        | 0, hk, hv =>
          obtain rfl : KdS.b = k := by simpa using hk
          obtain rfl := Option.some.inj hv
          exact ⟨_, rfl⟩
    · rename_i k hu
      simp only [Option.some.injEq] at h
      subst h
      obtain ⟨q, rfl, _, hw⟩ := DataW.trod_int hu ht
      refine ⟨rfl, fun j k v hk hv => ?_⟩
      match j, hk, hv with
      | 0, hk, hv =>
        rename_i k0 _ _
        obtain rfl := Option.some.inj hk
        obtain rfl := Option.some.inj hv
        exact ⟨_, rfl, hw⟩
    · rename_i fs hu
      split at h
      · rename_i l hl
        split at h
        · rename_i hc
          simp only [Option.some.injEq] at h
          subst h
          obtain ⟨xs, k, hk, hx, hlen, hxs, hf⟩ := DataW.trod_struct hu ht
          have := flatFieldsS_ok (enc := enc) (P := P) (w := w) (base := base) (spare := spare) (held := held) (n := k) (fl := flatS P m) (fun t cs x ks h1 h2 => flatS_ok m k t cs x ks h1 h2) cs fs.toList 0 l hl (by omega) (fun f hfm => by
            obtain ⟨i, hi, rfl⟩ := List.getElem_of_mem hfm
            have hi' : i < fs.size := by simpa using hi
            have h1 := hf i fs[i] (by simp [hi'])
            refine ⟨xs[i]'(by omega), ?_⟩
            rw [List.getElem?_eq_getElem (by omega)] at h1
            simpa using h1)
          simpa using this
        · cases h
      · cases h
    · rename_i e hu
      split at h
      · rename_i k hk
        split at h
        · rename_i hc
          simp only [Option.some.injEq] at h
          subst h
          rcases Go.ChangeShapes.open_ints hu hk hc ht with ⟨hcs, _⟩ | ⟨y, l, c', zs, hcs, _, hl, hm, hz, _, hcell, hwz⟩
          · subst hcs
            obtain ⟨l, hl⟩ := open_SlI (a := none) (n := 0) (c := 0) (d := x.1) (ps := x.2) hu hk hc ⟨n, by simpa [Value.cells] using ht⟩
            refine ⟨rfl, fun j k v hk hv => ?_⟩
            match j, hk, hv with
            | 0, hk, hv =>
              obtain rfl := Option.some.inj hk
              obtain rfl := Option.some.inj hv
              exact ⟨_, _, _, l, rfl, hl⟩
          · subst hcs
            obtain ⟨ll, hl⟩ := open_SlI (a := some y) (n := l) (c := c') (d := x.1) (ps := x.2) hu hk hc ⟨n, by simpa [Value.cells] using ht⟩
            refine ⟨rfl, fun j k v hk hv => ?_⟩
            match j, hk, hv with
            | 0, hk, hv =>
              obtain rfl := Option.some.inj hk
              obtain rfl := Option.some.inj hv
              exact ⟨_, _, _, ll, rfl, hl⟩
        · cases h
      · cases h
    · rename_i q e hu
      split at h
      · rename_i l hl
        split at h
        · rename_i hc
          simp only [Option.some.injEq] at h
          subst h
          obtain ⟨xs, k, hk, hx, hlen, hxs, hf⟩ := DataW.trod_array hu ht
          have := arrayS_ok (enc := enc) (P := P) (w := w) (base := base) (spare := spare) (held := held) (n := k) (e := e) (l := l) (fun cs x h2 => flatS_ok m k e cs x l hl h2) cs q 0 (by omega) (fun i _ hi => by
            have h1 := hf i (by omega)
            rw [hc.1, List.getElem?_eq_getElem (by omega)] at h1
            exact ⟨_, h1⟩)
          simpa using this
        · cases h
      · cases h
    · cases h

/-- A slice of plain elements that came in: the elements' cells, one behind the other. -/
def SlQ (ks : List KdS) (W : World) (A : Option Addr) (n c : Nat) (rows : List (List Value)) : Prop :=
  rows.length = n ∧ n ≤ c ∧ c ≤ 9223372036854775807 ∧ (∀ r ∈ rows, okCellsS W ks r) ∧ ∀ j r q v, rows[j]? = some r → r[q]? = some v → ∃ ad, A = some ad ∧ W.cell? (ad.add (j * ks.length + q)) = some v

theorem open_SlQ {t e : TypeId} {ks : List KdS} {a : Option Addr} {n c : Nat} {d : DataW H} {ps : List MemPlace} (m : Nat)
    (hu : P.underlying t = some (.slice e)) (hks : flatS P m e = some ks) (hc : P.cellsOf e = ks.length) (h : DataW.Trod enc P w base spare held t (.slice a n c) d ps) : ∃ rows, SlQ ks w a n c rows := by
  obtain ⟨fuel, hf⟩ := h
  rcases Go.Deep.open_slice hu hf with ⟨hcs, _⟩ | ⟨x, l, c', m', n', D, Pl, hcs, _, hl, hm, hmm, hx, hall⟩
  · simp [Value.cells] at hcs
    obtain ⟨rfl, rfl, rfl⟩ := hcs
    exact ⟨[], rfl, Nat.le_refl _, by omega, by simp, fun j r q v h => by simp at h⟩
  · simp [Value.cells] at hcs
    obtain ⟨rfl, rfl, rfl⟩ := hcs
    have hnm : n ≤ m' := by
      rw [hmm]
      split
      · exact hl
      · exact Nat.le_refl _
    refine ⟨(List.range n).map fun i => ((w.cells? base (x.add (i * ks.length)) ks.length).getD []), by simp, hl, by simpa [maxLen] using hm, ?_, ?_⟩
    · intro r hr
      simp only [List.mem_map, List.mem_range] at hr
      obtain ⟨i, hi, rfl⟩ := hr
      obtain ⟨cs', h1, h2⟩ := hall i (by omega)
      rw [hc] at h1
      rw [h1]
      exact flatS_ok m _ _ _ _ _ hks h2
    · intro j r q v hr hv
      rw [List.getElem?_map, Option.map_eq_some_iff] at hr
      obtain ⟨i, hi, rfl⟩ := hr
      have hj : j < n := by
        have := (List.getElem?_eq_some_iff.1 hi).1
        simpa using this
      rw [List.getElem?_range hj] at hi
      cases hi
      obtain ⟨cs', h1, h2⟩ := hall j (by omega)
      rw [hc] at h1
      rw [h1] at hv
      obtain ⟨_, hlen, hcell⟩ := World.cells?_some h1
      simp only [Option.getD_some] at hv
      have hq := (List.getElem?_eq_some_iff.1 hv).1
      refine ⟨x, rfl, ?_⟩
      have := hcell q (by omega)
      rw [add_add] at this
      rw [this]
      exact hv
end
theorem okS_int {w : World} {ks : List KdS} {r : List Value} (h : okCellsS w ks r) (j : Nat) (k : IntKind) (hk : ks[j]? = some (.i k)) : ∃ n, r[j]? = some (.int k n) ∧ (Lit.int k n).wf = true := by
  have hj := (List.getElem?_eq_some_iff.1 hk).1
  have hr : j < r.length := by rw [h.1]; exact hj
  obtain ⟨n, hn, hw⟩ := h.2 j _ _ hk (List.getElem?_eq_getElem hr)
  exact ⟨n, by rw [List.getElem?_eq_getElem hr, hn], hw⟩
theorem okS_sl {w : World} {ks : List KdS} {r : List Value} (h : okCellsS w ks r) (j : Nat) (k : IntKind) (hk : ks[j]? = some (.sl k)) : ∃ a n c l, r[j]? = some (.slice a n c) ∧ SlI k w a n c l := by
  have hj := (List.getElem?_eq_some_iff.1 hk).1
  have hr : j < r.length := by rw [h.1]; exact hj
  obtain ⟨a, n, c, l, hn, hs⟩ := h.2 j _ _ hk (List.getElem?_eq_getElem hr)
  exact ⟨a, n, c, l, by rw [List.getElem?_eq_getElem hr, hn], hs⟩
theorem SlQ.row {ks : List KdS} {W : World} {A : Option Addr} {n c : Nat} {rows : List (List Value)} (h : SlQ ks W A n c rows) (j : Nat) (hj : j < n) : ∃ r, rows[j]? = some r ∧ okCellsS W ks r := by
  have hl : j < rows.length := by rw [h.1]; exact hj
  exact ⟨rows[j], List.getElem?_eq_getElem hl, h.2.2.2.1 _ (List.getElem_mem hl)⟩
theorem okCellsS_below {w W : World} {ks : List KdS} {r : List Value} (hb : Below w.heap.size w W) (h : okCellsS w ks r) : okCellsS W ks r := by
  refine ⟨h.1, fun j k v hk hv => ?_⟩
  have := h.2 j k v hk hv
  cases k with
  | i k => exact this
  | b => exact this
  | sl k =>
    obtain ⟨a, n, c, l, e, hs⟩ := this
    exact ⟨a, n, c, l, e, hs.1, hs.2.1, hs.2.2.1, hs.2.2.2.1.below hb, hs.2.2.2.2⟩
theorem SlQ.below {ks : List KdS} {W W' : World} {A : Option Addr} {n c : Nat} {rows : List (List Value)} (h : SlQ ks W A n c rows) (hb : Below W.heap.size W W') : SlQ ks W' A n c rows :=
  ⟨h.1, h.2.1, h.2.2.1, fun r hr => okCellsS_below hb (h.2.2.2.1 r hr), fun j r q v hr hv => let ⟨ad, e, hc⟩ := h.2.2.2.2 j r q v hr hv; ⟨ad, e, bl_keeps hb hc⟩⟩
theorem SlQ.addr {ks : List KdS} {W : World} {A : Option Addr} {n c : Nat} {rows : List (List Value)} (h : SlQ ks W A n c rows) (hn : 0 < n) (hk : 0 < ks.length) : ∃ b off, A = some ⟨b, off, none⟩ := by
  obtain ⟨r, hr, ho⟩ := h.row 0 hn
  obtain ⟨ad, rfl, hc⟩ := h.2.2.2.2 0 r 0 _ hr (List.getElem?_eq_getElem (show 0 < r.length by rw [ho.1]; exact hk))
  have hs := World.cell?_spot hc
  simp [Addr.add] at hs
  exact ⟨ad.block, ad.off, by rw [← hs]⟩
theorem SlQ.cell {ks : List KdS} {W : World} {b off : Nat} {n c : Nat} {rows : List (List Value)} (h : SlQ ks W (some ⟨b, off, none⟩) n c rows) {j : Nat} {r : List Value} (hr : rows[j]? = some r) {q : Nat} {v : Value} (hv : r[q]? = some v) :
    W.cell? ⟨b, off + j * ks.length + q, none⟩ = some v := by
  obtain ⟨ad, e, hc⟩ := h.2.2.2.2 j r q v hr hv
  cases e
  rw [add_flat, ← Nat.add_assoc] at hc
  exact hc
/-- A row of a number, a slice of numbers and a number. -/
theorem SlQ.act {k0 k1 k2 : IntKind} {W : World} {A : Option Addr} {n c : Nat} {rows : List (List Value)} (h : SlQ [.i k0, .sl k1, .i k2] W A n c rows) (j : Nat) (hj : j < n) :
    ∃ b off x a m d l y, A = some ⟨b, off, none⟩ ∧ W.cell? ⟨b, off + j * 3, none⟩ = some (.int k0 x) ∧ W.cell? ⟨b, off + j * 3 + 1, none⟩ = some (.slice a m d) ∧ W.cell? ⟨b, off + j * 3 + 2, none⟩ = some (.int k2 y) ∧
      SlI k1 W a m d l ∧ (Lit.int k0 x).wf = true ∧ (Lit.int k2 y).wf = true := by
  obtain ⟨b, off, rfl⟩ := h.addr (by omega) (by simp)
  obtain ⟨r, hr, ho⟩ := h.row j hj
  obtain ⟨x, hx, wx⟩ := okS_int ho 0 k0 rfl
  obtain ⟨a, m, d, l, hs, hsl⟩ := okS_sl ho 1 k1 rfl
  obtain ⟨y, hy, wy⟩ := okS_int ho 2 k2 rfl
  exact ⟨b, off, x, a, m, d, l, y, rfl, h.cell hr hx, h.cell hr hs, h.cell hr hy, hsl, wx, wy⟩
/-- A struct of plain cells by value. -/
theorem open_flatV {H : Type} {enc : TypeId × Value → H} {P : Program} {w : World} {base : Nat} {spare : Nat → Bool} {held : Bool} {w' : World} {r : Reach} {t : TypeId} {fs : Array Field} {ks : List Kd} {v : Value} {d : DataW H} {ps : List MemPlace} (m : Nat)
    (hu : P.underlying t = some (.struct fs)) (hks : flat P m t = some ks) (hv : Value.okWide P w' r base t v) (h : DataW.Trod enc P w base spare held t v d ps) : ∃ cs : Array Value, v = .agg cs ∧ okCells ks cs.toList := by
  obtain ⟨cs, rfl, _⟩ := okWide_struct hu hv
  obtain ⟨fuel, hf⟩ := h
  exact ⟨cs, rfl, flat_ok m _ _ _ _ _ hks (by simpa [Value.cells] using hf)⟩
section
variable {P : Program} {ops : Array Oper} {rest : List Oper} {o : Oper} {a : Act} {Q : Exit → Act → World → Prop} {w : World}
theorem run_loadVar_cells (w : World) (ad : Addr) (ty : TypeId) (cs : List Value) (d : TypeDesc) (hc : ∀ j v, cs[j]? = some v → w.cell? (ad.add j) = some v)
    (hu : P.underlying ty = some d) (hd : (match d with | .struct _ | .array _ _ => true | _ => false) = true) (hi : (P.info? ty).map (·.size) = some cs.length) :
    (loadVar ty ad).run P w = .ok (.agg cs.toArray) w := by
  have hl : (loadCells ad cs.length).run P w = .ok cs.toArray w := run_loadCells_list (P := P) w ad cs hc
  cases hq : P.info? ty with
  | none => simp [hq] at hi
  | some i =>
    have hs : i.size = cs.length := by simpa [hq] using hi
    have hagg : (isAgg ty).run P w = .ok true w := by
      unfold isAgg
      rw [Sem.run_bind, run_underlying hu w]
      cases d <;> simp_all
    simp [loadVar, Sem.run_bind, hagg, sizeOf, typeInfo, hq, hs, hl]
/-- A struct is loaded from wherever its cells are. -/
theorem load_cells (hgd : o.guard = none) (ty : TypeId) (x : Operand) (ho : o.op = .load ty x) (ad : Addr) (cs : List Value) (d : TypeDesc) (hx : a.eval x = .pointer (some ad)) (hc : ∀ j v, cs[j]? = some v → w.cell? (ad.add j) = some v)
    (hu : P.underlying ty = some d) (hd : (match d with | .struct _ | .array _ _ => true | _ => false) = true) (hi : (P.info? ty).map (·.size) = some cs.length)
    (h : wpList P ops Q rest (a.put o.dst (.agg cs.toArray)) w) : wpList P ops Q (o :: rest) a w :=
  wpList_plain hgd fun _ hK => by
    unfold Oper.wp execOp
    simp only [ho, hx, Instr.loadAt, Instr.sureAddr, Sem.run_bind, Sem.run_pure, Result.andThen_ok, run_loadVar_cells w ad ty cs d hc hu hd hi]
    exact hK _ _ h
theorem three_cells {b off : Nat} {x y z : Value} (h0 : w.cell? ⟨b, off, none⟩ = some x) (h1 : w.cell? ⟨b, off + 1, none⟩ = some y) (h2 : w.cell? ⟨b, off + 2, none⟩ = some z) : ∀ j v, [x, y, z][j]? = some v → w.cell? ((⟨b, off, none⟩ : Addr).add j) = some v := by
  intro j v hj
  rw [add_flat]
  match j, hj with
  | 0, hj => simp at hj; subst hj; exact h0
  | 1, hj => simp at hj; subst hj; exact h1
  | 2, hj => simp at hj; subst hj; exact h2
end
end Go.Proofs.Ytcgabjjdffcjbaa
