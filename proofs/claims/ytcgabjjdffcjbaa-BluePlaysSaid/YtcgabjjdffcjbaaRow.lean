/- Rows of things, each of so many cells. -/
import Derived.Test.YtcgabjjdffcjbaaRoom
namespace Go.Proofs.Ytcgabjjdffcjbaa
open Go.RowKit
set_option linter.unusedVariables false
set_option linter.unusedSimpArgs false

section
variable {α : Type} {f : α → List Value} {k : Nat}
/-- The cells of all, one behind the other. -/
def fl (f : α → List Value) (l : List α) : List Value := (l.map f).flatten
theorem fl_nil : fl f [] = [] := rfl
theorem fl_cons (x : α) (l : List α) : fl f (x :: l) = f x ++ fl f l := rfl
theorem fl_app (l m : List α) : fl f (l ++ m) = fl f l ++ fl f m := by simp [fl]
theorem fl_one (x : α) : fl f [x] = f x := by simp [fl]
theorem fl_length : ∀ (l : List α), (∀ x ∈ l, (f x).length = k) → (fl f l).length = l.length * k
  | [], _ => by simp [fl]
  | x :: l, h => by
    rw [fl_cons, List.length_append, h x (by simp), fl_length l (fun y hy => h y (by simp [hy])), List.length_cons, Nat.add_mul]
    omega
theorem fl_at : ∀ {l : List α} {i : Nat} {x : α}, (∀ x ∈ l, (f x).length = k) → l[i]? = some x → ∀ {q : Nat}, q < k → (fl f l)[i * k + q]? = (f x)[q]?
  | y :: l, 0, x, h, hi, q, hq => by
    simp at hi
    subst hi
    rw [fl_cons, Nat.zero_mul, Nat.zero_add, List.getElem?_append_left (by rw [h y (by simp)]; exact hq)]
  | y :: l, i + 1, x, h, hi, q, hq => by
    rw [List.getElem?_cons_succ] at hi
    have hy := h y (by simp)
    rw [fl_cons, List.getElem?_append_right (by rw [hy, Nat.add_mul]; omega), hy, show (i + 1) * k + q - k = i * k + q by rw [Nat.add_mul]; omega]
    exact fl_at (fun z hz => h z (by simp [hz])) hi hq
theorem fl_take (l : List α) (h : ∀ x ∈ l, (f x).length = k) (i : Nat) (hi : i ≤ l.length) : (fl f l).take (i * k) = fl f (l.take i) := by
  have e : fl f l = fl f (l.take i) ++ fl f (l.drop i) := by rw [← fl_app, List.take_append_drop]
  have hl : (fl f (l.take i)).length = i * k := by rw [fl_length _ (fun x hx => h x (List.mem_of_mem_take hx)), List.length_take, Nat.min_eq_left hi]
  rw [e, List.take_left' hl]
theorem fl_drop (l : List α) (h : ∀ x ∈ l, (f x).length = k) (i : Nat) (hi : i ≤ l.length) : (fl f l).drop (i * k) = fl f (l.drop i) := by
  have e : fl f l = fl f (l.take i) ++ fl f (l.drop i) := by rw [← fl_app, List.take_append_drop]
  have hl : (fl f (l.take i)).length = i * k := by rw [fl_length _ (fun x hx => h x (List.mem_of_mem_take hx)), List.length_take, Nat.min_eq_left hi]
  rw [e, List.drop_left' hl]
theorem fl_set {l : List α} (h : ∀ x ∈ l, (f x).length = k) {i : Nat} (x : α) (hx : (f x).length = k) (hi : i < l.length) : fl f (l.set i x) = (fl f l).take (i * k) ++ (f x ++ (fl f l).drop (i * k + (f x).length)) := by
  rw [hx, fl_take l h i (by omega), show i * k + k = (i + 1) * k by rw [Nat.add_mul]; omega, fl_drop l h (i + 1) (by omega), ← fl_cons, ← fl_app, List.set_eq_take_append_cons_drop, if_pos hi]
/-- One cell of one of them is written. -/
theorem fl_put : ∀ {l : List α} {i : Nat} {x : α}, (∀ x ∈ l, (f x).length = k) → l[i]? = some x → ∀ {q : Nat} {v : Value} {y : α}, q < k → f y = (f x).set q v → (fl f l).set (i * k + q) v = fl f (l.set i y)
  | z :: l, 0, x, h, hi, q, v, y, hq, hy => by
    simp at hi
    subst hi
    rw [fl_cons, Nat.zero_mul, Nat.zero_add, List.set_append_left _ _ (by rw [h z (by simp)]; exact hq), ← hy]
    rfl
  | z :: l, i + 1, x, h, hi, q, v, y, hq, hy => by
    rw [List.getElem?_cons_succ] at hi
    have hz := h z (by simp)
    rw [fl_cons, List.set_append_right _ _ (by rw [hz, Nat.add_mul]; omega), hz, show (i + 1) * k + q - k = i * k + q by rw [Nat.add_mul]; omega, fl_put (fun u hu => h u (by simp [hu])) hi hq hy]
    rfl
theorem fl_oneCell {l : List α} (h : ∀ x ∈ l, ∀ v ∈ f x, v.oneCell' = true) : ∀ v ∈ fl f l, v.oneCell' = true := by
  intro v hv
  simp only [fl, List.mem_flatten, List.mem_map] at hv
  obtain ⟨r, ⟨x, hx, rfl⟩, hv⟩ := hv
  exact h x hx v hv

/-- A slice of them that is read. -/
def SlR (f : α → List Value) (w : World) (A : Option Addr) (n c : Nat) (l : List α) : Prop := l.length = n ∧ n ≤ c ∧ c ≤ 9223372036854775807 ∧ (∀ ad, A = some ad → ad.spot = none) ∧ Rd w A (fl f l)
theorem SlR.below {w w' : World} {A : Option Addr} {n c : Nat} {l : List α} (h : SlR f w A n c l) (hb : Below w.heap.size w w') : SlR f w' A n c l := ⟨h.1, h.2.1, h.2.2.1, h.2.2.2.1, h.2.2.2.2.below hb⟩
theorem SlR.nil (w : World) : SlR f w none 0 0 [] := ⟨rfl, Nat.le_refl _, by omega, (fun _ h => by cases h), Rd.nil _ _⟩
theorem SlR.cells {w : World} {A : Option Addr} {n c : Nat} {l : List α} (h : SlR f w A n c l) (hk : ∀ x ∈ l, (f x).length = k) {i : Nat} {x : α} (hi : l[i]? = some x) (h0 : 0 < k) : ∃ b o, A = some ⟨b, o, none⟩ ∧ ∀ (q : Nat) (v : Value), (f x)[q]? = some v → w.cell? ⟨b, o + i * k + q, none⟩ = some v := by
  have hx := hk x (List.mem_of_getElem? hi)
  obtain ⟨v0, hv0⟩ : ∃ v, (f x)[0]? = some v := ⟨_, List.getElem?_eq_getElem (by omega)⟩
  obtain ⟨ad, rfl, _⟩ := h.2.2.2.2 _ _ ((fl_at hk hi h0).trans hv0)
  have hs := h.2.2.2.1 ad rfl
  obtain ⟨b, o, sp⟩ := ad
  simp at hs
  subst hs
  refine ⟨b, o, rfl, fun q v hq => ?_⟩
  have hql := (List.getElem?_eq_some_iff.1 hq).1
  rw [hx] at hql
  obtain ⟨ad, e, hc⟩ := h.2.2.2.2 _ _ ((fl_at hk hi hql).trans hq)
  cases e
  rwa [add_flat, ← Nat.add_assoc] at hc
theorem SlR.of_own {B : Nat} {w : World} {e : TypeId} {v : Value} {n : Nat} {l : List α} (h : w.ownsRow B e k v n (fl f l)) (hl : l.length = n) : ∃ A c, v = .slice A n c ∧ SlR f w A n c l := by
  obtain ⟨A, c, hv, hrd⟩ := own_Rd h
  subst hv
  refine ⟨A, c, rfl, hl, ?_⟩
  rcases own_room h with ⟨h0, e, _⟩ | ⟨g, cap, e, _, hm, hr⟩
  · cases e
    exact ⟨by omega, by omega, (fun _ h => by cases h), hrd⟩
  · cases e
    exact ⟨hr.2.1, hm, (fun _ h => by cases h; rfl), hrd⟩
end
theorem SlR.of_ownB {α : Type} {f : α → List Value} {k B : Nat} {w : World} {e : TypeId} {v : Value} {n : Nat} {l : List α} (h : w.ownsRow B e k v n (fl f l)) (hl : l.length = n) : ∃ A c, v = .slice A n c ∧ SlR f w A n c l ∧ ∀ ad, A = some ad → B ≤ ad.block ∧ ∃ cs : Array Value, Obj1 w ad.block cs e := by
  obtain ⟨A, c, hv, hs⟩ := SlR.of_own h hl
  refine ⟨A, c, hv, hs, fun ad e1 => ?_⟩
  subst e1
  rcases h.2 with ⟨e2, _⟩ | ⟨g, cap, cur, e2, hb, hg, _⟩
  · rw [e2] at hv
    cases hv
  · rw [e2] at hv
    cases hv
    exact ⟨hb, cur, hg⟩
theorem SlR.upd {α : Type} {f : α → List Value} {w w' : World} {A : Option Addr} {n c B : Nat} {l : List α} (h : SlR f w A n c l) (hu : Upd B w w') (hne : ∀ ad, A = some ad → ad.block ≠ B) : SlR f w' A n c l := ⟨h.1, h.2.1, h.2.2.1, h.2.2.2.1, h.2.2.2.2.upd hu hne⟩
/-- xs[:m]. -/
theorem cut_to {P : Program} (t e : TypeId) (sz : Nat) (ht : P.underlying t = some (.slice e)) (hii : (P.info? e).map (·.size) = some sz) (A : Option Addr) (n c m : Nat) (hm : m ≤ c) (W : World) (kl : IntKind) :
    (Instr.slice t (.slice A n c) none (some (.int kl (m : Int))) none).run P W = .ok (.slice A m c) W := by
  obtain ⟨i, hi, hsz⟩ := Option.map_eq_some_iff.1 hii
  have hel : P.elem t = e := by simp [Program.elem, ht]
  have hu : P.underlying t = some (.slice (P.elem t)) := by rw [hel]; exact ht
  rw [run_slice_h W t A n c hu kl (m : Int) (Int.natCast_nonneg _) (by omega), hel]
  simp [sizeOf, typeInfo, hi, hsz, sliced, Result.andThen]
  intro _
  cases A <;> simp [Addr.add]
section
variable {P : Program}
/-- append([]T{}, ys...): a row of the call's own, nothing that was there is written. -/
theorem app_new_run (W : World) (base : Nat) (t ty e : TypeId) (z : Value) (size bytes : Nat) (ht : P.underlying t = some (.slice e))
    (hinfo : (P.info? e).map (fun i => (i.zero, i.size, i.bytes)) = some (some z, size, bytes)) (hz : z.cells.size = size) (hsz : 0 < size) (hb0 : 0 < bytes)
    (g : Nat) (HO : W.ownsRow base e size (.slice (some ⟨g, 0, none⟩) 0 0) 0 []) (A : Option Addr) (m c : Nat) (news : List Value) (hl : news.length = m * size) (HR : Rd W A news)
    (h1 : ∀ u ∈ news, u.oneCell' = true) (hbytes : m * bytes ≤ 140737488355328) (hbase : base ≤ W.heap.size) :
    ∃ v1 w1, (Builtin.append_ #[t, t] ty #[.slice (some ⟨g, 0, none⟩) 0 0, .slice A m c]).run P W = .ok v1 w1 ∧ w1.ownsRow base e size v1 m news ∧ Below W.heap.size W w1 := by
  obtain ⟨i0, hi, hzz⟩ := Option.map_eq_some_iff.1 hinfo
  simp only [Prod.mk.injEq] at hzz
  obtain ⟨hz0, hz1, hz2⟩ := hzz
  have hlen : m ≤ 140737488355328 := Nat.le_trans (Nat.le_mul_of_pos_right _ hb0) hbytes
  by_cases hm : m = 0
  · subst hm
    have hn : news = [] := List.eq_nil_of_length_eq_zero (by simpa using hl)
    subst hn
    refine ⟨.slice (some ⟨g, 0, none⟩) 0 0, W, ?_, HO, Below.refl _ _⟩
    cases A <;> simp [Builtin.append_, run_underlying ht, sizeOf, typeInfo, hi, Builtin.lenOf, Builtin.firstCells, storeCells, loadCells, loadCellsFrom]
  · cases A with
    | none =>
      have hpos : 0 < news.length := by rw [hl]; exact Nat.mul_pos (Nat.pos_of_ne_zero hm) hsz
      obtain ⟨ad, h, _⟩ := HR 0 news[0] (List.getElem?_eq_getElem hpos)
      cases h
    | some ad =>
      have hcells : ∀ j u, news[j]? = some u → W.cell? (ad.add j) = some u := by
        intro j u hu
        obtain ⟨ad', h', hc⟩ := HR j u hu
        cases h'
        exact hc
      have hge := grownCap_ge W m 0 e
      have hcm : grownCap W m 0 e ≤ maxLen := grownCap_le_maxLen W m 0 e (by simp only [maxLen]; omega)
      have hr := run_append_grow (P := P) W t ty e i0 z ht hi hz0 ⟨g, 0, none⟩ 0 0 [] (by simp) (by simp) ad m c news (by rw [hz1]; exact hl) hcells (by omega) (by omega) (growslice_fits (by omega) (by rw [hz2]; simpa using hbytes))
      simp only [Nat.zero_add, List.nil_append, Array.empty_append] at hr
      refine ⟨_, _, hr, ⟨by simpa using hl, .inr ⟨W.heap.size, _, _, rfl, hbase, heap_alloc_new W.drew _, hge, hcm, ?_, ?_⟩⟩, (Below.refl _ _).drew.alloc (Nat.le_refl _) _⟩
      · simp only [Array.size_append, List.size_toArray, size_zeroCells, hz, hl]
        rw [← Nat.add_mul]
        congr 1
        omega
      · simp only [Array.toList_append]
        rw [← hl]
        simp

variable {ops : Array Oper} {rest : List Oper} {o : Oper} {a : Act} {Q : Exit → Act → World → Prop}
theorem app_new_step {W : World} {K : Act → World → Prop} {E : Prop} (base : Nat) (hgd : o.guard = none) (s x : Operand) (t e : TypeId) (z : Value) (size bytes : Nat)
    (ho : o.op = .call { callee := .builtin .append, args := #[s, x], argTypes := #[t, t] }) (ht : P.underlying t = some (.slice e))
    (hinfo : (P.info? e).map (fun i => (i.zero, i.size, i.bytes)) = some (some z, size, bytes)) (hz : z.cells.size = size) (hsz : 0 < size) (hb0 : 0 < bytes)
    (g : Nat) (A : Option Addr) (m c : Nat) (news : List Value) (hs : a.eval s = .slice (some ⟨g, 0, none⟩) 0 0) (hx : a.eval x = .slice A m c) (HO : W.ownsRow base e size (.slice (some ⟨g, 0, none⟩) 0 0) 0 []) (hl : news.length = m * size) (HR : Rd W A news)
    (h1 : ∀ u ∈ news, u.oneCell' = true) (hbytes : m * bytes ≤ 140737488355328) (hbase : base ≤ W.heap.size)
    (h : ∀ v1 w1, w1.ownsRow base e size v1 m news → Below W.heap.size W w1 → K (a.put o.dst v1) w1) :
    if Region.wanted o (yielded ops a.tmps) = true then Oper.wp P o a W K Q else E := by
  have hw : Region.wanted o (yielded ops a.tmps) = true := by simp [Region.wanted, hgd]
  rw [if_pos hw]
  obtain ⟨v1, w1, hr, hown, hg⟩ := app_new_run (P := P) W base t o.type e z size bytes ht hinfo hz hsz hb0 g HO A m c news hl HR h1 hbytes hbase
  unfold Oper.wp execOp
  simp only [ho, resolve, invoke, builtin, Sem.run_bind, Sem.run_pure, Result.andThen_ok, List.map_toArray, List.map_cons, List.map_nil, hs, hx, hr]
  exact h v1 w1 hown hg
theorem app_new_list {W : World} (base : Nat) (hgd : o.guard = none) (s x : Operand) (t e : TypeId) (z : Value) (size bytes : Nat)
    (ho : o.op = .call { callee := .builtin .append, args := #[s, x], argTypes := #[t, t] }) (ht : P.underlying t = some (.slice e))
    (hinfo : (P.info? e).map (fun i => (i.zero, i.size, i.bytes)) = some (some z, size, bytes)) (hz : z.cells.size = size) (hsz : 0 < size) (hb0 : 0 < bytes)
    (g : Nat) (A : Option Addr) (m c : Nat) (news : List Value) (hs : a.eval s = .slice (some ⟨g, 0, none⟩) 0 0) (hx : a.eval x = .slice A m c) (HO : W.ownsRow base e size (.slice (some ⟨g, 0, none⟩) 0 0) 0 []) (hl : news.length = m * size) (HR : Rd W A news)
    (h1 : ∀ u ∈ news, u.oneCell' = true) (hbytes : m * bytes ≤ 140737488355328) (hbase : base ≤ W.heap.size)
    (h : ∀ v1 w1, w1.ownsRow base e size v1 m news → Below W.heap.size W w1 → wpList P ops Q rest (a.put o.dst v1) w1) :
    wpList P ops Q (o :: rest) a W := by
  obtain ⟨v1, w1, hr, hown, hg⟩ := app_new_run (P := P) W base t o.type e z size bytes ht hinfo hz hsz hb0 g HO A m c news hl HR h1 hbytes hbase
  refine wpList_plain hgd fun K hK => ?_
  unfold Oper.wp execOp
  simp only [ho, resolve, invoke, builtin, Sem.run_bind, Sem.run_pure, Result.andThen_ok, List.map_toArray, List.map_cons, List.map_nil, hs, hx, hr]
  exact hK _ _ (h v1 w1 hown hg)
end
theorem own_neO {w : World} {O : Nat} {cs : Array Value} {t e : TypeId} {B sz : Nat} {v : Value} {n : Nat} {xs : List Value} (hO : Obj1 w O cs t) (h : w.ownsRow B e sz v n xs) (ht : t ≠ e) : some O ≠ v.ownBlock := by
  intro hv
  rcases h.2 with ⟨rfl, _⟩ | ⟨g, cap, cur, rfl, _, hg, _⟩
  · simp [Value.ownBlock] at hv
  · simp only [Value.ownBlock, Option.some.injEq] at hv
    subst hv
    unfold Obj1 at hO
    rw [hO] at hg
    cases hg
    exact ht rfl
theorem own_nil (W : World) (base : Nat) (e : TypeId) (size : Nat) (h : base ≤ W.heap.size) : (W.alloc (.cells #[] e)).ownsRow base e size (.slice (some ⟨W.heap.size, 0, none⟩) 0 0) 0 [] := by
  have := World.ownsRow_lit (base := base) (e := e) (size := size) W #[] 0 h (by simp [maxLen]) (by simp)
  simpa using this
theorem lit_rd (w : World) (cs : List Value) (t : TypeId) : Rd (w.alloc (.cells cs.toArray t)) (some ⟨w.heap.size, 0, none⟩) cs := fun j v hj => ⟨_, rfl, obj_cells (Obj1.new w cs.toArray t) (fun j v h => h) j v hj⟩
section
variable {P : Program} {o : Oper} {a : Act} {Q : Exit → Act → World → Prop} {w : World}
theorem wp_storeO {K : Act → World → Prop} (ty : TypeId) (x y : Operand) (ho : o.op = .store ty x y) (p : Nat) (t : TypeId) (old cs : Array Value) (hx : a.eval x = .pointer (some ⟨p, 0, none⟩)) (hy : a.eval y = .agg cs)
    (HO : Obj1 w p old t) (hs : cs.size = old.size) (hi : (P.info? ty).map (·.size) = some cs.size) (h1 : cs.all (·.oneCell') = true)
    (h : ∀ w', Obj1 w' p cs t → Upd p w w' → K (a.put o.dst undef) w') : o.wp P a w K Q := by
  have hk := setCells_obj p t cs.toList 0 old w HO (by simp [hs])
  refine wp_store_mid ty x y ho p 0 cs hx hy (fun j hj => ?_) hi h1 (h _ (by simpa using hk.1) hk.2)
  rw [Nat.zero_add, HO.cell j, HO.free j]
  exact ⟨by rw [Array.getElem?_eq_getElem (by omega)]; rfl, rfl⟩
end
/-- Results: a struct in a block of its own, and one more. -/
theorem results_cell2 {fn : Func} {p u : Tmp} {ty : TypeId} (h : fn.results = #[.cell p ty, .tmp u]) (tmps : Array Value) (P : Program) (w : World) (B : Nat) (v : Value)
    (hp : tmps.getD p undef = .pointer (some ⟨B, 0, none⟩)) (hl : (loadVar ty ⟨B, 0, none⟩).run P w = .ok v w) : (results fn tmps).run P w = .ok (.tuple #[v, tmps.getD u undef]) w := by
  rw [results_cell_tmp h, hp]
  show (Result.andThen (.ok (⟨B, 0, none⟩ : Addr) w) _) = _
  simp only [Result.andThen_ok]
  rw [hl]
  rfl
end Go.Proofs.Ytcgabjjdffcjbaa
