/- Small words for the walks of this seat: worlds, cells, lists. -/
import Derived.Test.YtcgabjjdffcjbaaProg
import Derived.WalkKit
import Derived.KernelRfl
import Derived.RowKit3
import Derived.Deep.LoopGhost
import Derived.Deep.QuietTactic
import Derived.BigQuiet
import Derived.Lib.Hide
import Derived.Deep.Draws
import Derived.WideLaws
import Derived.Deep.DeepCutAuto
import Derived.Deep.CutBlock
import Derived.Deep.RegionHeld3
import Derived.Maps.AppendAt
import Derived.ChangeSlices
import Derived.ProofKit
import Derived.Deep.MidRow
namespace Go.Proofs.Ytcgabjjdffcjbaa
open Go.RowKit
set_option linter.unusedVariables false
set_option linter.unusedSimpArgs false

/-- The number at a place of a list. -/
def nth (l : List Int) (k : Nat) : Int := l.getD k 0

/-- A slice of numbers that is read. -/
def RdI (w : World) (A : Option Addr) (l : List Int) : Prop :=
  l.length ≤ 9223372036854775807 ∧ ∀ j, j < l.length → ∃ ad, A = some ad ∧ w.cell? (ad.add j) = some (.int .i64 (nth l j))

theorem ret_i64 {a b : Int} (h : a = b) : Ending.returned (.int .i64 a) = .returned (.int .i64 b) := by rw [h]
theorem ret_bool {a b : Bool} (h : a = b) : Ending.returned (.bool a) = .returned (.bool b) := by rw [h]
theorem v_i64 {a b : Int} (h : a = b) : Value.int .i64 a = .int .i64 b := by rw [h]

theorem bl_drewN {B : Nat} {w W : World} (h : Below B w W) (n : Nat) : Below B w (W.drewN n) := ⟨h.os, h.tape, h.output, h.size, h.block⟩
theorem bl_alloc {w W : World} (h : Below w.heap.size w W) (o : Obj) : Below w.heap.size w (W.alloc o) := h.alloc h.size o
theorem bl_next {w W W' : World} (h : Below w.heap.size w W) (k : Below W.heap.size W W') : Below w.heap.size w W' := h.trans (k.mono h.size)
theorem cell_lt {w : World} {a : Addr} {v : Value} (h : w.cell? a = some v) : a.block < w.heap.size := World.block_lt_of_cell? w a h
theorem bl_keeps {w W : World} (h : Below w.heap.size w W) {a : Addr} {v : Value} (hc : w.cell? a = some v) : W.cell? a = some v := (h.cell (cell_lt hc)).trans hc
theorem RdI.below {w W : World} {A : Option Addr} {l : List Int} (h : RdI w A l) (hb : Below w.heap.size w W) : RdI W A l :=
  ⟨h.1, fun j hj => let ⟨ad, e, hc⟩ := h.2 j hj; ⟨ad, e, bl_keeps hb hc⟩⟩

theorem wrap64_in (n : Int) (h0 : -9223372036854775808 ≤ n) (h1 : n ≤ 9223372036854775807) : wrap64 n = n := by unfold wrap64; omega

theorem u8_range {n : Int} (h : (Lit.int .u8 n).wf = true) : 0 ≤ n ∧ n ≤ 255 := by
  simp only [Lit.wf, IntKind.min, IntKind.max, IntKind.signed, IntKind.bits, Bool.and_eq_true, decide_eq_true_eq] at h
  simp at h; omega
theorem u16_range {n : Int} (h : (Lit.int .u16 n).wf = true) : 0 ≤ n ∧ n ≤ 65535 := by
  simp only [Lit.wf, IntKind.min, IntKind.max, IntKind.signed, IntKind.bits, Bool.and_eq_true, decide_eq_true_eq] at h
  simp at h; omega
theorem u32_range {n : Int} (h : (Lit.int .u32 n).wf = true) : 0 ≤ n ∧ n ≤ 4294967295 := by
  simp only [Lit.wf, IntKind.min, IntKind.max, IntKind.signed, IntKind.bits, Bool.and_eq_true, decide_eq_true_eq] at h
  simp at h; omega
theorem i64_range {n : Int} (h : (Lit.int .i64 n).wf = true) : -9223372036854775808 ≤ n ∧ n ≤ 9223372036854775807 := by
  simp only [Lit.wf, IntKind.min, IntKind.max, IntKind.signed, IntKind.bits, Bool.and_eq_true, decide_eq_true_eq] at h
  simp at h; omega

/-- A new block of two cells. -/
theorem two_cells0 (w : World) (x y : Value) (t : TypeId) : (w.alloc (.cells #[x, y] t)).cell? ⟨w.heap.size, 0, none⟩ = some x := World.cell?_alloc_mark w #[x, y] t (0, 0) 0
theorem two_cells1 (w : World) (x y : Value) (t : TypeId) : (w.alloc (.cells #[x, y] t)).cell? ⟨w.heap.size, 1, none⟩ = some y := World.cell?_alloc_mark w #[x, y] t (0, 0) 1
/-- A new block's cell. -/
theorem new_cell (w : World) (C : Array Value) (t : TypeId) (j : Nat) : (w.alloc (.cells C t)).cell? ⟨w.heap.size, j, none⟩ = C[j]? := World.cell?_alloc_mark w C t (0, 0) j

theorem new_at {w : World} {C : Array Value} {t : TypeId} {n j : Nat} {v : Value} (hn : n = w.heap.size) (h : C[j]? = some v) : (w.alloc (.cells C t)).cell? ⟨n, j, none⟩ = some v := by
  subst hn
  exact (new_cell w C t j).trans h

theorem new_atd {w : World} {C : Array Value} {t : TypeId} {n j : Nat} {v : Value} (hn : n = w.heap.size) (h : C[j]? = some v) : (w.alloc (.cells C t)).drew.cell? ⟨n, j, none⟩ = some v := new_at hn h

/-- Numbers as values. -/
def vals (l : List Int) : List Value := l.map (Value.int .i64)
theorem vals_length (l : List Int) : (vals l).length = l.length := by simp [vals]
theorem vals_at (l : List Int) (j : Nat) (h : j < l.length) : (vals l)[j]? = some (.int .i64 (nth l j)) := by
  simp [vals, nth, List.getD_eq_getElem?_getD, List.getElem?_eq_getElem h]

/-- A row of the call's own reads. -/
theorem own_RdI {w : World} {base : Nat} {e : TypeId} {v : Value} {n : Nat} {l : List Int} (h : w.ownsRow base e 1 v n (vals l)) :
    ∃ A c, v = .slice A l.length c ∧ RdI w A l := by
  have hl : l.length = n := by have := h.1; rw [vals_length] at this; omega
  rcases h.2 with ⟨rfl, h0⟩ | ⟨g, cap, cur, rfl, hb, hh, hn, hm, _⟩
  · refine ⟨none, 0, by rw [hl, h0], by omega, fun j hj => by omega⟩
  · refine ⟨_, cap, by rw [hl], ?_, fun j hj => ⟨_, rfl, ?_⟩⟩
    · have : n ≤ maxLen := Nat.le_trans hn hm
      unfold maxLen at this
      omega
    · exact h.cells (g := g) rfl j _ (vals_at l j hj)

section
variable {P : Program} {ops : Array Oper} {rest : List Oper} {o : Oper} {a : Act} {Q : Exit → Act → World → Prop}
/-- append(v, y) of one value of one cell onto a row of the call's own, behind 'at_builtin'. -/
theorem app_one {w0 W : World} (base : Nat) (hgd : o.guard = none) (s x : Operand) (t e : TypeId) (z : Value) (bytes : Nat)
    (ho : o.op = .call { callee := .builtin .append, args := #[s, x], argTypes := #[t, t] })
    (ht : P.underlying t = some (.slice e)) (hinfo : (P.info? e).map (fun i => (i.zero, i.size, i.bytes)) = some (some z, 1, bytes)) (hz : z.cells.size = 1) (hb0 : 0 < bytes)
    (v : Value) (n : Nat) (xs : List Value) (y : Value) (hs : a.eval s = v) (hx : a.eval x = .slice (some ⟨W.heap.size, 0, none⟩) 1 1) (h1 : y.oneCell' = true)
    (HO : W.ownsRow base e 1 v n xs) (HB : Below base w0 W) (hbase : base ≤ W.heap.size) (hl : (n + 1) * bytes ≤ 140737488355328)
    (h : ∀ v1 w1, w1.ownsRow base e 1 v1 (n + 1) (xs ++ [y]) → Below base w0 w1 → W.grownBy w1 v.ownBlock → wpList P ops Q rest (a.put o.dst v1) w1) :
    wpList P ops Q (o :: rest) a (W.alloc (.cells #[y] e)) := by
  obtain ⟨i0, hi, hzz⟩ := Option.map_eq_some_iff.1 hinfo
  simp only [Prod.mk.injEq] at hzz
  obtain ⟨hz0, hz1, hz2⟩ := hzz
  have hlen : n + 1 ≤ 140737488355328 := Nat.le_trans (Nat.le_mul_of_pos_right _ hb0) hl
  refine wpList_append_own (W.alloc (.cells #[y] e)) hgd s x t ho base e i0 z 1 bytes ht hi hz0 hz1 hz2 hz (by omega) v n xs hs (HO.alloc _) ⟨W.heap.size, 0, none⟩ 1 1 [y] hx rfl
    ?_ (by simpa using h1) (by simp only [maxLen]; omega) hl (by simp; omega) ?_
  · intro j u hj
    match j, hj with
    | 0, hj => simp at hj; subst hj; exact new_cell W #[y] e 0
  · intro v1 w1 hown hg _
    exact h v1 w1 hown ((HB.alloc hbase _).grown hg (by simp; omega) (fun k hk => (HO.lt k hk).1)) (World.grownBy.trans (World.grownBy_alloc W _ _) hg)
end

/-- Cells that are read from an address on. -/
def Rd (w : World) (A : Option Addr) (vs : List Value) : Prop := ∀ j v, vs[j]? = some v → ∃ ad, A = some ad ∧ w.cell? (ad.add j) = some v
theorem Rd.below {w W : World} {A : Option Addr} {vs : List Value} (h : Rd w A vs) (hb : Below w.heap.size w W) : Rd W A vs :=
  fun j v hj => let ⟨ad, e, hc⟩ := h j v hj; ⟨ad, e, bl_keeps hb hc⟩
theorem Rd.nil (w : World) (A : Option Addr) : Rd w A [] := fun j v h => by simp at h
theorem Rd.take {w : World} {A : Option Addr} {vs : List Value} (h : Rd w A vs) (n : Nat) : Rd w A (vs.take n) := by
  intro j v hj
  refine h j v ?_
  rw [List.getElem?_take] at hj
  split at hj
  · exact hj
  · cases hj
theorem add_add (ad : Addr) (i j : Nat) : (ad.add i).add j = ad.add (i + j) := by
  unfold Addr.add
  by_cases h1 : i = 0 <;> by_cases h2 : j = 0 <;> simp [h1, h2, Nat.add_assoc]
theorem Rd.drop {w : World} {A : Option Addr} {vs : List Value} (h : Rd w A vs) (n : Nat) : Rd w (A.map (·.add n)) (vs.drop n) := by
  intro j v hj
  rw [List.getElem?_drop] at hj
  obtain ⟨ad, rfl, hc⟩ := h _ v hj
  exact ⟨ad.add n, rfl, by rw [add_add]; exact hc⟩
theorem RdI.of {w : World} {A : Option Addr} {l : List Int} (hl : l.length ≤ 9223372036854775807) (h : Rd w A (vals l)) : RdI w A l :=
  ⟨hl, fun j hj => h j _ (vals_at l j hj)⟩
theorem own_Rd {w : World} {base : Nat} {e : TypeId} {sz : Nat} {v : Value} {n : Nat} {vs : List Value} (h : w.ownsRow base e sz v n vs) :
    ∃ A c, v = .slice A n c ∧ Rd w A vs := by
  rcases h.2 with ⟨rfl, h0⟩ | ⟨g, cap, cur, rfl, hb, hh, hn, hm, _⟩
  · have : vs = [] := List.eq_nil_of_length_eq_zero (by rw [h.1, h0]; simp)
    subst this
    exact ⟨none, 0, by rw [h0], Rd.nil _ _⟩
  · exact ⟨_, cap, rfl, fun j u hj => ⟨_, rfl, h.cells (g := g) rfl j u hj⟩⟩

/-- xs[m:], where the new slice begins under a name of its own. -/
theorem cut_from {P : Program} (t e : TypeId) (sz : Nat) (ht : P.underlying t = some (.slice e)) (hii : (P.info? e).map (·.size) = some sz) (A : Option Addr) (n c m : Nat) (hm : m ≤ n) (hnc : n ≤ c) :
    ∃ A' : Option Addr, (∀ (W : World) (kl : IntKind), (Instr.slice t (.slice A n c) (some (.int kl (m : Int))) none none).run P W = .ok (.slice A' (n - m) (c - m)) W) ∧
      ∀ (w : World) (vs : List Value), vs.length = n * sz → Rd w A vs → Rd w A' (vs.drop (m * sz)) := by
  obtain ⟨i, hi, hsz⟩ := Option.map_eq_some_iff.1 hii
  refine ⟨if c = m then A else A.map (·.add (m * sz)), fun W kl => ?_, fun w vs hv h => ?_⟩
  · have hel : P.elem t = e := by simp [Program.elem, ht]
    have hu : P.underlying t = some (.slice (P.elem t)) := by rw [hel]; exact ht
    rw [run_slice_l W t A n c hu kl (m : Int) (Int.natCast_nonneg _) (by omega), hel]
    simp [sizeOf, typeInfo, hi, hsz, sliced, Result.andThen]
  · split
    · have : n = m := by omega
      subst this
      rw [List.drop_of_length_le (by omega)]
      exact Rd.nil _ _
    · exact h.drop _

section
variable {P : Program}
/-- append(v, ys...) onto a row of the call's own; ys is read, it may be nil. -/
theorem app_run (W : World) (base : Nat) (t ty e : TypeId) (z : Value) (size bytes : Nat) (ht : P.underlying t = some (.slice e))
    (hinfo : (P.info? e).map (fun i => (i.zero, i.size, i.bytes)) = some (some z, size, bytes)) (hz : z.cells.size = size) (hsz : 0 < size) (hb0 : 0 < bytes)
    (v : Value) (n : Nat) (xs : List Value) (HO : W.ownsRow base e size v n xs) (A : Option Addr) (m c : Nat) (news : List Value) (hl : news.length = m * size) (HR : Rd W A news)
    (h1 : ∀ u ∈ news, u.oneCell' = true) (hbytes : (n + m) * bytes ≤ 140737488355328) (hbase : base ≤ W.heap.size) :
    ∃ v1 w1, (Builtin.append_ #[t, t] ty #[v, .slice A m c]).run P W = .ok v1 w1 ∧ w1.ownsRow base e size v1 (n + m) (xs ++ news) ∧ W.grownBy w1 v.ownBlock ∧ (v1.ownBlock = v.ownBlock ∨ v1.ownBlock = some W.heap.size) := by
  obtain ⟨i0, hi, hzz⟩ := Option.map_eq_some_iff.1 hinfo
  simp only [Prod.mk.injEq] at hzz
  obtain ⟨hz0, hz1, hz2⟩ := hzz
  have hlen : n + m ≤ 140737488355328 := Nat.le_trans (Nat.le_mul_of_pos_right _ hb0) hbytes
  rcases A with _ | ad
  · have hn : news = [] := by
      cases news with
      | nil => rfl
      | cons x l => obtain ⟨ad, h, _⟩ := HR 0 x rfl; cases h
    subst hn
    have hm : m = 0 := by
      rcases Nat.eq_zero_or_pos m with h | h
      · exact h
      · have := Nat.mul_pos h hsz
        simp at hl
        omega
    subst hm
    refine ⟨v, W, ?_, by simpa using HO, ⟨rfl, rfl, rfl, Nat.le_refl _, fun _ _ _ => rfl⟩, .inl rfl⟩
    rcases HO.2 with ⟨rfl, h0⟩ | ⟨g, cap, cur, rfl, _, _, hnc, _⟩
    · subst h0
      simp [Builtin.append_, run_underlying ht, sizeOf, typeInfo, hi, Builtin.lenOf, Builtin.firstCells]
    · simp [Builtin.append_, run_underlying ht, sizeOf, typeInfo, hi, Builtin.lenOf, Builtin.firstCells, hnc, storeCells]
  · have hcells : ∀ j u, news[j]? = some u → W.cell? (ad.add j) = some u := by
      intro j u hu
      obtain ⟨ad', h', hc⟩ := HR j u hu
      cases h'
      exact hc
    obtain ⟨v1, w1, hr, h2, h3, _, h5⟩ := run_append_own_at (P := P) W base t ty e i0 z size bytes ht hi hz0 hz1 hz2 hz hsz v n xs HO ad m c news hl hcells h1 (by simp only [maxLen]; omega) hbytes hbase
    exact ⟨v1, w1, hr, h2, h3, h5⟩

variable {ops : Array Oper} {rest : List Oper} {o : Oper} {a : Act} {Q : Exit → Act → World → Prop}
/-- The same at a list of operations, behind 'at_builtin'. -/
theorem app_list {W : World} (base : Nat) (hgd : o.guard = none) (s x : Operand) (t e : TypeId) (z : Value) (size bytes : Nat)
    (ho : o.op = .call { callee := .builtin .append, args := #[s, x], argTypes := #[t, t] }) (ht : P.underlying t = some (.slice e))
    (hinfo : (P.info? e).map (fun i => (i.zero, i.size, i.bytes)) = some (some z, size, bytes)) (hz : z.cells.size = size) (hsz : 0 < size) (hb0 : 0 < bytes)
    (v : Value) (n : Nat) (xs : List Value) (A : Option Addr) (m c : Nat) (news : List Value) (hs : a.eval s = v) (hx : a.eval x = .slice A m c) (HO : W.ownsRow base e size v n xs) (hl : news.length = m * size) (HR : Rd W A news)
    (h1 : ∀ u ∈ news, u.oneCell' = true) (hbytes : (n + m) * bytes ≤ 140737488355328) (hbase : base ≤ W.heap.size)
    (h : ∀ v1 w1, w1.ownsRow base e size v1 (n + m) (xs ++ news) → W.grownBy w1 v.ownBlock → wpList P ops Q rest (a.put o.dst v1) w1) :
    wpList P ops Q (o :: rest) a W := by
  obtain ⟨v1, w1, hr, hown, hg, _⟩ := app_run (P := P) W base t o.type e z size bytes ht hinfo hz hsz hb0 v n xs HO A m c news hl HR h1 hbytes hbase
  refine wpList_plain hgd fun K hK => ?_
  unfold Oper.wp execOp
  simp only [ho, resolve, invoke, builtin, Sem.run_bind, Sem.run_pure, Result.andThen_ok, List.map_toArray, List.map_cons, List.map_nil, hs, hx, hr]
  exact hK _ _ (h v1 w1 hown hg)

/-- The same as a step of a region that draws its order (go_region_law). -/
theorem app_step {W : World} {K : Act → World → Prop} {E : Prop} (base : Nat) (hgd : o.guard = none) (s x : Operand) (t e : TypeId) (z : Value) (size bytes : Nat)
    (ho : o.op = .call { callee := .builtin .append, args := #[s, x], argTypes := #[t, t] }) (ht : P.underlying t = some (.slice e))
    (hinfo : (P.info? e).map (fun i => (i.zero, i.size, i.bytes)) = some (some z, size, bytes)) (hz : z.cells.size = size) (hsz : 0 < size) (hb0 : 0 < bytes)
    (v : Value) (n : Nat) (xs : List Value) (A : Option Addr) (m c : Nat) (news : List Value) (hs : a.eval s = v) (hx : a.eval x = .slice A m c) (HO : W.ownsRow base e size v n xs) (hl : news.length = m * size) (HR : Rd W A news)
    (h1 : ∀ u ∈ news, u.oneCell' = true) (hbytes : (n + m) * bytes ≤ 140737488355328) (hbase : base ≤ W.heap.size)
    (h : ∀ v1 w1, w1.ownsRow base e size v1 (n + m) (xs ++ news) → W.grownBy w1 v.ownBlock → K (a.put o.dst v1) w1) :
    if Region.wanted o (yielded ops a.tmps) = true then Oper.wp P o a W K Q else E := by
  have hw : Region.wanted o (yielded ops a.tmps) = true := by simp [Region.wanted, hgd]
  rw [if_pos hw]
  obtain ⟨v1, w1, hr, hown, hg, _⟩ := app_run (P := P) W base t o.type e z size bytes ht hinfo hz hsz hb0 v n xs HO A m c news hl HR h1 hbytes hbase
  unfold Oper.wp execOp
  simp only [ho, resolve, invoke, builtin, Sem.run_bind, Sem.run_pure, Result.andThen_ok, List.map_toArray, List.map_cons, List.map_nil, hs, hx, hr]
  exact h v1 w1 hown hg
end
theorem vals_one (l : List Int) : ∀ u ∈ vals l, u.oneCell' = true := by
  intro u hu
  simp only [vals, List.mem_map] at hu
  obtain ⟨q, _, rfl⟩ := hu
  rfl
/-- Behind an append onto a row of the call's own. -/
theorem bl_grown {w W w1 : World} {e : TypeId} {sz : Nat} {v : Value} {n : Nat} {xs : List Value} {base : Nat} (h : Below w.heap.size w W) (HO : W.ownsRow base e sz v n xs) (hg : W.grownBy w1 v.ownBlock) (hb : w.heap.size ≤ base) : Below w.heap.size w w1 :=
  h.grown hg h.size (fun k hk => Nat.le_trans hb (HO.lt k hk).1)
/-- What is read elsewhere is read behind an append. -/
theorem Rd.grown {W w1 : World} {A : Option Addr} {vs : List Value} {row : Option Nat} (h : Rd W A vs) (hg : W.grownBy w1 row) (hne : ∀ ad, A = some ad → some ad.block ≠ row) : Rd w1 A vs := by
  intro j v hj
  obtain ⟨ad, rfl, hc⟩ := h j v hj
  refine ⟨ad, rfl, ?_⟩
  have hb : (ad.add j).block = ad.block := by unfold Addr.add; split <;> rfl
  rw [World.cell?_of_block (w := W) (hg.block _ (cell_lt hc) (by rw [hb]; exact hne ad rfl))]
  exact hc

/-- A slice of numbers that came in. -/
def SlI (k : IntKind) (w : World) (A : Option Addr) (n c : Nat) (l : List Int) : Prop :=
  l.length = n ∧ n ≤ c ∧ c ≤ 9223372036854775807 ∧ Rd w A (l.map (Value.int k)) ∧ ∀ x ∈ l, (Lit.int k x).wf = true
theorem open_SlI {H : Type} {enc : TypeId × Value → H} {P : Program} {W : World} {base : Nat} {spare : Nat → Bool} {held : Bool} {t e : TypeId} {k : IntKind} {a : Option Addr} {n c : Nat} {d : DataW H} {ps : List MemPlace}
    (hu : P.underlying t = some (.slice e)) (he : P.underlying e = some (.int k)) (hc : P.cellsOf e = 1) (h : DataW.Trod enc P W base spare held t (.slice a n c) d ps) : ∃ l, SlI k W a n c l := by
  obtain ⟨fuel, hf⟩ := h
  rcases Go.ChangeShapes.open_ints hu he hc hf with ⟨hcs, _⟩ | ⟨x, l, c', zs, hcs, _, hl, hm, hz, _, hcell, hwz⟩
  · simp [Value.cells] at hcs
    obtain ⟨rfl, rfl, rfl⟩ := hcs
    exact ⟨[], rfl, Nat.le_refl _, by omega, Rd.nil _ _, by simp⟩
  · simp [Value.cells] at hcs
    obtain ⟨rfl, rfl, rfl⟩ := hcs
    have hlz : n ≤ zs.length := by
      rw [hz]
      split
      · exact hl
      · exact Nat.le_refl _
    refine ⟨zs.take n, by simp; omega, hl, by simpa [maxLen] using hm, fun j v hj => ⟨x, rfl, ?_⟩, fun y hy => hwz y (List.mem_of_mem_take hy)⟩
    rw [List.getElem?_map, Option.map_eq_some_iff] at hj
    obtain ⟨y, hy, rfl⟩ := hj
    rw [List.getElem?_take] at hy
    split at hy
    · have hj := (List.getElem?_eq_some_iff.1 hy).1
      rw [hcell j hj]
      simp [List.getD_eq_getElem?_getD, hy]
    · cases hy

/-! ### Objects of one block -/
/-- Block B holds these cells, of that type, and may be written. -/
def Obj1 (w : World) (B : Nat) (cs : Array Value) (t : TypeId) : Prop := w.heap[B]? = some (.cells cs t (0, 0))
theorem Obj1.lt {w : World} {B : Nat} {cs : Array Value} {t : TypeId} (h : Obj1 w B cs t) : B < w.heap.size := (Array.getElem?_eq_some_iff.1 h).1
theorem Obj1.cell {w : World} {B : Nat} {cs : Array Value} {t : TypeId} (h : Obj1 w B cs t) (j : Nat) : w.cell? ⟨B, j, none⟩ = cs[j]? := by
  unfold Obj1 at h
  simp [World.cell?, h]
theorem Obj1.free {w : World} {B : Nat} {cs : Array Value} {t : TypeId} (h : Obj1 w B cs t) (j : Nat) : w.frozen? ⟨B, j, none⟩ = false := by
  unfold Obj1 at h
  simp [World.frozen?, h]
theorem Obj1.drewN {w : World} {B : Nat} {cs : Array Value} {t : TypeId} (h : Obj1 w B cs t) (n : Nat) : Obj1 (w.drewN n) B cs t := h
theorem Obj1.set {w : World} {B : Nat} {cs : Array Value} {t : TypeId} (h : Obj1 w B cs t) (j : Nat) (v : Value) : Obj1 (w.setCell ⟨B, j, none⟩ v) B (cs.setIfInBounds j v) t := by
  unfold Obj1 at *
  simp [World.setCell, Array.getElem?_modify, h]
theorem Obj1.of_grown {w w' : World} {B : Nat} {cs : Array Value} {t : TypeId} {row : Option Nat} (h : Obj1 w B cs t) (hg : w.grownBy w' row) (hne : some B ≠ row) : Obj1 w' B cs t :=
  (hg.block B h.lt hne).trans h
theorem Obj1.below {w w' : World} {B : Nat} {cs : Array Value} {t : TypeId} (h : Obj1 w B cs t) (hb : Below w.heap.size w w') : Obj1 w' B cs t :=
  (hb.block B h.lt).trans h
theorem Obj1.alloc {w : World} {B : Nat} {cs : Array Value} {t : TypeId} (h : Obj1 w B cs t) (o : Obj) : Obj1 (w.alloc o) B cs t := h.below (bl_alloc (Below.refl _ _) o)
theorem Obj1.new (w : World) (cs : Array Value) (t : TypeId) : Obj1 (w.alloc (.cells cs t)) w.heap.size cs t := heap_alloc_new w _

/-- What may have been written is block B, and new blocks. -/
def Upd (B : Nat) (w w' : World) : Prop := w.grownBy w' (some B)
theorem Upd.refl (B : Nat) (w : World) : Upd B w w := ⟨rfl, rfl, rfl, Nat.le_refl _, fun _ _ _ => rfl⟩
theorem Upd.trans {B : Nat} {a b c : World} (h : Upd B a b) (k : Upd B b c) : Upd B a c := World.grownBy.trans h k
theorem Upd.drewN {B : Nat} {w W : World} (h : Upd B w W) (n : Nat) : Upd B w (W.drewN n) := ⟨h.os, h.tape, h.output, h.size, h.block⟩
theorem Upd.alloc {B : Nat} {w W : World} (h : Upd B w W) (o : Obj) : Upd B w (W.alloc o) := h.trans (World.grownBy_alloc W o _)
theorem Upd.set {B : Nat} {w W : World} (h : Upd B w W) (j : Nat) (v : Value) : Upd B w (W.setCell ⟨B, j, none⟩ v) :=
  h.trans ⟨rfl, rfl, rfl, by simp [World.setCell], fun k _ hk => Below.heap_setCell _ _ _ _ (fun e => hk (by rw [e]))⟩
theorem Upd.of_below {B : Nat} {w W : World} (h : Below w.heap.size w W) : Upd B w W := ⟨h.os, h.tape, h.output, h.size, fun k hk _ => h.block k hk⟩
theorem Upd.next {B : Nat} {w W W' : World} (h : Upd B w W) (k : Below W.heap.size W W') : Upd B w W' := h.trans (Upd.of_below k)
theorem bl_upd {w W W' : World} {B : Nat} (h : Below w.heap.size w W) (k : Upd B W W') (hB : w.heap.size ≤ B) : Below w.heap.size w W' :=
  h.grown k h.size (fun j hj => by cases hj; exact hB)
theorem Rd.upd {W w1 : World} {A : Option Addr} {vs : List Value} {B : Nat} (h : Rd W A vs) (hg : Upd B W w1) (hne : ∀ ad, A = some ad → ad.block ≠ B) : Rd w1 A vs :=
  Rd.grown h hg (fun ad e h => hne ad e (by cases h; rfl))
theorem ret_t1 {v v' : Value} (h : v = v') : Ending.returned v = .returned v' := by rw [h]

/-! ### Calls in a region that draws its order and only reads -/
theorem quiet_left {P : Program} {f : FuncId} {args : Array Value} {w : World} {n : Nat} {v : Value}
    (h : Calls P f args (w.drewN n) fun e w' => e = .returned v ∧ w.drewN n = w') : Calls P f args (w.drewN n) fun e w'' => e = .returned v ∧ ∃ m, w'' = w.drewN m :=
  h.mono fun _ _ ⟨he, hm⟩ => ⟨he, n, hm.symm⟩
theorem quiet_add_left {P : Program} {f : FuncId} {args : Array Value} {w : World} {a n : Nat} {v : Value}
    (h : Calls P f args (w.drewN (a + n)) fun e w' => e = .returned v ∧ w.drewN (a + n) = w') :
    Calls P f args (w.drewN (a + n)) fun e w'' => e = .returned v ∧ ∃ m, w'' = w.drewN (a + m) :=
  h.mono fun _ _ ⟨he, hm⟩ => ⟨he, n, hm.symm⟩
theorem same_left {P : Program} {f : FuncId} {args : Array Value} {w : World} {v : Value} (h : Calls P f args w fun e w' => e = .returned v ∧ w = w') : Calls P f args w fun e w'' => e = .returned v ∧ w'' = w :=
  h.mono fun _ _ ⟨he, hm⟩ => ⟨he, hm.symm⟩

/-! ### Whole structs in blocks of their own -/
section
variable {P : Program} {ops : Array Oper} {rest : List Oper} {o : Oper} {a : Act} {Q : Exit → Act → World → Prop} {w : World}
theorem setCells_obj (p : Nat) (t : TypeId) : ∀ (cs : List Value) (i : Nat) (old : Array Value) (w : World), Obj1 w p old t → i + cs.length = old.size →
    Obj1 (w.setCells p i cs) p ((old.toList.take i ++ cs).toArray) t ∧ Upd p w (w.setCells p i cs)
  | [], i, old, w, h, hl => by
    simp at hl
    refine ⟨?_, Upd.refl _ _⟩
    simp only [World.setCells, List.append_nil]
    rw [List.take_of_length_le (by simp; omega)]
    simpa using h
  | v :: cs, i, old, w, h, hl => by
    simp at hl
    have h1 := h.set i v
    have h2 := setCells_obj p t cs (i + 1) (old.setIfInBounds i v) (w.setCell ⟨p, i, none⟩ v) h1 (by simp; omega)
    refine ⟨?_, ((Upd.refl p w).set i v).trans h2.2⟩
    have e : (old.setIfInBounds i v).toList.take (i + 1) ++ cs = old.toList.take i ++ v :: cs := by
      have hi : i < old.toList.length := by simp; omega
      have e1 : (old.toList.set i v).take (i + 1) = old.toList.take i ++ [v] := by
        apply List.ext_getElem?
        intro j
        rcases Nat.lt_trichotomy j i with h | h | h
        · rw [List.getElem?_append_left (by simp; omega), List.getElem?_take, List.getElem?_take, if_pos (by omega), if_pos h, List.getElem?_set_ne (by omega)]
        · subst h
          rw [List.getElem?_append_right (by simp; omega), List.getElem?_take, if_pos (by omega), List.getElem?_set_self hi]
          rw [List.length_take, Nat.min_eq_left (Nat.le_of_lt hi), Nat.sub_self]
          rfl
        · rw [List.getElem?_eq_none (by simp; omega), List.getElem?_eq_none (by simp; omega)]
      rw [Array.toList_setIfInBounds, e1]
      simp
    rw [← e]
    exact h2.1
/-- A struct is stored into a block of its own. -/
theorem store_obj (hgd : o.guard = none) (ty : TypeId) (x y : Operand) (ho : o.op = .store ty x y) (p : Nat) (t : TypeId) (old cs : Array Value) (hx : a.eval x = .pointer (some ⟨p, 0, none⟩)) (hy : a.eval y = .agg cs)
    (HO : Obj1 w p old t) (hs : cs.size = old.size) (hi : (P.info? ty).map (·.size) = some cs.size) (h1 : cs.all (·.oneCell') = true)
    (h : ∀ w', Obj1 w' p cs t → Upd p w w' → wpList P ops Q rest (a.put o.dst undef) w') : wpList P ops Q (o :: rest) a w := by
  have hk := setCells_obj p t cs.toList 0 old w HO (by simp [hs])
  refine wpList_store_mid hgd ty x y ho p 0 cs hx hy (fun j hj => ?_) hi h1 (h _ (by simpa using hk.1) hk.2)
  rw [Nat.zero_add, HO.cell j, HO.free j]
  exact ⟨by rw [Array.getElem?_eq_getElem (by omega)]; rfl, rfl⟩
/-- A struct is loaded out of a block of its own. -/
theorem load_obj (hgd : o.guard = none) (ty : TypeId) (x : Operand) (ho : o.op = .load ty x) (p : Nat) (t : TypeId) (cs : Array Value) (d : TypeDesc) (hx : a.eval x = .pointer (some ⟨p, 0, none⟩)) (HO : Obj1 w p cs t)
    (hu : P.underlying ty = some d) (hd : (match d with | .struct _ | .array _ _ => true | _ => false) = true) (hi : (P.info? ty).map (·.size) = some cs.size)
    (h : wpList P ops Q rest (a.put o.dst (.agg cs)) w) : wpList P ops Q (o :: rest) a w :=
  wpList_load_row hgd ty x ho p hx t cs (0, 0) d HO hu hd hi h
end
theorem keep_upd {w w' : World} {B : Nat} {a : Addr} {v : Value} (hu : Upd B w w') (hc : w.cell? a = some v) (hne : a.block ≠ B) : w'.cell? a = some v :=
  (World.cell?_of_block (w := w) (hu.block a.block (cell_lt hc) (fun e => hne (by cases e; rfl)))).trans hc
end Go.Proofs.Ytcgabjjdffcjbaa
