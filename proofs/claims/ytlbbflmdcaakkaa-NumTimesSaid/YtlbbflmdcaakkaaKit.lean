/- Small words for the walks of this seat: worlds, cells, lists. -/
import Derived.Test.YtlbbflmdcaakkaaProg
import Derived.WalkKit
import Derived.KernelRfl
import Derived.RowKit3
import Derived.Deep.LoopGhost
import Derived.Deep.QuietTactic
import Derived.BigQuiet
import Derived.Lib.Hide
import Derived.Deep.Draws
import Derived.WideLaws
import Derived.Deep.DeepCutAuto
import Derived.Deep.CutBlock
import Derived.Deep.RegionHeld3
import Derived.Maps.AppendAt
namespace Go.Proofs.Ytlbbflmdcaakkaa
open Go.RowKit
set_option linter.unusedVariables false
set_option linter.unusedSimpArgs false

/-- The number at a place of a list. -/
def nth (l : List Int) (k : Nat) : Int := l.getD k 0

/-- A slice of numbers that is read. -/
def RdI (w : World) (A : Option Addr) (l : List Int) : Prop :=
  l.length ≤ 9223372036854775807 ∧ ∀ j, j < l.length → ∃ ad, A = some ad ∧ w.cell? (ad.add j) = some (.int .i64 (nth l j))

theorem ret_i64 {a b : Int} (h : a = b) : Ending.returned (.int .i64 a) = .returned (.int .i64 b) := by rw [h]
theorem ret_bool {a b : Bool} (h : a = b) : Ending.returned (.bool a) = .returned (.bool b) := by rw [h]
theorem v_i64 {a b : Int} (h : a = b) : Value.int .i64 a = .int .i64 b := by rw [h]

theorem bl_drewN {B : Nat} {w W : World} (h : Below B w W) (n : Nat) : Below B w (W.drewN n) := ⟨h.os, h.tape, h.output, h.size, h.block⟩
theorem bl_alloc {w W : World} (h : Below w.heap.size w W) (o : Obj) : Below w.heap.size w (W.alloc o) := h.alloc h.size o
theorem bl_next {w W W' : World} (h : Below w.heap.size w W) (k : Below W.heap.size W W') : Below w.heap.size w W' := h.trans (k.mono h.size)
theorem cell_lt {w : World} {a : Addr} {v : Value} (h : w.cell? a = some v) : a.block < w.heap.size := World.block_lt_of_cell? w a h
theorem bl_keeps {w W : World} (h : Below w.heap.size w W) {a : Addr} {v : Value} (hc : w.cell? a = some v) : W.cell? a = some v := (h.cell (cell_lt hc)).trans hc
theorem RdI.below {w W : World} {A : Option Addr} {l : List Int} (h : RdI w A l) (hb : Below w.heap.size w W) : RdI W A l :=
  ⟨h.1, fun j hj => let ⟨ad, e, hc⟩ := h.2 j hj; ⟨ad, e, bl_keeps hb hc⟩⟩

theorem wrap64_in (n : Int) (h0 : -9223372036854775808 ≤ n) (h1 : n ≤ 9223372036854775807) : wrap64 n = n := by unfold wrap64; omega

theorem u8_range {n : Int} (h : (Lit.int .u8 n).wf = true) : 0 ≤ n ∧ n ≤ 255 := by
  simp only [Lit.wf, IntKind.min, IntKind.max, IntKind.signed, IntKind.bits, Bool.and_eq_true, decide_eq_true_eq] at h
  simp at h; omega
theorem u16_range {n : Int} (h : (Lit.int .u16 n).wf = true) : 0 ≤ n ∧ n ≤ 65535 := by
  simp only [Lit.wf, IntKind.min, IntKind.max, IntKind.signed, IntKind.bits, Bool.and_eq_true, decide_eq_true_eq] at h
  simp at h; omega
theorem u32_range {n : Int} (h : (Lit.int .u32 n).wf = true) : 0 ≤ n ∧ n ≤ 4294967295 := by
  simp only [Lit.wf, IntKind.min, IntKind.max, IntKind.signed, IntKind.bits, Bool.and_eq_true, decide_eq_true_eq] at h
  simp at h; omega
theorem i64_range {n : Int} (h : (Lit.int .i64 n).wf = true) : -9223372036854775808 ≤ n ∧ n ≤ 9223372036854775807 := by
  simp only [Lit.wf, IntKind.min, IntKind.max, IntKind.signed, IntKind.bits, Bool.and_eq_true, decide_eq_true_eq] at h
  simp at h; omega

/-- A new block of two cells. -/
theorem two_cells0 (w : World) (x y : Value) (t : TypeId) : (w.alloc (.cells #[x, y] t)).cell? ⟨w.heap.size, 0, none⟩ = some x := World.cell?_alloc_mark w #[x, y] t (0, 0) 0
theorem two_cells1 (w : World) (x y : Value) (t : TypeId) : (w.alloc (.cells #[x, y] t)).cell? ⟨w.heap.size, 1, none⟩ = some y := World.cell?_alloc_mark w #[x, y] t (0, 0) 1
/-- A new block's cell. -/
theorem new_cell (w : World) (C : Array Value) (t : TypeId) (j : Nat) : (w.alloc (.cells C t)).cell? ⟨w.heap.size, j, none⟩ = C[j]? := World.cell?_alloc_mark w C t (0, 0) j

theorem new_at {w : World} {C : Array Value} {t : TypeId} {n j : Nat} {v : Value} (hn : n = w.heap.size) (h : C[j]? = some v) : (w.alloc (.cells C t)).cell? ⟨n, j, none⟩ = some v := by
  subst hn
  exact (new_cell w C t j).trans h

/-- Numbers as values. -/
def vals (l : List Int) : List Value := l.map (Value.int .i64)
theorem vals_length (l : List Int) : (vals l).length = l.length := by simp [vals]
theorem vals_at (l : List Int) (j : Nat) (h : j < l.length) : (vals l)[j]? = some (.int .i64 (nth l j)) := by
  simp [vals, nth, List.getD_eq_getElem?_getD, List.getElem?_eq_getElem h]

/-- A row of the call's own reads. -/
theorem own_RdI {w : World} {base : Nat} {e : TypeId} {v : Value} {n : Nat} {l : List Int} (h : w.ownsRow base e 1 v n (vals l)) :
    ∃ A c, v = .slice A l.length c ∧ RdI w A l := by
  have hl : l.length = n := by have := h.1; rw [vals_length] at this; omega
  rcases h.2 with ⟨rfl, h0⟩ | ⟨g, cap, cur, rfl, hb, hh, hn, hm, _⟩
  · refine ⟨none, 0, by rw [hl, h0], by omega, fun j hj => by omega⟩
  · refine ⟨_, cap, by rw [hl], ?_, fun j hj => ⟨_, rfl, ?_⟩⟩
    · have : n ≤ maxLen := Nat.le_trans hn hm
      unfold maxLen at this
      omega
    · exact h.cells (g := g) rfl j _ (vals_at l j hj)

section
variable {P : Program} {ops : Array Oper} {rest : List Oper} {o : Oper} {a : Act} {Q : Exit → Act → World → Prop}
/-- append(v, y) of one value of one cell onto a row of the call's own, behind 'at_builtin'. -/
theorem app_one {w0 W : World} (base : Nat) (hgd : o.guard = none) (s x : Operand) (t e : TypeId) (z : Value) (bytes : Nat)
    (ho : o.op = .call { callee := .builtin .append, args := #[s, x], argTypes := #[t, t] })
    (ht : P.underlying t = some (.slice e)) (hinfo : (P.info? e).map (fun i => (i.zero, i.size, i.bytes)) = some (some z, 1, bytes)) (hz : z.cells.size = 1) (hb0 : 0 < bytes)
    (v : Value) (n : Nat) (xs : List Value) (y : Value) (hs : a.eval s = v) (hx : a.eval x = .slice (some ⟨W.heap.size, 0, none⟩) 1 1) (h1 : y.oneCell' = true)
    (HO : W.ownsRow base e 1 v n xs) (HB : Below base w0 W) (hbase : base ≤ W.heap.size) (hl : (n + 1) * bytes ≤ 140737488355328)
    (h : ∀ v1 w1, w1.ownsRow base e 1 v1 (n + 1) (xs ++ [y]) → Below base w0 w1 → W.grownBy w1 v.ownBlock → wpList P ops Q rest (a.put o.dst v1) w1) :
    wpList P ops Q (o :: rest) a (W.alloc (.cells #[y] e)) := by
  obtain ⟨i0, hi, hzz⟩ := Option.map_eq_some_iff.1 hinfo
  simp only [Prod.mk.injEq] at hzz
  obtain ⟨hz0, hz1, hz2⟩ := hzz
  have hlen : n + 1 ≤ 140737488355328 := Nat.le_trans (Nat.le_mul_of_pos_right _ hb0) hl
  refine wpList_append_own (W.alloc (.cells #[y] e)) hgd s x t ho base e i0 z 1 bytes ht hi hz0 hz1 hz2 hz (by omega) v n xs hs (HO.alloc _) ⟨W.heap.size, 0, none⟩ 1 1 [y] hx rfl
    ?_ (by simpa using h1) (by simp only [maxLen]; omega) hl (by simp; omega) ?_
  · intro j u hj
    match j, hj with
    | 0, hj => simp at hj; subst hj; exact new_cell W #[y] e 0
  · intro v1 w1 hown hg _
    exact h v1 w1 hown ((HB.alloc hbase _).grown hg (by simp; omega) (fun k hk => (HO.lt k hk).1)) (World.grownBy.trans (World.grownBy_alloc W _ _) hg)
end
end Go.Proofs.Ytlbbflmdcaakkaa
