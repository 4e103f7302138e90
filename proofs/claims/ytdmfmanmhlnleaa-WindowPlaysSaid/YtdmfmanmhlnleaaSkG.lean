/- Two slots are compared; rows of slots are read. -/
import Derived.Test.YtdmfmanmhlnleaaSkF
import Derived.Test.YtdmfmanmhlnleaaNumB
namespace Go.Proofs.Ytdmfmanmhlnleaa
open Go.RowKit
set_option linter.unusedVariables false
set_option linter.unusedSimpArgs false

/-- So many cells lie there. -/
def CellsAt (w : World) (b o : Nat) (cs : List Value) : Prop := ∀ (q : Nat) (v : Value), cs[q]? = some v → w.cell? ((⟨b, o, none⟩ : Addr).add q) = some v
theorem CellsAt.below {w w' : World} {b o : Nat} {cs : List Value} (h : CellsAt w b o cs) (hb : Below w.heap.size w w') : CellsAt w' b o cs := fun q v hq => bl_keeps hb (h q v hq)
def sloL (s : Slo) : List Lit := pxL s.p ++ [.int .i64 s.c, .int .i64 s.e]
theorem sloL_inj {x y : Slo} (hx : okPx x.p) (hy : okPx y.p) : sloL x = sloL y ↔ x = y := by
  constructor
  · intro h
    unfold sloL at h
    have hl : (pxL x.p).length = (pxL y.p).length := by simp [pxL, hx.1, hy.1]
    have h2 := List.append_inj h hl
    have h3 := pxL_inj.1 h2.1
    have h4 := h2.2
    simp at h4
    cases x; cases y
    simp_all
  · rintro rfl; rfl
theorem wf_i64 {x : Int} (h : 0 ≤ x ∧ x ≤ 4611686018427387904) : (Lit.int .i64 x).wf = true := by
  simp only [Lit.wf, IntKind.min, IntKind.max, IntKind.signed, IntKind.bits, Bool.and_eq_true, decide_eq_true_eq]
  simp
  omega
instance : DecidableEq Slo := fun x y => decidable_of_iff (x.p = y.p ∧ x.c = y.c ∧ x.e = y.e) (by cases x; cases y; simp)
theorem slo_key {s : Slo} (h : okSlo s) : Try.prog.keyLits 6 32 (sloC s) = some (sloL s) := by
  have w1 := wf_i64 h.2.1
  have w2 := wf_i64 h.2.2
  have hp := px_key h.1
  have hl := pxC_length h.1
  have k1 : ∀ x : Int, (Lit.int .i64 x).wf = true → Try.prog.keyLits 5 2 [.int .i64 x] = some [.int .i64 x] := by
    intro x hx
    unfold Program.keyLits
    rw [Try.underlying2]
    simp [hx]
  unfold Program.keyLits
  rw [Try.underlying32]
  have e1 : Try.prog.cellsOf 2 = 1 := by kernel_rfl
  have e2 : Try.prog.cellsOf 30 = 8 := by kernel_rfl
  have e3 : Try.prog.cellsOf 32 = 10 := by kernel_rfl
  have d1 : (sloC s).take 8 = pxC s.p := by unfold sloC; rw [List.take_left' hl]
  have d2 : (sloC s).drop 8 = [.int .i64 s.c, .int .i64 s.e] := by unfold sloC; rw [List.drop_left' hl]
  have d3 : (sloC s).drop 9 = [.int .i64 s.e] := by rw [show (9 : Nat) = 8 + 1 from rfl, ← List.drop_drop, d2]; rfl
  have d4 : (sloC s).length = 10 := sloC_length h.1
  simp [e1, e2, e3, d1, d2, d3, d4, hp, k1, w1, w2, sloL]
theorem eq_slo (w : World) {x y : Slo} (hx : okSlo x) (hy : okSlo y) : (Op.equal 32 (.agg (sloC x).toArray) (.agg (sloC y).toArray)).run Try.prog w = .ok (decide (x = y)) w := by
  have hk : Try.prog.keyTypeAt 5 32 = true := by kernel_rfl
  have f1 : ∀ s : Slo, okSlo s → (Value.agg (sloC s).toArray).formed Try.prog 32 = true := by
    intro s hs
    obtain ⟨⟨v, l⟩, c, e⟩ := s
    obtain ⟨a, b, c, d, e, f, g, rfl⟩ := list7 hs.1.1
    kernel_rfl
  obtain ⟨r, hr, hiff⟩ := run_equalIn_deep (P := Try.prog) 9995 5 32 hk w 6 6 (.agg (sloC x).toArray) (.agg (sloC y).toArray) (sloL x) (sloL y) (f1 x hx) (f1 y hy) (by simpa [Value.cells] using slo_key hx) (by simpa [Value.cells] using slo_key hy)
  have : r = decide (x = y) := by
    rw [sloL_inj hx.1 hy.1] at hiff
    cases r <;> simp_all
  rw [← this]
  exact hr
theorem exec_eqA {P : Program} {o : Oper} {a : Act} {w : World} (op : BinOp) (n : Bool) (hop : op = .eql ∧ n = false ∨ op = .neq ∧ n = true) (T tr : TypeId) (x y : Operand) (ho : o.op = .binOp op T x y tr) (xs ys : Array Value) (hx : a.eval x = .agg xs) (hy : a.eval y = .agg ys) (b : Bool)
    (hm : P.eqGuardType P.depth T = false) (he : (Op.equal T (.agg xs) (.agg ys)).run P w = .ok b w) : (execOp a.eval o).run P w = .ok (.value (.bool (b != n))) w := by
  unfold execOp
  rcases hop with ⟨rfl, rfl⟩ | ⟨rfl, rfl⟩
  · simp only [ho, hx, hy, Sem.run_bind, run_eqGuard_agg (P := P) w _ _ _ _ _ _ hm, Result.andThen_ok, binOp, he, Sem.run_pure]
    simp
  · simp only [ho, hx, hy, Sem.run_bind, run_eqGuard_agg (P := P) w _ _ _ _ _ _ hm, Result.andThen_ok, binOp, he, Sem.run_pure]
    simp

theorem exec_eql {P : Program} {o : Oper} {a : Act} {w : World} (T tr : TypeId) (x y : Operand) (ho : o.op = .binOp .eql T x y tr) (xs ys : Array Value) (hx : a.eval x = .agg xs) (hy : a.eval y = .agg ys) (b : Bool)
    (hm : P.eqGuardType P.depth T = false) (he : (Op.equal T (.agg xs) (.agg ys)).run P w = .ok b w) : (execOp a.eval o).run P w = .ok (.value (.bool b)) w := by
  have := exec_eqA (P := P) .eql false (.inl ⟨rfl, rfl⟩) T tr x y ho xs ys hx hy b hm he
  simpa using this
theorem exec_neq {P : Program} {o : Oper} {a : Act} {w : World} (T tr : TypeId) (x y : Operand) (ho : o.op = .binOp .neq T x y tr) (xs ys : Array Value) (hx : a.eval x = .agg xs) (hy : a.eval y = .agg ys) (b : Bool)
    (hm : P.eqGuardType P.depth T = false) (he : (Op.equal T (.agg xs) (.agg ys)).run P w = .ok b w) : (execOp a.eval o).run P w = .ok (.value (.bool (!b))) w := by
  have := exec_eqA (P := P) .neq true (.inr ⟨rfl, rfl⟩) T tr x y ho xs ys hx hy b hm he
  simpa using this

/-- A row of slots of the call's own is read. -/
theorem own_read {w : World} {B : Nat} {v : Value} {n : Nat} {l : List Slo} {t : TypeId} (h : w.ownsRow B t 10 v n (slosC l)) (hl : ∀ x ∈ l, okPx x.p) :
    ∃ A c, v = .slice A n c ∧ n ≤ c ∧ l.length = n ∧ ∀ k x, l[k]? = some x → ∃ g, B ≤ g ∧ A = some ⟨g, 0, none⟩ ∧ ∀ q u, (sloC x)[q]? = some u → w.cell? ((⟨g, k * 10, none⟩ : Addr).add q) = some u := by
  have hlen : l.length = n := by
    have := h.1
    rw [slosC_length hl] at this
    omega
  rcases own_room h with ⟨rfl, rfl, h2⟩ | ⟨g, cap, rfl, hb, _, hR⟩
  · refine ⟨none, 0, rfl, Nat.le_refl _, hlen, fun k x hk => ?_⟩
    have := (List.getElem?_eq_some_iff.1 hk).1
    omega
  · exact ⟨_, cap, rfl, hR.2.1, hlen, fun k x hk => ⟨g, hb, rfl, slo_cells hR hl hk⟩⟩
end Go.Proofs.Ytdmfmanmhlnleaa
