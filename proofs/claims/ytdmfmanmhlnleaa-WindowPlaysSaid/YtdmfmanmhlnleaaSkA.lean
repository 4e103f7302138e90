/- The sketch's slots as values: their cells, when two prefixes are the same. -/
import Derived.Test.YtdmfmanmhlnleaaNumA
import Derived.Test.YtdmfmanmhlnleaaOpenA
import Derived.Test.YtdmfmanmhlnleaaOpenS
import Derived.DeepKeys
import Derived.Laws.StructEq
namespace Go.Proofs.Ytdmfmanmhlnleaa
open Go.RowKit
set_option linter.unusedVariables false
set_option linter.unusedSimpArgs false

/-- A prefix. -/
structure Px where
  v6 : Bool
  ad : List Int
theorem Px.eq_iff (p q : Px) : p = q ↔ p.v6 = q.v6 ∧ p.ad = q.ad := by
  cases p; cases q; simp
instance : DecidableEq Px := fun p q => decidable_of_iff _ (Px.eq_iff p q).symm
def okPx (p : Px) : Prop := p.ad.length = 7 ∧ ∀ x ∈ p.ad, 0 ≤ x ∧ x ≤ 255
def pxC (p : Px) : List Value := .bool p.v6 :: bys p.ad
theorem pxC_length {p : Px} (h : okPx p) : (pxC p).length = 8 := by simp [pxC, bys_length, h.1]
theorem list7 {l : List Int} (h : l.length = 7) : ∃ a b c d e f g, l = [a, b, c, d, e, f, g] := by
  match l, h with
  | [a, b, c, d, e, f, g], _ => exact ⟨a, b, c, d, e, f, g, rfl⟩
theorem wf_u8 {x : Int} (h : 0 ≤ x ∧ x ≤ 255) : (Lit.int .u8 x).wf = true := by
  simp only [Lit.wf, IntKind.min, IntKind.max, IntKind.signed, IntKind.bits, Bool.and_eq_true, decide_eq_true_eq]
  simp
  omega
def pxL (p : Px) : List Lit := .bool p.v6 :: p.ad.map (Lit.int .u8)
theorem pxL_inj {p q : Px} : pxL p = pxL q ↔ p = q := by
  constructor
  · intro h
    obtain ⟨a, l⟩ := p
    obtain ⟨b, m⟩ := q
    simp only [pxL, List.cons.injEq, Lit.bool.injEq] at h
    obtain ⟨rfl, h2⟩ := h
    have : l = m := (List.map_inj_right (by intro x y h; cases h; rfl)).1 h2
    rw [this]
  · rintro rfl; rfl
theorem px_key {p : Px} (h : okPx p) : Try.prog.keyLits 5 30 (pxC p) = some (pxL p) := by
  obtain ⟨v, l⟩ := p
  obtain ⟨h1, h2⟩ := h
  obtain ⟨a, b, c, d, e, f, g, rfl⟩ := list7 h1
  have w1 := wf_u8 (h2 a (by simp))
  have w2 := wf_u8 (h2 b (by simp))
  have w3 := wf_u8 (h2 c (by simp))
  have w4 := wf_u8 (h2 d (by simp))
  have w5 := wf_u8 (h2 e (by simp))
  have w6 := wf_u8 (h2 f (by simp))
  have w7 := wf_u8 (h2 g (by simp))
  have k1 : ∀ x : Int, (Lit.int .u8 x).wf = true → Try.prog.keyLits 3 5 [.int .u8 x] = some [.int .u8 x] := by
    intro x hx
    unfold Program.keyLits
    rw [Try.underlying5]
    simp [hx]
  have k2 : Try.prog.keyLits 4 28 (bys [a, b, c, d, e, f, g]) = some [.int .u8 a, .int .u8 b, .int .u8 c, .int .u8 d, .int .u8 e, .int .u8 f, .int .u8 g] := by
    unfold Program.keyLits
    rw [Try.underlying28]
    have e1 : Try.prog.cellsOf 5 = 1 := by kernel_rfl
    have e2 : Try.prog.cellsOf 28 = 7 := by kernel_rfl
    simp [e1, e2, bys, List.range_succ, k1, w1, w2, w3, w4, w5, w6, w7]
  have k3 : Try.prog.keyLits 4 4 [.bool v] = some [.bool v] := by
    unfold Program.keyLits
    rw [Try.underlying4]
  unfold Program.keyLits
  rw [Try.underlying30]
  have e1 : Try.prog.cellsOf 4 = 1 := by kernel_rfl
  have e2 : Try.prog.cellsOf 28 = 7 := by kernel_rfl
  have e3 : Try.prog.cellsOf 30 = 8 := by kernel_rfl
  have k2' : Try.prog.keyLits 4 28 [.int .u8 a, .int .u8 b, .int .u8 c, .int .u8 d, .int .u8 e, .int .u8 f, .int .u8 g] = some [.int .u8 a, .int .u8 b, .int .u8 c, .int .u8 d, .int .u8 e, .int .u8 f, .int .u8 g] := k2
  simp [e1, e2, e3, pxC, bys, k2', k3, pxL]
theorem eq_px (w : World) {p q : Px} (hp : okPx p) (hq : okPx q) : (Op.equal 30 (.agg (pxC p).toArray) (.agg (pxC q).toArray)).run Try.prog w = .ok (decide (p = q)) w := by
  have hk : Try.prog.keyTypeAt 4 30 = true := by kernel_rfl
  have f1 : ∀ p : Px, okPx p → (Value.agg (pxC p).toArray).formed Try.prog 30 = true := by
    intro p hp
    obtain ⟨v, l⟩ := p
    obtain ⟨a, b, c, d, e, f, g, rfl⟩ := list7 hp.1
    kernel_rfl
  obtain ⟨r, hr, hiff⟩ := run_equalIn_deep (P := Try.prog) 9996 4 30 hk w 5 5 (.agg (pxC p).toArray) (.agg (pxC q).toArray) (pxL p) (pxL q) (f1 p hp) (f1 q hq) (by simpa [Value.cells] using px_key hp) (by simpa [Value.cells] using px_key hq)
  have : r = decide (p = q) := by
    rw [pxL_inj] at hiff
    cases r <;> simp_all
  rw [← this]
  exact hr

/-- A slot. -/
structure Slo where
  p : Px
  c : Int
  e : Int
def sloC (s : Slo) : List Value := pxC s.p ++ [.int .i64 s.c, .int .i64 s.e]
def okSlo (s : Slo) : Prop := okPx s.p ∧ (0 ≤ s.c ∧ s.c ≤ 4611686018427387904) ∧ (0 ≤ s.e ∧ s.e ≤ 4611686018427387904)
theorem sloC_length {s : Slo} (h : okPx s.p) : (sloC s).length = 10 := by simp [sloC, pxC_length h]
def slosC (l : List Slo) : List Value := (l.map sloC).flatten
end Go.Proofs.Ytdmfmanmhlnleaa
