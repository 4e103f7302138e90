/- Where a flow is; a step. -/
import Derived.Test.YtgbdkleckmilkaaGenA
import Derived.StillTailTactics
namespace Go.Proofs.Ytgbdkleckmilkaa
open Go.RowKit
set_option linter.unusedVariables false
set_option linter.unusedSimpArgs false

def gnFall (g : Gn) (f : Fl) : Int := fallV (gnKey g g.old) f 0 g.bk
/-- A flow's generation. -/
def gnGen (g : Gn) (f : Fl) : Nat := if g.mv = false ∨ (g.md : Int) ≤ gnFall g f then g.old else 1 - g.old

theorem class_range {g : Gn} (hg : okGn g) {gen : Nat} (hgen : gen ≤ 1) (f : Fl) : 0 ≤ classV g gen f ∧ classV g gen f < 128 := by
  have h1 := hg.1
  have h2 := fallV_range (gnKey g gen) f 0 g.bk (by omega)
  unfold classV
  obtain rfl | rfl : gen = 0 ∨ gen = 1 := by omega
  · simp; omega
  · simp; omega

set_option maxRecDepth 100000 in
set_option maxHeartbeats 1000000 in
theorem where_w (G : Nat) (g : Gn) (hg : okGn g) (f : Fl) (hf : okFl f) (w : World) (h : Obj1 w G (gnC g).toArray 75) :
    Calls Try.prog 24 #[.pointer (some ⟨G, 0, none⟩), .agg (flC f).toArray] w fun e w' => e = .returned (.tuple #[.int .i64 (gnGen g f), .int .i64 (classV g (gnGen g f) f)]) ∧ Below w.heap.size w w' := by
  have hold : g.old ≤ 1 := hg.2.2.2.1
  have hb1 : 1 ≤ g.bk ∧ g.bk ≤ 64 := hg.1
  have hmd : g.md ≤ g.bk := hg.2.2.2.2.1
  have hO1 := h.alloc (.cells (flC f).toArray 34)
  have HFS := Lib.hid (fl_size hf)
  have HO1 := Lib.hid hO1
  have HO2 := Lib.hid (Obj1.new w (flC f).toArray 34)
  have HB := Lib.hid (bl_alloc (Below.refl w.heap.size w) (.cells (flC f).toArray 34))
  obtain ⟨q0, q1, q2, q3, q4⟩ := gn_cell hO1 hg
  obtain ⟨X, hX⟩ : ∃ X, gnFall g f = X := ⟨_, rfl⟩
  have hXr : 0 ≤ X ∧ X < g.bk := by rw [← hX]; exact fallV_range (gnKey g g.old) f 0 g.bk (by omega)
  obtain ⟨C, hC⟩ : ∃ C, classV g g.old f = C := ⟨_, rfl⟩
  obtain ⟨P, hP⟩ : ∃ P, P = g.old * g.bk := ⟨_, rfl⟩
  have hP2 : (g.old : Int) * (g.bk : Int) = (P : Int) := by rw [hP]; exact (Int.natCast_mul _ _).symm
  have hCP : C = (P : Int) + X := by rw [← hC, ← hX, ← hP2]; rfl
  have hCr := class_range hg hold f
  rw [hC] at hCr
  have a1 : IntKind.i64.wrap ((g.old : Int) * (g.bk : Int)) = (P : Int) := by rw [hP2]; exact IntWalk.i64_in _ (by omega)
  have a2 : IntKind.i64.wrap (C - (P : Int)) = X := by rw [hCP, show (P : Int) + X - (P : Int) = X by omega]; exact IntWalk.i64_in _ (by omega)
  obtain ⟨N1, hN1⟩ : ∃ N1, N1 = 1 - g.old := ⟨_, rfl⟩
  have a3 : IntKind.i64.wrap (1 - (g.old : Int)) = (N1 : Int) := by rw [show 1 - (g.old : Int) = (N1 : Int) by omega]; exact IntWalk.i64_in _ (by omega)
  have hgn : (g.mv = false ∧ gnGen g f = g.old) ∨ (g.mv = true ∧ (g.md : Int) ≤ X ∧ gnGen g f = g.old) ∨ (g.mv = true ∧ ¬ (g.md : Int) ≤ X ∧ gnGen g f = N1) := by
    unfold gnGen
    rw [hX]
    cases hm : g.mv
    · left; exact ⟨rfl, by simp⟩
    · right
      by_cases hx : (g.md : Int) ≤ X
      · left; exact ⟨rfl, hx, by simp [hx]⟩
      · right; exact ⟨rfl, hx, by simp [hx, hN1]⟩
  have HC := Lib.hid hC
  have HGN := Lib.hid hgn
  have hN1b : N1 ≤ 1 := by omega
  clear hO1 h hX hC hP hP2 hCP hgn hN1
  go_enter Try.func24, Try.ntmps24
  go_wp2_with (refine load_obj rfl 34 (.tmp 3) rfl w.heap.size 34 (flC f).toArray _ rfl HO2.out Try.underlying34 rfl HFS.out ?_)
  refine (class_w G g hg g.old hold f hf _ HO1.out).mono ?_
  rintro e w1 ⟨rfl, hb⟩
  rw [HC.out]
  have HP1 := Lib.hid (HO1.out.below hb)
  have HP2 := Lib.hid (HO2.out.below hb)
  have HB1 := Lib.hid (bl_next HB.out hb)
  clear hb q0 q1 q2 q3 q4
  obtain ⟨q0, q1, q2, q3, q4⟩ := gn_cell HP1.out hg
  rcases HGN.out with ⟨h1, h2⟩ | ⟨h1, h2, h3⟩ | ⟨h1, h2, h3⟩
  · rw [h1] at q2
    have H2 := Lib.hid h2
    clear h1 h2
    go_wp2_with fail
    go_quiet (fail)
    go_wp2
    go_ret2
    exact ⟨by rw [H2.out, HC.out]; rfl, bl_drewN HB1.out _⟩
  · rw [h1] at q2
    have H3 := Lib.hid h3
    have d1 : decide ((g.md : Int) ≤ X) = true := by simp; omega
    clear h1 h3
    go_wp2_with fail
    go_quiet (fail)
    go_wp2
    go_ret2
    exact ⟨by rw [H3.out, HC.out]; rfl, bl_drewN HB1.out _⟩
  · rw [h1] at q2
    have H3 := Lib.hid h3
    have d1 : decide ((g.md : Int) ≤ X) = false := by simp; omega
    clear h1 h3
    go_wp2_with fail
    go_quiet (fail)
    go_wp2_with (refine load_obj rfl 34 (.tmp 3) rfl w.heap.size 34 (flC f).toArray _ rfl (HP2.out.drewN _) Try.underlying34 rfl HFS.out ?_)
    refine (class_w G g hg N1 hN1b f hf _ (HP1.out.drewN _)).mono ?_
    rintro e w2 ⟨rfl, hb⟩
    have HB2 := Lib.hid (bl_next (bl_drewN HB1.out _) hb)
    clear hb
    go_wp2
    go_ret2
    exact ⟨by rw [H3.out]; rfl, HB2.out⟩
end Go.Proofs.Ytgbdkleckmilkaa
