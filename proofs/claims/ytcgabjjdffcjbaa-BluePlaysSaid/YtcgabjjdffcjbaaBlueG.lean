/- Blue's Bin. -/
import Derived.Test.YtcgabjjdffcjbaaBlueF
namespace Go.Proofs.Ytcgabjjdffcjbaa
open Go.RowKit
set_option linter.unusedVariables false
set_option linter.unusedSimpArgs false

set_option maxHeartbeats 2000000 in
theorem blueBin_w (B D N nl nb j i : Nat) (target hold up down : Int) (l : List Bn) (b : Bn) (w : World)
    (hBl : Obj1 w B (blueC D N nl nb target hold up down) 77) (hD : Obj1 w D (binsC l) 82) (hl : l.length = N) (hN : N = nl * nb) (hnb : nb ≤ 64) (hnl : nl ≤ 4)
    (hj : j < nl) (hi : i < nb) (hb : l[j * nb + i]? = some b) :
    Calls Try.prog 25 #[.pointer (some ⟨B, 0, none⟩), .int .i64 j, .int .i64 i] w fun e w' => e = .returned (.tuple #[.int .i64 b.n, .int .i64 b.p]) ∧ Below w.heap.size w w' := by
  have c0 : w.cell? ⟨B, 0, none⟩ = some (.slice (some ⟨D, 0, none⟩) N N) := hBl.cell 0
  have c1 : w.cell? ⟨B, 1, none⟩ = some (.int .i64 nl) := hBl.cell 1
  have c2 : w.cell? ⟨B, 2, none⟩ = some (.int .i64 nb) := hBl.cell 2
  obtain ⟨P, hP⟩ : ∃ P, P = j * nb := ⟨_, rfl⟩
  have hP2 : (j : Int) * (nb : Int) = (P : Int) := by rw [hP]; exact (Int.natCast_mul _ _).symm
  have hP3 : P ≤ 4 * 64 := by rw [hP]; exact Nat.mul_le_mul (by omega) hnb
  obtain ⟨M, hM⟩ : ∃ M, M = P + i := ⟨_, rfl⟩
  rw [← hP, ← hM] at hb
  have hlt : M < N := by rw [← hl]; exact (List.getElem?_eq_some_iff.1 hb).1
  have d0 : w.cell? ⟨D, M * 3, none⟩ = some (.int .i64 b.n) := (hD.cell _).trans (binsC_at hb).1
  have d1 : w.cell? ⟨D, M * 3 + 1, none⟩ = some (.int .i64 b.c) := (hD.cell _).trans (binsC_at hb).2.1
  have d2 : w.cell? ⟨D, M * 3 + 2, none⟩ = some (.int .i64 b.p) := (hD.cell _).trans (binsC_at hb).2.2
  have hw1 : IntKind.i64.wrap ((j : Int) * (nb : Int)) = (P : Int) := by rw [hP2]; exact IntWalk.i64_in _ (by omega)
  have hw2 : IntKind.i64.wrap ((P : Int) + (i : Int)) = (M : Int) := by rw [hM]; rw [IntWalk.i64_in _ (by omega)]; omega
  have hM0 : (0 : Int) ≤ (M : Int) := Int.natCast_nonneg M
  have hM1 : (M : Int) < (N : Int) := by omega
  have hj0 : (0 : Int) ≤ (j : Int) := Int.natCast_nonneg j
  have hj1 : (j : Int) < (nl : Int) := by omega
  have hi0 : (0 : Int) ≤ (i : Int) := Int.natCast_nonneg i
  have hi1 : (i : Int) < (nb : Int) := by omega
  clear hBl hD hl hN hP hP2 hM hb
  go_enter Try.func25, Try.ntmps25
  go_wp2_with fail
  refine wp_region_held_drew (S := (fun w' => w'.cell? ⟨B, 0, none⟩ = some (.slice (some ⟨D, 0, none⟩) N N) ∧ w'.cell? ⟨B, 2, none⟩ = some (.int .i64 nb) ∧ w'.cell? ⟨D, M * 3, none⟩ = some (.int .i64 b.n) ∧ w'.cell? ⟨D, M * 3 + 1, none⟩ = some (.int .i64 b.c) ∧ w'.cell? ⟨D, M * 3 + 2, none⟩ = some (.int .i64 b.p))) (by kernel_rfl) (⟨c0, c2, d0, d1, d2⟩) (fun hHeld => ?_)
  refine wpAnyH_take (i := 0) (v := ?_) rfl (by kernel_rfl) (by kernel_rfl) (by kernel_rfl) (fun _ _ _ h => h) (Or.inl ⟨by rfl, ?_⟩) (by assumption) ?_
  rotate_left
  · intro w hSw; (try dsimp only at hSw); go_simp
    try with_reducible rfl
  refine wpAnyH_take (i := 1) (v := ?_) rfl (by kernel_rfl) (by kernel_rfl) (by kernel_rfl) (fun _ _ _ h => h) (Or.inl ⟨by rfl, ?_⟩) (by assumption) ?_
  rotate_left
  · intro w hSw; (try dsimp only at hSw); go_simp
    try with_reducible rfl
  go_simp
  refine wpAnyH_take (i := 2) (v := ?_) rfl (by kernel_rfl) (by kernel_rfl) (by kernel_rfl) (fun _ _ _ h => h) (Or.inl ⟨by rfl, ?_⟩) (by assumption) ?_
  rotate_left
  · intro w hSw; (try dsimp only at hSw); go_simp
    try with_reducible rfl
  refine wpAnyH_take (i := 3) (v := ?_) rfl (by kernel_rfl) (by kernel_rfl) (by kernel_rfl) (fun _ _ _ h => h) (Or.inl ⟨by rfl, ?_⟩) (by assumption) ?_
  rotate_left
  · intro w hSw; (try dsimp only at hSw); go_simp
    try with_reducible rfl
  go_simp
  refine wpAnyH_take (i := 4) (v := ?_) rfl (by kernel_rfl) (by kernel_rfl) (by kernel_rfl) (fun _ _ _ h => h) (Or.inl ⟨by rfl, ?_⟩) (by assumption) ?_
  rotate_left
  · intro w hSw; (try dsimp only at hSw); go_simp
    try with_reducible rfl
  refine wpAnyH_take (i := 5) (v := ?_) rfl (by kernel_rfl) (by kernel_rfl) (by kernel_rfl) (fun _ _ _ h => h) (Or.inl ⟨by rfl, ?_⟩) (by assumption) ?_
  rotate_left
  · intro w hSw; (try dsimp only at hSw); go_simp
    try with_reducible rfl
  go_simp
  refine wpAnyH_take (i := 6) (v := ?_) rfl (by kernel_rfl) (by kernel_rfl) (by kernel_rfl) (fun _ _ _ h => h) (Or.inl ⟨by rfl, ?_⟩) (by assumption) ?_
  rotate_left
  · intro w hSw; (try dsimp only at hSw); go_simp
    try with_reducible rfl
  refine wpAnyH_take (i := 7) (v := ?_) rfl (by kernel_rfl) (by kernel_rfl) (by kernel_rfl) (fun _ _ _ h => h) (Or.inl ⟨by rfl, ?_⟩) (by assumption) ?_
  rotate_left
  · intro w hSw; (try dsimp only at hSw); go_simp
    try with_reducible rfl
  go_simp
  refine wpAnyH_take (i := 8) (v := ?_) rfl (by kernel_rfl) (by kernel_rfl) (by kernel_rfl) (fun _ _ _ h => h) (Or.inl ⟨by rfl, ?_⟩) (by assumption) ?_
  rotate_left
  · intro w hSw; (try dsimp only at hSw); go_simp
    try with_reducible rfl
  refine wpAnyH_take (i := 9) (v := ?_) rfl (by kernel_rfl) (by kernel_rfl) (by kernel_rfl) (fun _ _ _ h => h) (Or.inl ⟨by rfl, ?_⟩) (by assumption) ?_
  rotate_left
  · intro w hSw; (try dsimp only at hSw); go_simp
    try with_reducible rfl
  go_simp
  refine wpAnyH_take (i := 10) (v := ?_) rfl (by kernel_rfl) (by kernel_rfl) (by kernel_rfl) (fun _ _ _ h => h) (Or.inl ⟨by rfl, ?_⟩) (by assumption) ?_
  rotate_left
  · intro w hSw; (try dsimp only at hSw); go_simp
    try with_reducible rfl
  refine wpAnyH_take (i := 11) (v := ?_) rfl (by kernel_rfl) (by kernel_rfl) (by kernel_rfl) (fun _ _ _ h => h) (Or.inl ⟨by rfl, ?_⟩) (by assumption) ?_
  rotate_left
  · intro w hSw; (try dsimp only at hSw); go_simp
    try with_reducible rfl
  go_simp
  refine wpAnyH_take (i := 12) (v := ?_) rfl (by kernel_rfl) (by kernel_rfl) (by kernel_rfl) (fun _ _ _ h => h) (Or.inl ⟨by rfl, ?_⟩) (by assumption) ?_
  rotate_left
  · intro w hSw; (try dsimp only at hSw); go_simp
    try with_reducible rfl
  go_simp
  refine wpAnyH_take (i := 13) (v := .agg #[.int .i64 b.n, .int .i64 b.c, .int .i64 b.p]) rfl (by kernel_rfl) (by kernel_rfl) (by kernel_rfl) (fun _ _ _ h => h) (Or.inl ⟨by rfl, ?_⟩) (by assumption) ?_
  · intro w' hSw
    obtain ⟨s0, s1, s2, s3, s4⟩ := hSw
    have hld := run_loadVar_cells (P := Try.prog) w' ⟨D, M * 3, none⟩ 82 [.int .i64 b.n, .int .i64 b.c, .int .i64 b.p] _ (three_cells s2 s3 s4) Try.underlying82 rfl (by kernel_rfl)
    go_simp
    (try simp [execOp, Instr.loadAt, Instr.sureAddr, Sem.run_bind, hld, Result.andThen])
    trace_state
  go_simp
  have hH0 := hHeld
  refine wpAnyH_ready (rs := [14]) (by kernel_rfl) (by simp) ?_
  refine AllReadyH.cons rfl (fun K hK => ?_) ?_
  rotate_left
  · exact AllReadyH.nil
  go_simp
  refine hK.out _ _ (⟨bl_keeps (bl_alloc (Below.refl _ _) _) hH0.1, bl_keeps (bl_alloc (Below.refl _ _) _) hH0.2.1, bl_keeps (bl_alloc (Below.refl _ _) _) hH0.2.2.1, bl_keeps (bl_alloc (Below.refl _ _) _) hH0.2.2.2.1, bl_keeps (bl_alloc (Below.refl _ _) _) hH0.2.2.2.2⟩) (fun hHeld => ?_)
  clear hK K
  refine wpAnyH_ready (rs := [15]) (by kernel_rfl) (by simp) ?_
  refine AllReadyH.cons rfl (fun K hK => ?_) ?_
  rotate_left
  · exact AllReadyH.nil
  go_simp
  refine hK.out _ _ (⟨bl_keeps (bl_alloc (Below.refl _ _) _) hH0.1, bl_keeps (bl_alloc (Below.refl _ _) _) hH0.2.1, bl_keeps (bl_alloc (Below.refl _ _) _) hH0.2.2.1, bl_keeps (bl_alloc (Below.refl _ _) _) hH0.2.2.2.1, bl_keeps (bl_alloc (Below.refl _ _) _) hH0.2.2.2.2⟩) (fun hHeld => ?_)
  clear hK K
  refine wpAnyH_done (by kernel_rfl) ?_ _
  go_wp2_with fail
  go_quiet (fail)
  go_wp2
  go_ret2
  exact ⟨rfl, bl_drewN (Below.drew (bl_alloc (Below.refl _ _) _)) _⟩
end Go.Proofs.Ytcgabjjdffcjbaa
