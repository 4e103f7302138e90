/- The walk of KeyedAlone: it answers true. -/
import Derived.Test.YtgbdkleckmilkaaFlOf
import Derived.Deep.RegionHeld3
namespace Go.Proofs.Ytgbdkleckmilkaa
open Go.RowKit
set_option linter.unusedVariables false
set_option linter.unusedSimpArgs false

theorem fallV_one (key : List Int) (f : Fl) (level : Int) : fallV key f level 1 = 0 := by
  have := fallV_range key f level 1 (by omega)
  omega

set_option maxRecDepth 100000 in
set_option maxHeartbeats 3000000 in
theorem KeyedAlone_x (key : List Int) (hk16 : key.length = 16) (hkb : ∀ x ∈ key, 0 ≤ x ∧ x ≤ 255) (f : Fl) (hf : okFl f) (w : World) :
    Calls Try.prog 8 #[.agg (bys key).toArray, .agg (flC f).toArray] w fun e w' => e = .returned (.bool true) ∧ Below w.heap.size w w' := by
  have hO1 := (Obj1.new w (bys key).toArray 22).alloc (.cells (flC f).toArray 34)
  have hO2 := Obj1.new (w.alloc (.cells (bys key).toArray 22)) (flC f).toArray 34
  have e1 : (w.alloc (.cells (bys key).toArray 22)).heap.size = w.heap.size + 1 := by simp
  rw [e1] at hO2
  have HO1 := Lib.hid hO1
  have HO2 := Lib.hid hO2
  have HB := Lib.hid (bl_alloc (bl_alloc (Below.refl w.heap.size w) (.cells (bys key).toArray 22)) (.cells (flC f).toArray 34))
  have HKS := Lib.hid (key_size hk16)
  have HFS := Lib.hid (fl_size hf)
  clear hO1 hO2 e1
  go_enter Try.func8, Try.ntmps8
  go_wp2_with (first
    | (refine load_obj rfl 22 (.tmp 2) rfl w.heap.size 22 (bys key).toArray _ rfl HO1.out Try.underlying22 rfl HKS.out ?_)
    | (refine load_obj rfl 34 (.tmp 3) rfl (w.heap.size + 1) 34 (flC f).toArray _ rfl HO2.out Try.underlying34 rfl HFS.out ?_))
  refine (bins_w key hk16 hkb f hf 4 1 (by omega) (by omega) (by omega) 4 (by decide) _).mono ?_
  rintro e w2 ⟨A1, c1, rfl, hs1, hb2⟩
  have hP1 := HO1.out.below hb2
  have hP2 := HO2.out.below hb2
  have HB2 := Lib.hid (bl_next HB.out hb2)
  have cell : ∀ k, k < 4 → ∃ ad, A1 = some ad ∧ w2.cell? (ad.add k) = some (.int .i64 0) := fun k hk => by
    obtain ⟨ad, e, hc, _⟩ := hs1.at k hk
    rw [binsV_nth _ _ _ _ _ hk, fallV_one] at hc
    exact ⟨ad, e, hc⟩
  obtain ⟨ad, rfl, d0⟩ := cell 0 (by omega)
  obtain ⟨_, e1, d1⟩ := cell 1 (by omega)
  cases e1
  obtain ⟨_, e2, d2⟩ := cell 2 (by omega)
  cases e2
  obtain ⟨_, e3, d3⟩ := cell 3 (by omega)
  cases e3
  have HS0 := Lib.hid (show Obj1 w2 w.heap.size (bys key).toArray 22 ∧ Obj1 w2 (w.heap.size + 1) (flC f).toArray 34 ∧ w2.cell? (ad.add 0) = some (.int .i64 0) ∧ w2.cell? (ad.add 1) = some (.int .i64 0) ∧ w2.cell? (ad.add 2) = some (.int .i64 0) ∧ w2.cell? (ad.add 3) = some (.int .i64 0) from ⟨hP1, hP2, d0, d1, d2, d3⟩)
  clear hb2 hs1 hP1 hP2 cell d0 d1 d2 d3
  have hkeep : ∀ u v : World, (Obj1 u w.heap.size (bys key).toArray 22 ∧ Obj1 u (w.heap.size + 1) (flC f).toArray 34 ∧ u.cell? (ad.add 0) = some (.int .i64 0) ∧ u.cell? (ad.add 1) = some (.int .i64 0) ∧ u.cell? (ad.add 2) = some (.int .i64 0) ∧ u.cell? (ad.add 3) = some (.int .i64 0)) → Below u.heap.size u v →
      (Obj1 v w.heap.size (bys key).toArray 22 ∧ Obj1 v (w.heap.size + 1) (flC f).toArray 34 ∧ v.cell? (ad.add 0) = some (.int .i64 0) ∧ v.cell? (ad.add 1) = some (.int .i64 0) ∧ v.cell? (ad.add 2) = some (.int .i64 0) ∧ v.cell? (ad.add 3) = some (.int .i64 0)) :=
    fun _ _ h hb => ⟨h.1.below hb, h.2.1.below hb, bl_keeps hb h.2.2.1, bl_keeps hb h.2.2.2.1, bl_keeps hb h.2.2.2.2.1, bl_keeps hb h.2.2.2.2.2⟩
  have HKEEP := Lib.hid hkeep
  clear hkeep
  go_wp2_with fail
  refine wp_region_held_drew (S := (fun w' => Obj1 w' w.heap.size (bys key).toArray 22 ∧ Obj1 w' (w.heap.size + 1) (flC f).toArray 34 ∧ w'.cell? (ad.add 0) = some (.int .i64 0) ∧ w'.cell? (ad.add 1) = some (.int .i64 0) ∧ w'.cell? (ad.add 2) = some (.int .i64 0) ∧ w'.cell? (ad.add 3) = some (.int .i64 0))) (by kernel_rfl) (HKEEP.out _ _ HS0.out (Below.drew (Below.refl _ _))) (fun hHeld => ?_)
  have HSS := Lib.hid hHeld
  clear hHeld
  refine wpAnyH_ready (rs := [0]) (by kernel_rfl) (by simp) ?_
  refine AllReadyH.cons rfl (fun K hK => ?_) AllReadyH.nil
  go_simp
  go_wp2_with (refine (awake13_w _).mono ?_; rintro e w3 ⟨rfl, hb3⟩; have HB3 := Lib.hid hb3; clear hb3)
  refine hK.out _ _ (HKEEP.out _ _ HSS.out HB3.out) (fun hHeld => ?_)
  clear hK K
  have HS3 := Lib.hid hHeld
  have HB30 := Lib.hid (bl_next HB2.out.drew HB3.out)
  clear hHeld
  refine wpAnyH_take (i := 1) (v := ?_) rfl (by kernel_rfl) (by kernel_rfl) (by kernel_rfl) (fun _ _ _ h => h) (Or.inl ⟨by rfl, ?_⟩) HS3.out ?_
  rotate_left
  · intro w hSw; (try dsimp only at hSw); go_simp
    try with_reducible rfl
  go_simp
  refine wpAnyH_take (i := 2) (v := .agg (bys key).toArray) rfl (by kernel_rfl) (by kernel_rfl) (by kernel_rfl) (fun _ _ _ h => h) (Or.inl ⟨by rfl, ?_⟩) HS3.out ?_
  · intro w' hSw
    have hld := run_loadVar_row (P := Try.prog) w' w.heap.size 22 22 (bys key).toArray (0, 0) _ hSw.1 Try.underlying22 rfl HKS.out
    simp [execOp, Act.eval, Instr.loadAt, Instr.sureAddr, Sem.run_bind, hld, Result.andThen]
  go_simp
  refine wpAnyH_take (i := 3) (v := .agg (flC f).toArray) rfl (by kernel_rfl) (by kernel_rfl) (by kernel_rfl) (fun _ _ _ h => h) (Or.inl ⟨by rfl, ?_⟩) HS3.out ?_
  · intro w' hSw
    have hld := run_loadVar_row (P := Try.prog) w' (w.heap.size + 1) 34 34 (flC f).toArray (0, 0) _ hSw.2.1 Try.underlying34 rfl HFS.out
    simp [execOp, Act.eval, Instr.loadAt, Instr.sureAddr, Sem.run_bind, hld, Result.andThen]
  go_simp
  refine wpAnyH_ready (rs := [4]) (by kernel_rfl) (by simp) ?_
  refine AllReadyH.cons rfl (fun K hK => ?_) AllReadyH.nil
  go_simp
  go_wp2_with (refine (bucket_w key hk16 hkb f hf 1 (by omega) (by omega) _).mono ?_; rintro e w4 ⟨rfl, hb4⟩; have HB4 := Lib.hid hb4; clear hb4)
  rw [fallV_one]
  refine hK.out _ _ (HKEEP.out _ _ HS3.out HB4.out) (fun hHeld => ?_)
  clear hK K
  have HB40 := Lib.hid (bl_next HB30.out HB4.out)
  refine wpAnyH_take (i := 5) (v := ?_) rfl (by kernel_rfl) (by kernel_rfl) (by kernel_rfl) (fun _ _ _ h => h) (Or.inl ⟨by rfl, ?_⟩) (by assumption) ?_
  rotate_left
  · intro w hSw; (try dsimp only at hSw); go_simp
    try with_reducible rfl
  refine wpAnyH_take (i := 6) (v := ?_) rfl (by kernel_rfl) (by kernel_rfl) (by kernel_rfl) (fun _ _ _ h => h) (Or.inl ⟨by rfl, ?_⟩) (by assumption) ?_
  rotate_left
  · intro w hSw; (try dsimp only at hSw); go_simp
    try with_reducible rfl
  go_simp
  refine wpAnyH_take (i := 7) (v := ?_) rfl (by kernel_rfl) (by kernel_rfl) (by kernel_rfl) (fun _ _ _ h => h) (Or.inl ⟨by rfl, ?_⟩) (by assumption) ?_
  rotate_left
  · intro w hSw; (try dsimp only at hSw); go_simp
    try with_reducible rfl
  refine wpAnyH_take (i := 8) (v := ?_) rfl (by kernel_rfl) (by kernel_rfl) (by kernel_rfl) (fun _ _ _ h => h) (Or.inl ⟨by rfl, ?_⟩) (by assumption) ?_
  rotate_left
  · intro w hSw; (try dsimp only at hSw); go_simp
    try with_reducible rfl
  go_simp
  refine wpAnyH_take (i := 9) (v := ?_) rfl (by kernel_rfl) (by kernel_rfl) (by kernel_rfl) (fun _ _ _ h => h) (Or.inl ⟨by rfl, ?_⟩) (by assumption) ?_
  rotate_left
  · intro w hSw; (try dsimp only at hSw); go_simp
    try with_reducible rfl
  refine wpAnyH_take (i := 10) (v := ?_) rfl (by kernel_rfl) (by kernel_rfl) (by kernel_rfl) (fun _ _ _ h => h) (Or.inl ⟨by rfl, ?_⟩) (by assumption) ?_
  rotate_left
  · intro w hSw; (try dsimp only at hSw); go_simp
    try with_reducible rfl
  go_simp
  refine wpAnyH_take (i := 11) (v := ?_) rfl (by kernel_rfl) (by kernel_rfl) (by kernel_rfl) (fun _ _ _ h => h) (Or.inl ⟨by rfl, ?_⟩) (by assumption) ?_
  rotate_left
  · intro w hSw; (try dsimp only at hSw); go_simp
    try with_reducible rfl
  refine wpAnyH_take (i := 12) (v := ?_) rfl (by kernel_rfl) (by kernel_rfl) (by kernel_rfl) (fun _ _ _ h => h) (Or.inl ⟨by rfl, ?_⟩) (by assumption) ?_
  rotate_left
  · intro w hSw; (try dsimp only at hSw); go_simp
    try with_reducible rfl
  go_simp
  refine wpAnyH_take (i := 13) (v := ?_) rfl (by kernel_rfl) (by kernel_rfl) (by kernel_rfl) (fun _ _ _ h => h) (Or.inl ⟨by rfl, ?_⟩) (by assumption) ?_
  rotate_left
  · intro w hSw; (try dsimp only at hSw); go_simp
    try with_reducible rfl
  refine wpAnyH_take (i := 14) (v := ?_) rfl (by kernel_rfl) (by kernel_rfl) (by kernel_rfl) (fun _ _ _ h => h) (Or.inl ⟨by rfl, ?_⟩) (by assumption) ?_
  rotate_left
  · intro w hSw; (try dsimp only at hSw); go_simp
    try with_reducible rfl
  go_simp
  refine wpAnyH_take (i := 15) (v := ?_) rfl (by kernel_rfl) (by kernel_rfl) (by kernel_rfl) (fun _ _ _ h => h) (Or.inl ⟨by rfl, ?_⟩) (by assumption) ?_
  rotate_left
  · intro w hSw; (try dsimp only at hSw); go_simp
    try with_reducible rfl
  refine wpAnyH_take (i := 16) (v := ?_) rfl (by kernel_rfl) (by kernel_rfl) (by kernel_rfl) (fun _ _ _ h => h) (Or.inl ⟨by rfl, ?_⟩) (by assumption) ?_
  rotate_left
  · intro w hSw; (try dsimp only at hSw); go_simp
    try with_reducible rfl
  go_simp
  refine wpAnyH_take (i := 17) (v := ?_) rfl (by kernel_rfl) (by kernel_rfl) (by kernel_rfl) (fun _ _ _ h => h) (Or.inl ⟨by rfl, ?_⟩) (by assumption) ?_
  rotate_left
  · intro w hSw; (try dsimp only at hSw); go_simp
    try with_reducible rfl
  refine wpAnyH_take (i := 18) (v := ?_) rfl (by kernel_rfl) (by kernel_rfl) (by kernel_rfl) (fun _ _ _ h => h) (Or.inl ⟨by rfl, ?_⟩) (by assumption) ?_
  rotate_left
  · intro w hSw; (try dsimp only at hSw); go_simp
    try with_reducible rfl
  go_simp
  refine wpAnyH_take (i := 19) (v := ?_) rfl (by kernel_rfl) (by kernel_rfl) (by kernel_rfl) (fun _ _ _ h => h) (Or.inl ⟨by rfl, ?_⟩) (by assumption) ?_
  rotate_left
  · intro w hSw; (try dsimp only at hSw); go_simp
    try with_reducible rfl
  refine wpAnyH_take (i := 20) (v := ?_) rfl (by kernel_rfl) (by kernel_rfl) (by kernel_rfl) (fun _ _ _ h => h) (Or.inl ⟨by rfl, ?_⟩) (by assumption) ?_
  rotate_left
  · intro w hSw; (try dsimp only at hSw); go_simp
    try with_reducible rfl
  go_simp
  refine wpAnyH_take (i := 21) (v := ?_) rfl (by kernel_rfl) (by kernel_rfl) (by kernel_rfl) (fun _ _ _ h => h) (Or.inl ⟨by rfl, ?_⟩) (by assumption) ?_
  rotate_left
  · intro w hSw; (try dsimp only at hSw); go_simp
    try with_reducible rfl
  refine wpAnyH_take (i := 22) (v := ?_) rfl (by kernel_rfl) (by kernel_rfl) (by kernel_rfl) (fun _ _ _ h => h) (Or.inl ⟨by rfl, ?_⟩) (by assumption) ?_
  rotate_left
  · intro w hSw; (try dsimp only at hSw); go_simp
    try with_reducible rfl
  go_simp
  refine wpAnyH_take (i := 23) (v := ?_) rfl (by kernel_rfl) (by kernel_rfl) (by kernel_rfl) (fun _ _ _ h => h) (Or.inl ⟨by rfl, ?_⟩) (by assumption) ?_
  rotate_left
  · intro w hSw; (try dsimp only at hSw); go_simp
    try with_reducible rfl
  refine wpAnyH_take (i := 24) (v := ?_) rfl (by kernel_rfl) (by kernel_rfl) (by kernel_rfl) (fun _ _ _ h => h) (Or.inl ⟨by rfl, ?_⟩) (by assumption) ?_
  rotate_left
  · intro w hSw; (try dsimp only at hSw); go_simp
    try with_reducible rfl
  go_simp
  refine wpAnyH_take (i := 25) (v := ?_) rfl (by kernel_rfl) (by kernel_rfl) (by kernel_rfl) (fun _ _ _ h => h) (Or.inl ⟨by rfl, ?_⟩) (by assumption) ?_
  rotate_left
  · intro w hSw; (try dsimp only at hSw); go_simp
    try with_reducible rfl
  refine wpAnyH_take (i := 26) (v := ?_) rfl (by kernel_rfl) (by kernel_rfl) (by kernel_rfl) (fun _ _ _ h => h) (Or.inl ⟨by rfl, ?_⟩) (by assumption) ?_
  rotate_left
  · intro w hSw; (try dsimp only at hSw); go_simp
    try with_reducible rfl
  go_simp
  refine wpAnyH_take (i := 27) (v := ?_) rfl (by kernel_rfl) (by kernel_rfl) (by kernel_rfl) (fun _ _ _ h => h) (Or.inl ⟨by rfl, ?_⟩) (by assumption) ?_
  rotate_left
  · intro w hSw; (try dsimp only at hSw); go_simp
    try with_reducible rfl
  refine wpAnyH_take (i := 28) (v := ?_) rfl (by kernel_rfl) (by kernel_rfl) (by kernel_rfl) (fun _ _ _ h => h) (Or.inl ⟨by rfl, ?_⟩) (by assumption) ?_
  rotate_left
  · intro w hSw; (try dsimp only at hSw); go_simp
    try with_reducible rfl
  go_simp
  refine wpAnyH_take (i := 29) (v := ?_) rfl (by kernel_rfl) (by kernel_rfl) (by kernel_rfl) (fun _ _ _ h => h) (Or.inl ⟨by rfl, ?_⟩) (by assumption) ?_
  rotate_left
  · intro w hSw; (try dsimp only at hSw); go_simp
    try with_reducible rfl
  refine wpAnyH_take (i := 30) (v := ?_) rfl (by kernel_rfl) (by kernel_rfl) (by kernel_rfl) (fun _ _ _ h => h) (Or.inl ⟨by rfl, ?_⟩) (by assumption) ?_
  rotate_left
  · intro w hSw; (try dsimp only at hSw); go_simp
    try with_reducible rfl
  go_simp
  refine wpAnyH_done (by kernel_rfl) ?_ _
  go_wp2
  go_ret
  exact ⟨rfl, HB40.out⟩

theorem KeyedAlone_w (l0 l1 : Array Value) (W : World) (w0 : okCells (List.replicate 16 (.i .u8)) l0.toList) (w1 : okCells flKs l1.toList) :
    Calls Try.prog 8 #[.agg l0, .agg l1] W fun e w' => e = .returned (.bool true) ∧ Below W.heap.size W w' := by
  obtain ⟨key, rfl, hk, hkb⟩ := arr_of w0
  obtain ⟨f, hf, rfl⟩ := flow_of w1
  exact KeyedAlone_x key hk hkb f hf W
end Go.Proofs.Ytgbdkleckmilkaa
