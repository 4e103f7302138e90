/- The walk of KeyedFalls: it answers true. -/
import Derived.Test.YtgbdkleckmilkaaRefG
import Derived.Test.YtgbdkleckmilkaaKeyedFourW
namespace Go.Proofs.Ytgbdkleckmilkaa
open Go.RowKit
set_option linter.unusedVariables false
set_option linter.unusedSimpArgs false

set_option maxRecDepth 100000 in
set_option maxHeartbeats 2000000 in
theorem KeyedFalls_x (key : List Int) (hk16 : key.length = 16) (hkb : ∀ x ∈ key, 0 ≤ x ∧ x ≤ 255) (f : Fl) (hf : okFl f) (levels n : Int) (hlv : -9223372036854775808 ≤ levels ∧ levels ≤ 9223372036854775807) (hn : -9223372036854775808 ≤ n ∧ n ≤ 9223372036854775807) (w : World) :
    Calls Try.prog 6 #[.agg (bys key).toArray, .agg (flC f).toArray, .int .i64 levels, .int .i64 n] w fun e w' => e = .returned (.bool true) ∧ Below w.heap.size w w' := by
  obtain ⟨m, hmm⟩ : ∃ m : Nat, (m : Int) = if levels ≤ 0 then 0 else if levels ≤ 4 then levels else 4 := by
    refine ⟨(if levels ≤ 0 then 0 else if levels ≤ 4 then levels else 4).toNat, Int.toNat_of_nonneg ?_⟩
    split
    · omega
    · split <;> omega
  have hm4 : m ≤ 4 := by
    by_cases h1 : levels ≤ 0
    · rw [if_pos h1] at hmm; omega
    · rw [if_neg h1] at hmm
      by_cases h2 : levels ≤ 4
      · rw [if_pos h2] at hmm; omega
      · rw [if_neg h2] at hmm; omega
  have HM := Lib.hid hmm
  clear hmm
  have hO1 := (Obj1.new w (bys key).toArray 22).alloc (.cells (flC f).toArray 34)
  have hO2 := Obj1.new (w.alloc (.cells (bys key).toArray 22)) (flC f).toArray 34
  have e1 : (w.alloc (.cells (bys key).toArray 22)).heap.size = w.heap.size + 1 := by simp
  rw [e1] at hO2
  have HO1 := Lib.hid hO1
  have HO2 := Lib.hid hO2
  have HB := Lib.hid (bl_alloc (bl_alloc (Below.refl w.heap.size w) (.cells (bys key).toArray 22)) (.cells (flC f).toArray 34))
  have HKS := Lib.hid (key_size hk16)
  have HFS := Lib.hid (fl_size hf)
  clear hO1 hO2 e1
  go_enter Try.func6, Try.ntmps6
  go_wp2_with fail
  obtain ⟨K0, hK0⟩ : ∃ K0, K0 = w.heap.size := ⟨_, rfl⟩
  obtain ⟨F, hF⟩ : ∃ F, F = w.heap.size + 1 := ⟨_, rfl⟩
  have h1 := HO1.out
  have h2 := HO2.out
  rw [← hK0] at h1
  rw [← hF] at h2
  rw [← hF, ← hK0]
  generalize hWz : World.alloc (World.alloc w _) _ = Wz at h1 h2 ⊢
  have hbz := HB.out
  rw [hWz] at hbz
  have HX := Lib.hid (show Obj1 Wz K0 (bys key).toArray 22 ∧ Obj1 Wz F (flC f).toArray 34 from ⟨h1, h2⟩)
  clear h1 h2 HO1 HO2 HB hWz hK0 hF
  obtain ⟨W0, hW0⟩ : ∃ W0, W0 = World.drew Wz := ⟨_, rfl⟩
  have HX0 := Lib.hid (show Obj1 W0 K0 (bys key).toArray 22 ∧ Obj1 W0 F (flC f).toArray 34 by rw [hW0]; exact ⟨HX.out.1.drewN 1, HX.out.2.drewN 1⟩)
  have HW0 := Lib.hid (Below.refl W0.heap.size W0)
  have HBW := Lib.hid (show Below w.heap.size w W0 by rw [hW0]; exact hbz.drew)
  clear hbz
  refine wp_region_held_drew (S := (fun w' => Obj1 w' K0 (bys key).toArray 22 ∧ Obj1 w' F (flC f).toArray 34)) (by kernel_rfl) (⟨HX.out.1.drewN 1, HX.out.2.drewN 1⟩) (fun hHeld => ?_)
  rw [← hW0]
  clear hHeld hW0 HX
  refine wpAnyH_ready (rs := [0]) (by kernel_rfl) (by simp) ?_
  refine AllReadyH.cons rfl (fun K hK => ?_) AllReadyH.nil
  go_simp
  refine (awake13_w _).mono ?_
  rintro e W1 ⟨rfl, hb⟩
  have HBq := Lib.hid hb
  clear hb
  dsimp only
  refine hK.out _ _ (⟨HX0.out.1.below HBq.out, HX0.out.2.below HBq.out⟩) (fun hHeld => ?_)
  have HX1 := Lib.hid hHeld
  have HW1 := Lib.hid (bl_next HW0.out HBq.out)
  clear hK K hHeld HBq
  go_simp
  refine wpAnyH_take (i := 1) (v := ?_) rfl (by kernel_rfl) (by kernel_rfl) (by kernel_rfl) (fun _ _ _ h => h) (Or.inl ⟨by rfl, ?_⟩) HX1.out ?_
  rotate_left
  · intro w hSw; go_simp
    try with_reducible rfl
  go_simp
  refine wpAnyH_take (i := 2) (v := .agg (bys key).toArray) rfl (by kernel_rfl) (by kernel_rfl) (by kernel_rfl) (fun _ _ _ h => h) (Or.inl ⟨by rfl, ?_⟩) HX1.out ?_
  · intro w' hSw
    have hld := run_loadVar_row (P := Try.prog) w' K0 22 22 (bys key).toArray (0, 0) _ hSw.1 Try.underlying22 rfl HKS.out
    simp [execOp, Act.eval, Instr.loadAt, Instr.sureAddr, Sem.run_bind, hld, Result.andThen]
  go_simp
  refine wpAnyH_take (i := 3) (v := .agg (flC f).toArray) rfl (by kernel_rfl) (by kernel_rfl) (by kernel_rfl) (fun _ _ _ h => h) (Or.inl ⟨by rfl, ?_⟩) HX1.out ?_
  · intro w' hSw
    have hld := run_loadVar_row (P := Try.prog) w' F 34 34 (flC f).toArray (0, 0) _ hSw.2 Try.underlying34 rfl HFS.out
    simp [execOp, Act.eval, Instr.loadAt, Instr.sureAddr, Sem.run_bind, hld, Result.andThen]
  go_simp
  refine wpAnyH_take (i := 4) (v := ?_) rfl (by kernel_rfl) (by kernel_rfl) (by kernel_rfl) (fun _ _ _ h => h) (Or.inl ⟨by rfl, ?_⟩) HX1.out ?_
  rotate_left
  · intro w hSw; go_simp
    try with_reducible rfl
  go_simp
  refine wpAnyH_take (i := 6) (v := .agg (bys key).toArray) rfl (by kernel_rfl) (by kernel_rfl) (by kernel_rfl) (fun _ _ _ h => h) (Or.inl ⟨by rfl, ?_⟩) HX1.out ?_
  · intro w' hSw
    have hld := run_loadVar_row (P := Try.prog) w' K0 22 22 (bys key).toArray (0, 0) _ hSw.1 Try.underlying22 rfl HKS.out
    simp [execOp, Act.eval, Instr.loadAt, Instr.sureAddr, Sem.run_bind, hld, Result.andThen]
  go_simp
  refine wpAnyH_take (i := 7) (v := .agg (flC f).toArray) rfl (by kernel_rfl) (by kernel_rfl) (by kernel_rfl) (fun _ _ _ h => h) (Or.inl ⟨by rfl, ?_⟩) HX1.out ?_
  · intro w' hSw
    have hld := run_loadVar_row (P := Try.prog) w' F 34 34 (flC f).toArray (0, 0) _ hSw.2 Try.underlying34 rfl HFS.out
    simp [execOp, Act.eval, Instr.loadAt, Instr.sureAddr, Sem.run_bind, hld, Result.andThen]
  go_simp
  refine wpAnyH_take (i := 8) (v := ?_) rfl (by kernel_rfl) (by kernel_rfl) (by kernel_rfl) (fun _ _ _ h => h) (Or.inl ⟨by rfl, ?_⟩) HX1.out ?_
  rotate_left
  · intro w hSw; go_simp
    try with_reducible rfl
  go_simp
  refine wpAnyH_ready (rs := [5]) (by kernel_rfl) (by simp) ?_
  refine AllReadyH.cons rfl (fun K hK => ?_) AllReadyH.nil
  go_simp
  refine (bucket_w key hk16 hkb f hf n (by omega) (by omega) _).mono ?_
  rintro e W2 ⟨rfl, hb⟩
  have HBq := Lib.hid hb
  clear hb
  dsimp only
  refine hK.out _ _ (⟨HX1.out.1.below HBq.out, HX1.out.2.below HBq.out⟩) (fun hHeld => ?_)
  have HX2 := Lib.hid hHeld
  have HW2 := Lib.hid (bl_next HW1.out HBq.out)
  clear hK K hHeld HBq
  go_simp
  refine wpAnyH_ready (rs := [9]) (by kernel_rfl) (by simp) ?_
  refine AllReadyH.cons rfl (fun K hK => ?_) AllReadyH.nil
  go_simp
  refine (rbucket_w key hk16 hkb f hf n (by omega) (by omega) _).mono ?_
  rintro e W3 ⟨rfl, hb⟩
  have HBq := Lib.hid hb
  clear hb
  dsimp only
  refine hK.out _ _ (⟨HX2.out.1.below HBq.out, HX2.out.2.below HBq.out⟩) (fun hHeld => ?_)
  have HX3 := Lib.hid hHeld
  have HW3 := Lib.hid (bl_next HW2.out HBq.out)
  clear hK K hHeld HBq
  go_simp
  refine wpAnyH_take (i := 10) (v := ?_) rfl (by kernel_rfl) (by kernel_rfl) (by kernel_rfl) (fun _ _ _ h => h) (Or.inl ⟨by rfl, ?_⟩) HX3.out ?_
  rotate_left
  · intro w hSw; go_simp
    try with_reducible rfl
  go_simp
  refine wpAnyH_take (i := 11) (v := ?_) rfl (by kernel_rfl) (by kernel_rfl) (by kernel_rfl) (fun _ _ _ h => h) (Or.inl ⟨by rfl, ?_⟩) HX3.out ?_
  rotate_left
  · intro w hSw; go_simp
    try with_reducible rfl
  go_simp
  refine wpAnyH_take (i := 12) (v := ?_) rfl (by kernel_rfl) (by kernel_rfl) (by kernel_rfl) (fun _ _ _ h => h) (Or.inl ⟨by rfl, ?_⟩) HX3.out ?_
  rotate_left
  · intro w hSw; go_simp
    try with_reducible rfl
  go_simp
  refine wpAnyH_take (i := 13) (v := .agg (bys key).toArray) rfl (by kernel_rfl) (by kernel_rfl) (by kernel_rfl) (fun _ _ _ h => h) (Or.inl ⟨by rfl, ?_⟩) HX3.out ?_
  · intro w' hSw
    have hld := run_loadVar_row (P := Try.prog) w' K0 22 22 (bys key).toArray (0, 0) _ hSw.1 Try.underlying22 rfl HKS.out
    simp [execOp, Act.eval, Instr.loadAt, Instr.sureAddr, Sem.run_bind, hld, Result.andThen]
  go_simp
  refine wpAnyH_take (i := 14) (v := .agg (flC f).toArray) rfl (by kernel_rfl) (by kernel_rfl) (by kernel_rfl) (fun _ _ _ h => h) (Or.inl ⟨by rfl, ?_⟩) HX3.out ?_
  · intro w' hSw
    have hld := run_loadVar_row (P := Try.prog) w' F 34 34 (flC f).toArray (0, 0) _ hSw.2 Try.underlying34 rfl HFS.out
    simp [execOp, Act.eval, Instr.loadAt, Instr.sureAddr, Sem.run_bind, hld, Result.andThen]
  go_simp
  refine wpAnyH_take (i := 15) (v := ?_) rfl (by kernel_rfl) (by kernel_rfl) (by kernel_rfl) (fun _ _ _ h => h) (Or.inl ⟨by rfl, ?_⟩) HX3.out ?_
  rotate_left
  · intro w hSw; go_simp
    try with_reducible rfl
  go_simp
  refine wpAnyH_take (i := 16) (v := ?_) rfl (by kernel_rfl) (by kernel_rfl) (by kernel_rfl) (fun _ _ _ h => h) (Or.inl ⟨by rfl, ?_⟩) HX3.out ?_
  rotate_left
  · intro w hSw; go_simp
    try with_reducible rfl
  go_simp
  refine wpAnyH_take (i := 18) (v := .agg (bys key).toArray) rfl (by kernel_rfl) (by kernel_rfl) (by kernel_rfl) (fun _ _ _ h => h) (Or.inl ⟨by rfl, ?_⟩) HX3.out ?_
  · intro w' hSw
    have hld := run_loadVar_row (P := Try.prog) w' K0 22 22 (bys key).toArray (0, 0) _ hSw.1 Try.underlying22 rfl HKS.out
    simp [execOp, Act.eval, Instr.loadAt, Instr.sureAddr, Sem.run_bind, hld, Result.andThen]
  go_simp
  refine wpAnyH_take (i := 19) (v := .agg (flC f).toArray) rfl (by kernel_rfl) (by kernel_rfl) (by kernel_rfl) (fun _ _ _ h => h) (Or.inl ⟨by rfl, ?_⟩) HX3.out ?_
  · intro w' hSw
    have hld := run_loadVar_row (P := Try.prog) w' F 34 34 (flC f).toArray (0, 0) _ hSw.2 Try.underlying34 rfl HFS.out
    simp [execOp, Act.eval, Instr.loadAt, Instr.sureAddr, Sem.run_bind, hld, Result.andThen]
  go_simp
  refine wpAnyH_take (i := 20) (v := ?_) rfl (by kernel_rfl) (by kernel_rfl) (by kernel_rfl) (fun _ _ _ h => h) (Or.inl ⟨by rfl, ?_⟩) HX3.out ?_
  rotate_left
  · intro w hSw; go_simp
    try with_reducible rfl
  go_simp
  refine wpAnyH_take (i := 21) (v := ?_) rfl (by kernel_rfl) (by kernel_rfl) (by kernel_rfl) (fun _ _ _ h => h) (Or.inl ⟨by rfl, ?_⟩) HX3.out ?_
  rotate_left
  · intro w hSw; go_simp
    try with_reducible rfl
  go_simp
  refine wpAnyH_ready (rs := [17]) (by kernel_rfl) (by simp) ?_
  refine AllReadyH.cons rfl (fun K hK => ?_) AllReadyH.nil
  go_simp
  refine (bins_w key hk16 hkb f hf levels n (by omega) (by omega) (by omega) m HM.out _).mono ?_
  rintro e W4 ⟨A1, c1, rfl, hs1, hb⟩
  have HBq := Lib.hid hb
  clear hb
  dsimp only
  refine hK.out _ _ (⟨HX3.out.1.below HBq.out, HX3.out.2.below HBq.out⟩) (fun hHeld => ?_)
  have HX4 := Lib.hid hHeld
  have HW4 := Lib.hid (bl_next HW3.out HBq.out)
  have HS1 := Lib.hid hs1
  clear hs1
  clear hK K hHeld HBq
  go_simp
  refine wpAnyH_ready (rs := [22]) (by kernel_rfl) (by simp) ?_
  refine AllReadyH.cons rfl (fun K hK => ?_) AllReadyH.nil
  go_simp
  refine (rbins_w key hk16 hkb f hf levels n (by omega) (by omega) (by omega) m HM.out _).mono ?_
  rintro e W5 ⟨A2, c2, rfl, hs2, hb⟩
  have HBq := Lib.hid hb
  clear hb
  dsimp only
  refine hK.out _ _ (⟨HX4.out.1.below HBq.out, HX4.out.2.below HBq.out⟩) (fun hHeld => ?_)
  have HX5 := Lib.hid hHeld
  have HW5 := Lib.hid (bl_next HW4.out HBq.out)
  have HT1 := Lib.hid (HS1.out.below HBq.out)
  have HT2 := Lib.hid hs2
  clear hs2 HS1
  clear hK K hHeld HBq
  go_simp
  refine wpAnyH_ready (rs := [23]) (by kernel_rfl) (by simp) ?_
  refine AllReadyH.cons rfl (fun K hK => ?_) AllReadyH.nil
  go_simp
  refine (intsE_w A1 A2 m c1 c2 (binsV key f n m) (by omega) _ HT1.out HT2.out).mono ?_
  rintro e W6 ⟨rfl, q, rfl⟩
  dsimp only
  refine hK.out _ _ (⟨HX5.out.1.drewN q, HX5.out.2.drewN q⟩) (fun hHeld => ?_)
  have HX6 := Lib.hid hHeld
  clear hK K hHeld
  go_simp
  refine wpAnyH_take (i := 24) (v := ?_) rfl (by kernel_rfl) (by kernel_rfl) (by kernel_rfl) (fun _ _ _ h => h) (Or.inl ⟨by rfl, ?_⟩) HX6.out ?_
  rotate_left
  · intro w hSw; go_simp
    try with_reducible rfl
  go_simp
  refine wpAnyH_take (i := 25) (v := ?_) rfl (by kernel_rfl) (by kernel_rfl) (by kernel_rfl) (fun _ _ _ h => h) (Or.inl ⟨by rfl, ?_⟩) HX6.out ?_
  rotate_left
  · intro w hSw; go_simp
    try with_reducible rfl
  go_simp
  refine wpAnyH_done (by kernel_rfl) ?_ _
  go_wp2
  go_ret
  exact ⟨rfl, bl_next HBW.out (bl_drewN HW5.out q)⟩

theorem KeyedFalls_w (l0 l1 : Array Value) (a2 a3 : Int) (W : World) (w0 : okCells (List.replicate 16 (.i .u8)) l0.toList) (w1 : okCells flKs l1.toList) (w2 : (Lit.int .i64 a2).wf = true) (w3 : (Lit.int .i64 a3).wf = true) :
    Calls Try.prog 6 #[.agg l0, .agg l1, .int .i64 a2, .int .i64 a3] W fun e w' => e = .returned (.bool true) ∧ Below W.heap.size W w' := by
  obtain ⟨key, rfl, hk, hkb⟩ := arr_of w0
  obtain ⟨f, hf, rfl⟩ := flow_of w1
  exact KeyedFalls_x key hk hkb f hf a2 a3 (i64_range w2) (i64_range w3) W
end Go.Proofs.Ytgbdkleckmilkaa
