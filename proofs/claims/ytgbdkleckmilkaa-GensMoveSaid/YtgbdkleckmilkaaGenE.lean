/- A generation's bins; awake. -/
import Derived.Test.YtgbdkleckmilkaaGenD
namespace Go.Proofs.Ytgbdkleckmilkaa
open Go.RowKit
set_option linter.unusedVariables false
set_option linter.unusedSimpArgs false

set_option maxRecDepth 100000 in
set_option maxHeartbeats 1000000 in
theorem gbins_w (G : Nat) (g : Gn) (hg : okGn g) (gen : Nat) (hgen : gen ≤ 1) (hcond : gen = g.old ∨ gen = 1 - g.old ∧ g.mv = true) (f : Fl) (hf : okFl f) (levels n : Int) (hl0 : -9223372036854775808 ≤ levels ∧ levels ≤ 9223372036854775807) (hn : n ≤ 9223372036854775807) (hn0 : -9223372036854775808 ≤ n) (m : Nat) (hm : (m : Int) = if levels ≤ 0 then 0 else if levels ≤ 4 then levels else 4) (w : World) (h : Obj1 w G (gnC g).toArray 75) :
    Calls Try.prog 30 #[.pointer (some ⟨G, 0, none⟩), .int .i64 gen, .agg (flC f).toArray, .int .i64 levels, .int .i64 n] w fun e w' => ∃ A' c', e = .returned (.slice A' m c') ∧ SlI .i64 w' A' m c' (binsV (gnKey g gen) f n m) ∧ Below w.heap.size w w' := by
  have hold : g.old ≤ 1 := hg.2.2.2.1
  have hkey := ok_gnKey hg gen
  have h0 := h.alloc (.cells (flC f).toArray 34)
  obtain ⟨q0, q1, q2, q3, q4⟩ := gn_cell h0 hg
  have a4 : IntKind.i64.wrap (1 - (g.old : Int)) = 1 - (g.old : Int) := IntWalk.i64_in _ (by omega)
  have g0 : (0 : Int) ≤ (gen : Int) := Int.natCast_nonneg gen
  have g1 : (gen : Int) < 2 := by omega
  have HFS := Lib.hid (fl_size hf)
  have hKI : (Try.prog.info? 22).map (·.size) = some (bys (gnKey g gen)).length := by rw [bys_length, hkey.1]; rfl
  have HKI := Lib.hid hKI
  have HM := Lib.hid hm
  have H := Lib.hid h0
  have HF := Lib.hid (Obj1.new w (flC f).toArray 34)
  have HB := Lib.hid (bl_alloc (Below.refl w.heap.size w) (.cells (flC f).toArray 34))
  clear h h0 hKI hm
  have hc : ((gen : Int) = (g.old : Int)) ∨ (¬ (gen : Int) = (g.old : Int) ∧ (gen : Int) = 1 - (g.old : Int) ∧ g.mv = true) := by
    rcases hcond with hc | ⟨hc, hm⟩
    · left; omega
    · right; exact ⟨by omega, by omega, hm⟩
  have HC := Lib.hid hc
  clear hc hcond
  have key : ∀ (W : World) (a : Act), True := fun _ _ => trivial
  rcases HC.out with hc | ⟨hc1, hc2, hc3⟩
  · have d1 : decide ((gen : Int) = (g.old : Int)) = true := by simp; omega
    have d2 : gen = g.old := by omega
    clear key
    go_enter Try.func30, Try.ntmps30
    go_wp2_with fail
    clear hc d1 d2
    refine wp_region_held_drew (S := (fun w' => Obj1 w' G (gnC g).toArray 75 ∧ Obj1 w' w.heap.size (flC f).toArray 34)) (by kernel_rfl) (⟨H.out.drewN 1, HF.out.drewN 1⟩) (fun hHeld => ?_)
    generalize hW0 : World.drew _ = W0 at hHeld ⊢
    have HB0 : Below w.heap.size w W0 := by rw [← hW0]; exact HB.out.drew
    have HX := Lib.hid hHeld
    clear hW0 hHeld
    refine wpAnyH_take (i := 0) (v := ?_) rfl (by kernel_rfl) (by kernel_rfl) (by kernel_rfl) (fun _ _ _ h => h) (Or.inl ⟨by rfl, ?_⟩) HX.out ?_
    rotate_left
    · intro w hSw; go_simp
      try with_reducible rfl
    go_simp
    refine wpAnyH_take (i := 1) (v := ?_) rfl (by kernel_rfl) (by kernel_rfl) (by kernel_rfl) (fun _ _ _ h => h) (Or.inl ⟨by rfl, ?_⟩) HX.out ?_
    rotate_left
    · intro w hSw; go_simp
      try with_reducible rfl
    go_simp
    refine wpAnyH_take (i := 2) (v := ?_) rfl (by kernel_rfl) (by kernel_rfl) (by kernel_rfl) (fun _ _ _ h => h) (Or.inl ⟨by rfl, ?_⟩) HX.out ?_
    rotate_left
    · intro w hSw; go_simp
      try with_reducible rfl
    go_simp
    refine wpAnyH_take (i := 3) (v := ?_) rfl (by kernel_rfl) (by kernel_rfl) (by kernel_rfl) (fun _ _ _ h => h) (Or.inl ⟨by rfl, ?_⟩) HX.out ?_
    rotate_left
    · intro w hSw; go_simp
      try with_reducible rfl
    go_simp
    refine wpAnyH_take (i := 4) (v := ?_) rfl (by kernel_rfl) (by kernel_rfl) (by kernel_rfl) (fun _ _ _ h => h) (Or.inl ⟨by rfl, ?_⟩) HX.out ?_
    rotate_left
    · intro w hSw; go_simp
      try with_reducible rfl
    go_simp
    refine wpAnyH_take (i := 5) (v := .agg (bys (gnKey g gen)).toArray) rfl (by kernel_rfl) (by kernel_rfl) (by kernel_rfl) (fun _ _ _ h => h) (Or.inl ⟨by rfl, ?_⟩) HX.out ?_
    · intro w' hSw
      have hld := run_loadVar_cells (P := Try.prog) w' ⟨G, 1 + gen * 16, none⟩ 22 (bys (gnKey g gen)) _ (gn_key hSw.1 hg gen hgen) Try.underlying22 rfl HKI.out
      simp [execOp, Act.eval, Instr.loadAt, Instr.sureAddr, Sem.run_bind, hld, Result.andThen]
    go_simp
    refine wpAnyH_take (i := 6) (v := .agg (flC f).toArray) rfl (by kernel_rfl) (by kernel_rfl) (by kernel_rfl) (fun _ _ _ h => h) (Or.inl ⟨by rfl, ?_⟩) HX.out ?_
    · intro w' hSw
      have hld := run_loadVar_row (P := Try.prog) w' w.heap.size 34 34 (flC f).toArray (0, 0) _ hSw.2 Try.underlying34 rfl HFS.out
      simp [execOp, Act.eval, Instr.loadAt, Instr.sureAddr, Sem.run_bind, hld, Result.andThen]
    go_simp
    refine wpAnyH_take (i := 7) (v := ?_) rfl (by kernel_rfl) (by kernel_rfl) (by kernel_rfl) (fun _ _ _ h => h) (Or.inl ⟨by rfl, ?_⟩) HX.out ?_
    rotate_left
    · intro w hSw; go_simp
      try with_reducible rfl
    go_simp
    refine wpAnyH_take (i := 8) (v := ?_) rfl (by kernel_rfl) (by kernel_rfl) (by kernel_rfl) (fun _ _ _ h => h) (Or.inl ⟨by rfl, ?_⟩) HX.out ?_
    rotate_left
    · intro w hSw; go_simp
      try with_reducible rfl
    go_simp
    refine wpAnyH_ready (rs := [9]) (by kernel_rfl) (by simp) ?_
    refine AllReadyH.cons rfl (fun K hK => ?_) AllReadyH.nil
    go_simp
    refine (bins_w (gnKey g gen) hkey.1 hkey.2 f hf levels n hl0 hn hn0 m HM.out _).mono ?_
    rintro e W1 ⟨A', c', rfl, hs, hb⟩
    have HBq := Lib.hid hb
    have HSS := Lib.hid hs
    clear hb hs
    dsimp only
    refine hK.out _ _ (⟨HX.out.1.below HBq.out, HX.out.2.below HBq.out⟩) (fun hHeld => ?_)
    have HX1 := Lib.hid hHeld
    clear hK K hHeld
    go_simp
    refine wpAnyH_take (i := 10) (v := ?_) rfl (by kernel_rfl) (by kernel_rfl) (by kernel_rfl) (fun _ _ _ h => h) (Or.inl ⟨by rfl, ?_⟩) HX1.out ?_
    rotate_left
    · intro w hSw; go_simp
      try with_reducible rfl
    go_simp
    refine wpAnyH_done (by kernel_rfl) ?_ _
    go_wp2
    go_ret
    exact ⟨_, _, rfl, HSS.out, bl_next HB0 HBq.out⟩
  · have d1 : decide ((gen : Int) = (g.old : Int)) = false := by simp; omega
    have d2 : ¬ gen = g.old := by omega
    rw [hc3] at q2
    have a5 : IntKind.i64.wrap (1 - (g.old : Int)) = (gen : Int) := by rw [a4, hc2]
    clear key a4 hc2
    go_enter Try.func30, Try.ntmps30
    go_wp2_with fail
    clear hc1 hc3 d1 d2
    refine wp_region_held_drew (S := (fun w' => Obj1 w' G (gnC g).toArray 75 ∧ Obj1 w' w.heap.size (flC f).toArray 34)) (by kernel_rfl) (⟨H.out.drewN 1, HF.out.drewN 1⟩) (fun hHeld => ?_)
    generalize hW0 : World.drew _ = W0 at hHeld ⊢
    have HB0 : Below w.heap.size w W0 := by rw [← hW0]; exact HB.out.drew
    have HX := Lib.hid hHeld
    clear hW0 hHeld
    refine wpAnyH_take (i := 0) (v := ?_) rfl (by kernel_rfl) (by kernel_rfl) (by kernel_rfl) (fun _ _ _ h => h) (Or.inl ⟨by rfl, ?_⟩) HX.out ?_
    rotate_left
    · intro w hSw; go_simp
      try with_reducible rfl
    go_simp
    refine wpAnyH_take (i := 1) (v := ?_) rfl (by kernel_rfl) (by kernel_rfl) (by kernel_rfl) (fun _ _ _ h => h) (Or.inl ⟨by rfl, ?_⟩) HX.out ?_
    rotate_left
    · intro w hSw; go_simp
      try with_reducible rfl
    go_simp
    refine wpAnyH_take (i := 2) (v := ?_) rfl (by kernel_rfl) (by kernel_rfl) (by kernel_rfl) (fun _ _ _ h => h) (Or.inl ⟨by rfl, ?_⟩) HX.out ?_
    rotate_left
    · intro w hSw; go_simp
      try with_reducible rfl
    go_simp
    refine wpAnyH_take (i := 3) (v := ?_) rfl (by kernel_rfl) (by kernel_rfl) (by kernel_rfl) (fun _ _ _ h => h) (Or.inl ⟨by rfl, ?_⟩) HX.out ?_
    rotate_left
    · intro w hSw; go_simp
      try with_reducible rfl
    go_simp
    refine wpAnyH_take (i := 4) (v := ?_) rfl (by kernel_rfl) (by kernel_rfl) (by kernel_rfl) (fun _ _ _ h => h) (Or.inl ⟨by rfl, ?_⟩) HX.out ?_
    rotate_left
    · intro w hSw; go_simp
      try with_reducible rfl
    go_simp
    refine wpAnyH_take (i := 5) (v := .agg (bys (gnKey g gen)).toArray) rfl (by kernel_rfl) (by kernel_rfl) (by kernel_rfl) (fun _ _ _ h => h) (Or.inl ⟨by rfl, ?_⟩) HX.out ?_
    · intro w' hSw
      have hld := run_loadVar_cells (P := Try.prog) w' ⟨G, 1 + gen * 16, none⟩ 22 (bys (gnKey g gen)) _ (gn_key hSw.1 hg gen hgen) Try.underlying22 rfl HKI.out
      simp [execOp, Act.eval, Instr.loadAt, Instr.sureAddr, Sem.run_bind, hld, Result.andThen]
    go_simp
    refine wpAnyH_take (i := 6) (v := .agg (flC f).toArray) rfl (by kernel_rfl) (by kernel_rfl) (by kernel_rfl) (fun _ _ _ h => h) (Or.inl ⟨by rfl, ?_⟩) HX.out ?_
    · intro w' hSw
      have hld := run_loadVar_row (P := Try.prog) w' w.heap.size 34 34 (flC f).toArray (0, 0) _ hSw.2 Try.underlying34 rfl HFS.out
      simp [execOp, Act.eval, Instr.loadAt, Instr.sureAddr, Sem.run_bind, hld, Result.andThen]
    go_simp
    refine wpAnyH_take (i := 7) (v := ?_) rfl (by kernel_rfl) (by kernel_rfl) (by kernel_rfl) (fun _ _ _ h => h) (Or.inl ⟨by rfl, ?_⟩) HX.out ?_
    rotate_left
    · intro w hSw; go_simp
      try with_reducible rfl
    go_simp
    refine wpAnyH_take (i := 8) (v := ?_) rfl (by kernel_rfl) (by kernel_rfl) (by kernel_rfl) (fun _ _ _ h => h) (Or.inl ⟨by rfl, ?_⟩) HX.out ?_
    rotate_left
    · intro w hSw; go_simp
      try with_reducible rfl
    go_simp
    refine wpAnyH_ready (rs := [9]) (by kernel_rfl) (by simp) ?_
    refine AllReadyH.cons rfl (fun K hK => ?_) AllReadyH.nil
    go_simp
    refine (bins_w (gnKey g gen) hkey.1 hkey.2 f hf levels n hl0 hn hn0 m HM.out _).mono ?_
    rintro e W1 ⟨A', c', rfl, hs, hb⟩
    have HBq := Lib.hid hb
    have HSS := Lib.hid hs
    clear hb hs
    dsimp only
    refine hK.out _ _ (⟨HX.out.1.below HBq.out, HX.out.2.below HBq.out⟩) (fun hHeld => ?_)
    have HX1 := Lib.hid hHeld
    clear hK K hHeld
    go_simp
    refine wpAnyH_take (i := 10) (v := ?_) rfl (by kernel_rfl) (by kernel_rfl) (by kernel_rfl) (fun _ _ _ h => h) (Or.inl ⟨by rfl, ?_⟩) HX1.out ?_
    rotate_left
    · intro w hSw; go_simp
      try with_reducible rfl
    go_simp
    refine wpAnyH_done (by kernel_rfl) ?_ _
    go_wp2
    go_ret
    exact ⟨_, _, rfl, HSS.out, bl_next HB0 HBq.out⟩

set_option maxRecDepth 100000 in
set_option maxHeartbeats 1000000 in
theorem awake24_w (w : World) : Calls Try.prog 22 #[] w fun e w' => e = .returned (.bool true) ∧ Below w.heap.size w w' := by
  have hk0 : okKey (List.replicate 16 0) := ⟨by simp, fun x hx => by have h : x = 0 := List.eq_of_mem_replicate hx; subst h; decide⟩
  have hk1 : okKey (1 :: List.replicate 15 0) := ⟨by simp, fun x hx => by
    rcases List.mem_cons.1 hx with h | h
    · subst h; decide
    · have h : x = 0 := List.eq_of_mem_replicate h
      subst h; decide⟩
  have hg0 : okGn ⟨1, List.replicate 16 0, List.replicate 16 0, 0, false, 0, 0⟩ := ⟨by decide, hk0, hk0, by decide, by decide, by decide⟩
  have hg1 : okGn (gnRe ⟨1, List.replicate 16 0, List.replicate 16 0, 0, false, 0, 0⟩ (1 :: List.replicate 15 0)) := ⟨by decide, hk0, hk1, by decide, by decide, by decide⟩
  have HG1 := Lib.hid hg1
  have HK1 := Lib.hid hk1
  go_enter Try.func22, Try.ntmps22
  go_wp2_with fail
  refine (gnew_w 1 (by omega) (List.replicate 16 0) hk0 _).mono ?_
  rintro e w1 ⟨G, rfl, hG, ho, hb⟩
  have HO := Lib.hid ho
  have HB := Lib.hid hb
  clear ho hb
  go_wp2_with fail
  refine (rekey_w G _ hg0 rfl (1 :: List.replicate 15 0) HK1.out _ HO.out).mono ?_
  rintro e w2 ⟨rfl, ho2, hu2⟩
  have HO2 := Lib.hid ho2
  have HB2 := Lib.hid (bl_upd HB.out hu2 hG)
  clear ho2 hu2
  go_wp2_with fail
  refine (gmoving_w G _ HG1.out _ HO2.out).mono ?_
  rintro e w' ⟨rfl, rfl⟩
  go_wp2_with fail
  refine (gold_w G _ HG1.out _ HO2.out).mono ?_
  rintro e w' ⟨rfl, rfl⟩
  go_wp2
  go_ret
  exact ⟨rfl, HB2.out⟩
end Go.Proofs.Ytgbdkleckmilkaa
