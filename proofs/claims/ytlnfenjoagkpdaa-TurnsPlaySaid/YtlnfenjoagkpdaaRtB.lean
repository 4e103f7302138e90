/- The document's turns: Wake, Sleep, Awake. -/
import Derived.Test.YtlnfenjoagkpdaaRtA
namespace Go.Proofs.Ytlnfenjoagkpdaa
open Go.RowKit
set_option linter.unusedVariables false
set_option linter.unusedSimpArgs false

theorem rcC_one (l : List RC) : ∀ v ∈ fl rcC l, v.oneCell' = true := fl_oneCell (fun x _ v hv => by
  simp [rcC] at hv
  rcases hv with rfl | rfl | rfl <;> rfl)
theorem rcC_one1 (x : RC) : ∀ v ∈ rcC x, v.oneCell' = true := by
  intro v hv
  simp [rcC] at hv
  rcases hv with rfl | rfl | rfl <;> rfl
set_option maxRecDepth 100000 in
set_option maxHeartbeats 2000000 in
theorem rwakeNo_w (N q : Int) (A : Option Addr) (n cp : Nat) (l : List RC) (hn : n ≤ 1000) (c : Int) (hno : ¬ (0 ≤ c ∧ c < N) ∨ atN l c < l.length) (w : World) (h : SlR rcC w A n cp l) :
    Calls Try.prog 17 #[.agg (rtC N q A n cp), .int .i64 c] w fun e w' => (e = .returned (.tuple #[.agg (rtC N q A n cp), .bool false]) ∧ Below w.heap.size w w') := by
  have HS := Lib.hid h
  obtain ⟨W, hW⟩ : ∃ W, W = (w.alloc (.cells (rtC N q A n cp) 44)).alloc (.cells #[.int .i64 0, .int .i64 0, .slice none 0 0] 44) := ⟨_, rfl⟩
  have HB := Lib.hid (show Below w.heap.size w W by rw [hW]; exact bl_alloc (bl_alloc (Below.refl w.heap.size w) _) _)
  have HO := Lib.hid (show Obj1 W w.heap.size (rtC N q A n cp) 44 by rw [hW]; exact (Obj1.new w _ _).alloc _)
  have HZ := Lib.hid (show Obj1 W (w.heap.size + 1) #[.int .i64 0, .int .i64 0, .slice none 0 0] 44 by
    rw [hW]
    have := Obj1.new (w.alloc (.cells (rtC N q A n cp) 44)) #[.int .i64 0, .int .i64 0, .slice none 0 0] 44
    rwa [World.size_alloc] at this)
  have HW := Lib.hid hW
  have HSN := Lib.hid h.1
  have hnc := h.2.1
  clear hW h
  go_enter Try.func17, Try.ntmps17
  go_upto_region 1 with (fail)
  rw [← HW.out]
  clear HW
  have c0 : W.cell? ⟨w.heap.size, 0, none⟩ = some (.int .i64 N) := HO.out.cell 0
  by_cases h1 : c < 0
  · have d1 : decide (c < 0) = true := decide_eq_true h1
    go_wp2_with (first | (refine load_obj rfl 44 (.tmp 2) rfl w.heap.size 44 (rtC N q A n cp) _ rfl HO.out Try.underlying44 rfl rfl ?_) | (refine load_obj_g (by rfl) 44 (.tmp 2) rfl w.heap.size 44 (rtC N q A n cp) _ rfl HO.out Try.underlying44 rfl rfl ?_) | (refine store_obj rfl 44 (.tmp 4) (.tmp 20) rfl (w.heap.size + 1) 44 _ (rtC N q A n cp) rfl rfl HZ.out rfl rfl (by simp [rtC, Value.oneCell']) ?_; intro w3 ho3 hu3; have HZ3 := Lib.hid ho3; have HB3 := Lib.hid (bl_upd HB.out hu3 (by omega)); clear ho3 hu3))
    refine bodyPost_ret (v := .tuple #[.agg (rtC N q A n cp), .bool false]) (results_cell2 (p := 4) (u := 5) rfl _ _ _ (w.heap.size + 1) _ rfl (run_loadVar_row (P := Try.prog) _ (w.heap.size + 1) 44 44 (rtC N q A n cp) (0, 0) _ HZ3.out Try.underlying44 rfl rfl)) rfl ?_
    exact ⟨rfl, HB3.out⟩
  · have d1 : decide (c < 0) = false := decide_eq_false h1
    by_cases h2 : N ≤ c
    · have d2 : decide (N ≤ c) = true := decide_eq_true h2
      go_wp2_with (first | (refine load_obj rfl 44 (.tmp 2) rfl w.heap.size 44 (rtC N q A n cp) _ rfl HO.out Try.underlying44 rfl rfl ?_) | (refine load_obj_g (by rfl) 44 (.tmp 2) rfl w.heap.size 44 (rtC N q A n cp) _ rfl HO.out Try.underlying44 rfl rfl ?_) | (refine store_obj rfl 44 (.tmp 4) (.tmp 20) rfl (w.heap.size + 1) 44 _ (rtC N q A n cp) rfl rfl HZ.out rfl rfl (by simp [rtC, Value.oneCell']) ?_; intro w3 ho3 hu3; have HZ3 := Lib.hid ho3; have HB3 := Lib.hid (bl_upd HB.out hu3 (by omega)); clear ho3 hu3))
      refine bodyPost_ret (v := .tuple #[.agg (rtC N q A n cp), .bool false]) (results_cell2 (p := 4) (u := 5) rfl _ _ _ (w.heap.size + 1) _ rfl (run_loadVar_row (P := Try.prog) _ (w.heap.size + 1) 44 44 (rtC N q A n cp) (0, 0) _ HZ3.out Try.underlying44 rfl rfl)) rfl ?_
      exact ⟨rfl, HB3.out⟩
    · have d2 : decide (N ≤ c) = false := decide_eq_false h2
      have hat : atN l c < l.length := by omega
      have HV := Lib.hid (show atV l c = (atN l c : Int) by unfold atV; rw [if_pos hat])
      have hnn : (0 : Int) ≤ (atN l c : Int) := Int.natCast_nonneg _
      have d3 : decide ((0 : Int) ≤ (atN l c : Int)) = true := decide_eq_true hnn
      clear hno hat
      go_wp2_with (first | (refine load_obj rfl 44 (.tmp 2) rfl w.heap.size 44 (rtC N q A n cp) _ rfl HO.out Try.underlying44 rfl rfl ?_) | (refine load_obj_g (by rfl) 44 (.tmp 2) rfl w.heap.size 44 (rtC N q A n cp) _ rfl HO.out Try.underlying44 rfl rfl ?_))
      refine (rat_w N q A n cp l c hn _ (HS.out.below HB.out)).mono ?_
      rintro e w2 ⟨rfl, hb2⟩
      have HO2 := Lib.hid (HO.out.below hb2)
      have HZ2 := Lib.hid (HZ.out.below hb2)
      have HB2 := Lib.hid (bl_next HB.out hb2)
      clear HO HZ HB hb2
      have HO := HO2
      have HZ := HZ2
      have HB := HB2
      clear HO2 HZ2 HB2
      rw [HV.out]
      go_wp2_with (first | (refine load_obj rfl 44 (.tmp 2) rfl w.heap.size 44 (rtC N q A n cp) _ rfl HO.out Try.underlying44 rfl rfl ?_) | (refine store_obj rfl 44 (.tmp 4) (.tmp 20) rfl (w.heap.size + 1) 44 _ (rtC N q A n cp) rfl rfl HZ.out rfl rfl (by simp [rtC, Value.oneCell']) ?_; intro w3 ho3 hu3; have HZ3 := Lib.hid ho3; have HB3 := Lib.hid (bl_upd HB.out hu3 (by omega)); clear ho3 hu3))
      refine bodyPost_ret (v := .tuple #[.agg (rtC N q A n cp), .bool false]) (results_cell2 (p := 4) (u := 5) rfl _ _ _ (w.heap.size + 1) _ rfl (run_loadVar_row (P := Try.prog) _ (w.heap.size + 1) 44 44 (rtC N q A n cp) (0, 0) _ HZ3.out Try.underlying44 rfl rfl)) rfl ?_
      exact ⟨rfl, HB3.out⟩

set_option maxRecDepth 100000 in
set_option maxHeartbeats 2000000 in
theorem rwakeYes_w (N q : Int) (A : Option Addr) (n cp : Nat) (l : List RC) (hn : n ≤ 1000) (k : Nat) (hk : (k : Int) < N) (hat : ¬ atN l (k : Int) < l.length) (w : World) (h : SlR rcC w A n cp l) :
    Calls Try.prog 17 #[.agg (rtC N q A n cp), .int .i64 k] w fun e w' => ∃ A1 c1, e = .returned (.tuple #[.agg (rtC N q A1 (n + 1) c1), .bool true]) ∧ SlR rcC w' A1 (n + 1) c1 (l ++ [⟨k, true, 0⟩]) ∧ (∀ ad, A1 = some ad → w.heap.size ≤ ad.block) ∧ Below w.heap.size w w' := by
  obtain ⟨c, hc⟩ : ∃ c : Int, c = (k : Int) := ⟨_, rfl⟩
  have hk0 : (0 : Int) ≤ (k : Int) := Int.natCast_nonneg k
  rw [← hc] at hk hat hk0
  have h1 : ¬ c < 0 := by omega
  have h2 : ¬ N ≤ c := by omega
  have d1 : decide (c < 0) = false := decide_eq_false h1
  have d2 : decide (N ≤ c) = false := decide_eq_false h2
  have HV := Lib.hid (show atV l c = -1 by unfold atV; rw [if_neg hat])
  rw [← hc]
  have HC := Lib.hid hc
  clear hc
  have HS := Lib.hid h
  obtain ⟨W, hW⟩ : ∃ W, W = (w.alloc (.cells (rtC N q A n cp) 44)).alloc (.cells #[.int .i64 0, .int .i64 0, .slice none 0 0] 44) := ⟨_, rfl⟩
  have HB := Lib.hid (show Below w.heap.size w W by rw [hW]; exact bl_alloc (bl_alloc (Below.refl w.heap.size w) _) _)
  have HO := Lib.hid (show Obj1 W w.heap.size (rtC N q A n cp) 44 by rw [hW]; exact (Obj1.new w _ _).alloc _)
  have HZ := Lib.hid (show Obj1 W (w.heap.size + 1) #[.int .i64 0, .int .i64 0, .slice none 0 0] 44 by
    rw [hW]
    have := Obj1.new (w.alloc (.cells (rtC N q A n cp) 44)) #[.int .i64 0, .int .i64 0, .slice none 0 0] 44
    rwa [World.size_alloc] at this)
  have HW := Lib.hid hW
  have HSN := Lib.hid h.1
  have hnc := h.2.1
  clear hW h
  go_enter Try.func17, Try.ntmps17
  go_upto_region 1 with (fail)
  rw [← HW.out]
  clear HW
  have c0 : W.cell? ⟨w.heap.size, 0, none⟩ = some (.int .i64 N) := HO.out.cell 0
  go_wp2_with (first | (refine load_obj rfl 44 (.tmp 2) rfl w.heap.size 44 (rtC N q A n cp) _ rfl HO.out Try.underlying44 rfl rfl ?_) | (refine load_obj_g (by rfl) 44 (.tmp 2) rfl w.heap.size 44 (rtC N q A n cp) _ rfl HO.out Try.underlying44 rfl rfl ?_))
  refine (rat_w N q A n cp l c hn _ (HS.out.below HB.out)).mono ?_
  rintro e w2 ⟨rfl, hb2⟩
  have HO2 := Lib.hid (HO.out.below hb2)
  have HZ2 := Lib.hid (HZ.out.below hb2)
  have HB2 := Lib.hid (bl_next HB.out hb2)
  clear HO HZ HB hb2
  have HO := HO2
  have HZ := HZ2
  have HB := HB2
  clear HO2 HZ2 HB2
  rw [HV.out]
  clear c0
  go_wp2_with fail
  rw [HC.out]
  clear hk hat hk0 h1 h2 d1 d2
  refine wp_region_held_drew (S := fun w' => Below w.heap.size w w' ∧ Obj1 w' w.heap.size (rtC N q A n cp) 44) (by kernel_rfl) (⟨HB.out.drew, HO.out⟩) (fun hHeld => ?_)
  have HX := Lib.hid hHeld
  clear hHeld
  generalize hWd : World.drew _ = W at HX ⊢
  have hZ : Obj1 W (w.heap.size + 1) #[.int .i64 0, .int .i64 0, .slice none 0 0] 44 := by rw [← hWd]; exact HZ.out
  clear HZ hWd
  have HZ := Lib.hid hZ
  clear hZ
  refine wpAnyH_take (i := 0) (v := .agg (rtC N q A n cp)) rfl (by kernel_rfl) (by kernel_rfl) (by kernel_rfl) (fun _ _ _ h => h) (Or.inl ⟨by rfl, ?_⟩) HX.out ?_
  · intro w' hSw
    have hld := run_loadVar_row (P := Try.prog) w' w.heap.size 44 44 (rtC N q A n cp) (0, 0) _ hSw.2 Try.underlying44 rfl rfl
    simp [execOp, Act.eval, Instr.loadAt, Instr.sureAddr, Sem.run_bind, hld, Result.andThen]
  go_simp
  refine wpAnyH_take (i := 2) (v := ?_) rfl (by kernel_rfl) (by kernel_rfl) (by kernel_rfl) (fun _ _ _ h => h) (Or.inl ⟨by rfl, ?_⟩) HX.out ?_
  rotate_left
  · intro w' hSw; go_simp
    try with_reducible rfl
  go_simp
  refine wpAnyH_take (i := 3) (v := ?_) rfl (by kernel_rfl) (by kernel_rfl) (by kernel_rfl) (fun _ _ _ h => h) (Or.inl ⟨by rfl, ?_⟩) HX.out ?_
  rotate_left
  · intro w' hSw; have c2 : w'.cell? ⟨w.heap.size, 2, none⟩ = some (.slice A n cp) := hSw.2.cell 2; go_simp
    try with_reducible rfl
  go_simp
  refine wpAnyH_take (i := 5) (v := ?_) rfl (by kernel_rfl) (by kernel_rfl) (by kernel_rfl) (fun _ _ _ h => h) (Or.inl ⟨by rfl, ?_⟩) HX.out ?_
  rotate_left
  · intro w' hSw; go_simp
    try with_reducible rfl
  go_simp
  refine wpAnyH_take (i := 6) (v := ?_) rfl (by kernel_rfl) (by kernel_rfl) (by kernel_rfl) (fun _ _ _ h => h) (Or.inl ⟨by rfl, ?_⟩) HX.out ?_
  rotate_left
  · intro w' hSw; go_simp
    try with_reducible rfl
  go_simp
  refine wpAnyH_ready (rs := [1, 7]) (by kernel_rfl) (by simp) ?_
  refine AllReadyH.cons rfl (fun K hK => ?_) ?_
  · go_simp
    have hE := own_nil W w.heap.size 82 3 HX.out.1.size
    have hb := bl_alloc (Below.refl W.heap.size W) (.cells #[] 82)
    obtain ⟨gE, hgE⟩ : ∃ gE, gE = W.heap.size := ⟨_, rfl⟩
    rw [← hgE] at hE
    rw [← hgE]
    generalize hWn : World.alloc _ _ = W at hE hb ⊢
    clear hWn hgE
    have hX : Below w.heap.size w _ ∧ Obj1 _ w.heap.size (rtC N q A n cp) 44 := ⟨bl_next HX.out.1 hb, HX.out.2.below hb⟩
    have hZ := HZ.out.below hb
    clear HZ
    have HZ := Lib.hid hZ
    clear hZ
    have HE := Lib.hid hE
    clear hE hb
    refine hK.out _ _ (hX) (fun hHeld => ?_)
    clear HX hK K
    have HX := Lib.hid hHeld
    clear hHeld
    go_simp
    refine wpAnyH_ready (rs := [4, 7]) (by kernel_rfl) (by simp) ?_
    refine AllReadyH.cons rfl (fun K hK => ?_) ?_
    · refine app_new_step w.heap.size rfl (.tmp 22) (.tmp 24) 42 82 (.agg #[.int .i64 0, .bool false, .int .i64 0]) 3 24 rfl Try.underlying42 (by kernel_rfl) (by simp [Value.cells]) (by omega) (by omega) gE A n cp (fl rcC l) rfl rfl HE.out (by rw [fl_length _ (rcC_len l), HSN.out]) (Rd.below HS.out.2.2.2.2 HX.out.1) (rcC_one l) (by omega) HX.out.1.size ?_
      intro vA W hA hb
      have hX : Below w.heap.size w _ ∧ Obj1 _ w.heap.size (rtC N q A n cp) 44 := ⟨bl_next HX.out.1 hb, HX.out.2.below hb⟩
      have hZ := HZ.out.below hb
      clear HZ
      have HZ := Lib.hid hZ
      clear hZ
      clear HE
      have HA := Lib.hid hA
      clear hA hb
      refine hK.out _ _ (hX) (fun hHeld => ?_)
      clear HX hK K
      have HX := Lib.hid hHeld
      clear hHeld
      go_simp
      refine wpAnyH_ready (rs := [7]) (by kernel_rfl) (by simp) ?_
      refine AllReadyH.cons rfl (fun K hK => ?_) AllReadyH.nil
      go_simp
      have hL := lit_rd W (rcC ⟨k, true, 0⟩) 82
      have hb := bl_alloc (Below.refl W.heap.size W) (.cells (rcC ⟨k, true, 0⟩).toArray 82)
      obtain ⟨gL, hgL⟩ : ∃ gL, gL = W.heap.size := ⟨_, rfl⟩
      rw [← hgL] at hL
      change K _ (W.alloc (.cells (rcC ⟨k, true, 0⟩).toArray 82))
      rw [← hgL]
      generalize hWn : World.alloc _ _ = W at hL hb ⊢
      clear hWn hgL
      have hX : Below w.heap.size w _ ∧ Obj1 _ w.heap.size (rtC N q A n cp) 44 := ⟨bl_next HX.out.1 hb, HX.out.2.below hb⟩
      have hZ := HZ.out.below hb
      clear HZ
      have HZ := Lib.hid hZ
      clear hZ
      have hq := own_below HA.out hb
      clear HA
      have HA := Lib.hid hq
      clear hq
      have HL := Lib.hid hL
      clear hL hb
      refine hK.out _ _ (hX) (fun hHeld => ?_)
      clear HX hK K
      have HX := Lib.hid hHeld
      clear hHeld
      go_simp
      refine wpAnyH_ready (rs := [8]) (by kernel_rfl) (by simp) ?_
      refine AllReadyH.cons rfl (fun K hK => ?_) AllReadyH.nil
      refine app_step w.heap.size rfl (.tmp 25) (.tmp 28) 42 82 (.agg #[.int .i64 0, .bool false, .int .i64 0]) 3 24 rfl Try.underlying42 (by kernel_rfl) (by simp [Value.cells]) (by omega) (by omega) vA n (fl rcC l) (some ⟨gL, 0, none⟩) 1 1 (rcC ⟨k, true, 0⟩) rfl rfl HA.out (rfl) (HL.out) (rcC_one1 _) (by omega) HX.out.1.size ?_
      intro vB W hA hg
      have hX : Below w.heap.size w W ∧ Obj1 W w.heap.size (rtC N q A n cp) 44 := ⟨bl_grown HX.out.1 HA.out hg (Nat.le_refl _), HX.out.2.of_grown hg (own_neO HX.out.2 HA.out (by decide))⟩
      have hZ := HZ.out.of_grown hg (own_neO HZ.out HA.out (by decide))
      clear HZ
      have HZ := Lib.hid hZ
      clear hZ
      clear HA HL hg
      have HA := Lib.hid hA
      clear hA
      obtain ⟨A9, c9, rfl, h9, hne9⟩ := SlR.of_ownB (l := l ++ [⟨k, true, 0⟩]) (by rw [fl_app, fl_one]; exact HA.out) (by simp [HSN.out])
      have H9 := Lib.hid h9
      have HNE9 := Lib.hid (show ∀ ad, A9 = some ad → ad.block ≠ w.heap.size + 1 from fun ad e he => by
        obtain ⟨_, cs, ho⟩ := hne9 ad e
        rw [he] at ho
        have := ho.symm.trans HZ.out
        simp at this)
      have HGE9 := Lib.hid (show ∀ ad, A9 = some ad → w.heap.size ≤ ad.block from fun ad e => (hne9 ad e).1)
      clear HA h9 hne9
      refine hK.out _ _ (hX) (fun hHeld => ?_)
      clear HX hK K
      have HX := Lib.hid hHeld
      clear hHeld
      go_simp
      refine wpAnyH_ready (rs := [9]) (by kernel_rfl) (by simp) ?_
      refine AllReadyH.cons rfl (fun K hK => ?_) AllReadyH.nil
      go_simp
      refine (rwith_w N q A A9 n cp (n + 1) c9 _).mono ?_
      rintro e W ⟨rfl, hb⟩
      have hX : Below w.heap.size w _ ∧ Obj1 _ w.heap.size (rtC N q A n cp) 44 := ⟨bl_next HX.out.1 hb, HX.out.2.below hb⟩
      have hZ := HZ.out.below hb
      clear HZ
      have HZ := Lib.hid hZ
      clear hZ
      have hq := SlR.below H9.out hb
      clear H9
      have H9 := Lib.hid hq
      clear hq
      clear hb
      dsimp only
      refine hK.out _ _ (hX) (fun hHeld => ?_)
      clear HX hK K
      have HX := Lib.hid hHeld
      clear hHeld
      go_simp
      refine wpAnyH_ready (rs := [10]) (by kernel_rfl) (by simp) ?_
      refine AllReadyH.cons rfl (fun K hK => ?_) AllReadyH.nil
      refine gwanted rfl ?_
      refine wp_storeO 44 (.tmp 4) (.tmp 30) rfl (w.heap.size + 1) 44 #[.int .i64 0, .int .i64 0, .slice none 0 0] (rtC N q A9 (n + 1) c9) rfl rfl HZ.out rfl rfl (by simp [rtC, Value.oneCell']) ?_
      intro W hob hup
      have hX : Below w.heap.size w W ∧ Obj1 W w.heap.size (rtC N q A n cp) 44 := ⟨bl_upd HX.out.1 hup (by omega), HX.out.2.of_grown hup (by simp)⟩
      have h9 : SlR rcC W A9 (n + 1) c9 _ := H9.out.upd hup (fun ad e => HNE9.out ad e)
      clear HZ H9 hup
      have HZ := Lib.hid hob
      have H9 := Lib.hid h9
      clear hob h9
      refine hK.out _ _ (hX) (fun hHeld => ?_)
      clear HX hK K
      have HX := Lib.hid hHeld
      clear hHeld
      go_simp
      refine wpAnyH_take (i := 11) (v := ?_) rfl (by kernel_rfl) (by kernel_rfl) (by kernel_rfl) (fun _ _ _ h => h) (Or.inl ⟨by rfl, ?_⟩) HX.out ?_
      rotate_left
      · intro w' hSw; go_simp
        try with_reducible rfl
      go_simp
      refine wpAnyH_done (by kernel_rfl) ?_ _
      go_wp2_with fail
      refine bodyPost_ret (v := .tuple #[.agg (rtC N q A9 (n + 1) c9), .bool true]) (results_cell2 (p := 4) (u := 5) rfl _ _ _ (w.heap.size + 1) _ rfl (run_loadVar_row (P := Try.prog) _ (w.heap.size + 1) 44 44 (rtC N q A9 (n + 1) c9) (0, 0) _ HZ.out Try.underlying44 rfl rfl)) rfl ?_
      exact ⟨A9, c9, rfl, H9.out, HGE9.out, HX.out.1⟩
    refine AllReadyH.cons rfl (fun K hK => ?_) AllReadyH.nil
    go_simp
    have hL := lit_rd W (rcC ⟨k, true, 0⟩) 82
    have hb := bl_alloc (Below.refl W.heap.size W) (.cells (rcC ⟨k, true, 0⟩).toArray 82)
    obtain ⟨gL, hgL⟩ : ∃ gL, gL = W.heap.size := ⟨_, rfl⟩
    rw [← hgL] at hL
    change K _ (W.alloc (.cells (rcC ⟨k, true, 0⟩).toArray 82))
    rw [← hgL]
    generalize hWn : World.alloc _ _ = W at hL hb ⊢
    clear hWn hgL
    have hX : Below w.heap.size w _ ∧ Obj1 _ w.heap.size (rtC N q A n cp) 44 := ⟨bl_next HX.out.1 hb, HX.out.2.below hb⟩
    have hZ := HZ.out.below hb
    clear HZ
    have HZ := Lib.hid hZ
    clear hZ
    have hq := own_below HE.out hb
    clear HE
    have HE := Lib.hid hq
    clear hq
    have HL := Lib.hid hL
    clear hL hb
    refine hK.out _ _ (hX) (fun hHeld => ?_)
    clear HX hK K
    have HX := Lib.hid hHeld
    clear hHeld
    go_simp
    refine wpAnyH_ready (rs := [4]) (by kernel_rfl) (by simp) ?_
    refine AllReadyH.cons rfl (fun K hK => ?_) AllReadyH.nil
    refine app_new_step w.heap.size rfl (.tmp 22) (.tmp 24) 42 82 (.agg #[.int .i64 0, .bool false, .int .i64 0]) 3 24 rfl Try.underlying42 (by kernel_rfl) (by simp [Value.cells]) (by omega) (by omega) gE A n cp (fl rcC l) rfl rfl HE.out (by rw [fl_length _ (rcC_len l), HSN.out]) (Rd.below HS.out.2.2.2.2 HX.out.1) (rcC_one l) (by omega) HX.out.1.size ?_
    intro vA W hA hb
    have hX : Below w.heap.size w _ ∧ Obj1 _ w.heap.size (rtC N q A n cp) 44 := ⟨bl_next HX.out.1 hb, HX.out.2.below hb⟩
    have hZ := HZ.out.below hb
    clear HZ
    have HZ := Lib.hid hZ
    clear hZ
    have hq := Rd.below HL.out hb
    clear HL
    have HL := Lib.hid hq
    clear hq
    clear HE
    have HA := Lib.hid hA
    clear hA hb
    refine hK.out _ _ (hX) (fun hHeld => ?_)
    clear HX hK K
    have HX := Lib.hid hHeld
    clear hHeld
    go_simp
    refine wpAnyH_ready (rs := [8]) (by kernel_rfl) (by simp) ?_
    refine AllReadyH.cons rfl (fun K hK => ?_) AllReadyH.nil
    refine app_step w.heap.size rfl (.tmp 25) (.tmp 28) 42 82 (.agg #[.int .i64 0, .bool false, .int .i64 0]) 3 24 rfl Try.underlying42 (by kernel_rfl) (by simp [Value.cells]) (by omega) (by omega) vA n (fl rcC l) (some ⟨gL, 0, none⟩) 1 1 (rcC ⟨k, true, 0⟩) rfl rfl HA.out (rfl) (HL.out) (rcC_one1 _) (by omega) HX.out.1.size ?_
    intro vB W hA hg
    have hX : Below w.heap.size w W ∧ Obj1 W w.heap.size (rtC N q A n cp) 44 := ⟨bl_grown HX.out.1 HA.out hg (Nat.le_refl _), HX.out.2.of_grown hg (own_neO HX.out.2 HA.out (by decide))⟩
    have hZ := HZ.out.of_grown hg (own_neO HZ.out HA.out (by decide))
    clear HZ
    have HZ := Lib.hid hZ
    clear hZ
    clear HA HL hg
    have HA := Lib.hid hA
    clear hA
    obtain ⟨A9, c9, rfl, h9, hne9⟩ := SlR.of_ownB (l := l ++ [⟨k, true, 0⟩]) (by rw [fl_app, fl_one]; exact HA.out) (by simp [HSN.out])
    have H9 := Lib.hid h9
    have HNE9 := Lib.hid (show ∀ ad, A9 = some ad → ad.block ≠ w.heap.size + 1 from fun ad e he => by
      obtain ⟨_, cs, ho⟩ := hne9 ad e
      rw [he] at ho
      have := ho.symm.trans HZ.out
      simp at this)
    have HGE9 := Lib.hid (show ∀ ad, A9 = some ad → w.heap.size ≤ ad.block from fun ad e => (hne9 ad e).1)
    clear HA h9 hne9
    refine hK.out _ _ (hX) (fun hHeld => ?_)
    clear HX hK K
    have HX := Lib.hid hHeld
    clear hHeld
    go_simp
    refine wpAnyH_ready (rs := [9]) (by kernel_rfl) (by simp) ?_
    refine AllReadyH.cons rfl (fun K hK => ?_) AllReadyH.nil
    go_simp
    refine (rwith_w N q A A9 n cp (n + 1) c9 _).mono ?_
    rintro e W ⟨rfl, hb⟩
    have hX : Below w.heap.size w _ ∧ Obj1 _ w.heap.size (rtC N q A n cp) 44 := ⟨bl_next HX.out.1 hb, HX.out.2.below hb⟩
    have hZ := HZ.out.below hb
    clear HZ
    have HZ := Lib.hid hZ
    clear hZ
    have hq := SlR.below H9.out hb
    clear H9
    have H9 := Lib.hid hq
    clear hq
    clear hb
    dsimp only
    refine hK.out _ _ (hX) (fun hHeld => ?_)
    clear HX hK K
    have HX := Lib.hid hHeld
    clear hHeld
    go_simp
    refine wpAnyH_ready (rs := [10]) (by kernel_rfl) (by simp) ?_
    refine AllReadyH.cons rfl (fun K hK => ?_) AllReadyH.nil
    refine gwanted rfl ?_
    refine wp_storeO 44 (.tmp 4) (.tmp 30) rfl (w.heap.size + 1) 44 #[.int .i64 0, .int .i64 0, .slice none 0 0] (rtC N q A9 (n + 1) c9) rfl rfl HZ.out rfl rfl (by simp [rtC, Value.oneCell']) ?_
    intro W hob hup
    have hX : Below w.heap.size w W ∧ Obj1 W w.heap.size (rtC N q A n cp) 44 := ⟨bl_upd HX.out.1 hup (by omega), HX.out.2.of_grown hup (by simp)⟩
    have h9 : SlR rcC W A9 (n + 1) c9 _ := H9.out.upd hup (fun ad e => HNE9.out ad e)
    clear HZ H9 hup
    have HZ := Lib.hid hob
    have H9 := Lib.hid h9
    clear hob h9
    refine hK.out _ _ (hX) (fun hHeld => ?_)
    clear HX hK K
    have HX := Lib.hid hHeld
    clear hHeld
    go_simp
    refine wpAnyH_take (i := 11) (v := ?_) rfl (by kernel_rfl) (by kernel_rfl) (by kernel_rfl) (fun _ _ _ h => h) (Or.inl ⟨by rfl, ?_⟩) HX.out ?_
    rotate_left
    · intro w' hSw; go_simp
      try with_reducible rfl
    go_simp
    refine wpAnyH_done (by kernel_rfl) ?_ _
    go_wp2_with fail
    refine bodyPost_ret (v := .tuple #[.agg (rtC N q A9 (n + 1) c9), .bool true]) (results_cell2 (p := 4) (u := 5) rfl _ _ _ (w.heap.size + 1) _ rfl (run_loadVar_row (P := Try.prog) _ (w.heap.size + 1) 44 44 (rtC N q A9 (n + 1) c9) (0, 0) _ HZ.out Try.underlying44 rfl rfl)) rfl ?_
    exact ⟨A9, c9, rfl, H9.out, HGE9.out, HX.out.1⟩
  refine AllReadyH.cons rfl (fun K hK => ?_) AllReadyH.nil
  go_simp
  have hL := lit_rd W (rcC ⟨k, true, 0⟩) 82
  have hb := bl_alloc (Below.refl W.heap.size W) (.cells (rcC ⟨k, true, 0⟩).toArray 82)
  obtain ⟨gL, hgL⟩ : ∃ gL, gL = W.heap.size := ⟨_, rfl⟩
  rw [← hgL] at hL
  change K _ (W.alloc (.cells (rcC ⟨k, true, 0⟩).toArray 82))
  rw [← hgL]
  generalize hWn : World.alloc _ _ = W at hL hb ⊢
  clear hWn hgL
  have hX : Below w.heap.size w _ ∧ Obj1 _ w.heap.size (rtC N q A n cp) 44 := ⟨bl_next HX.out.1 hb, HX.out.2.below hb⟩
  have hZ := HZ.out.below hb
  clear HZ
  have HZ := Lib.hid hZ
  clear hZ
  have HL := Lib.hid hL
  clear hL hb
  refine hK.out _ _ (hX) (fun hHeld => ?_)
  clear HX hK K
  have HX := Lib.hid hHeld
  clear hHeld
  go_simp
  refine wpAnyH_ready (rs := [1]) (by kernel_rfl) (by simp) ?_
  refine AllReadyH.cons rfl (fun K hK => ?_) AllReadyH.nil
  go_simp
  have hE := own_nil W w.heap.size 82 3 HX.out.1.size
  have hb := bl_alloc (Below.refl W.heap.size W) (.cells #[] 82)
  obtain ⟨gE, hgE⟩ : ∃ gE, gE = W.heap.size := ⟨_, rfl⟩
  rw [← hgE] at hE
  rw [← hgE]
  generalize hWn : World.alloc _ _ = W at hE hb ⊢
  clear hWn hgE
  have hX : Below w.heap.size w _ ∧ Obj1 _ w.heap.size (rtC N q A n cp) 44 := ⟨bl_next HX.out.1 hb, HX.out.2.below hb⟩
  have hZ := HZ.out.below hb
  clear HZ
  have HZ := Lib.hid hZ
  clear hZ
  have hq := Rd.below HL.out hb
  clear HL
  have HL := Lib.hid hq
  clear hq
  have HE := Lib.hid hE
  clear hE hb
  refine hK.out _ _ (hX) (fun hHeld => ?_)
  clear HX hK K
  have HX := Lib.hid hHeld
  clear hHeld
  go_simp
  refine wpAnyH_ready (rs := [4]) (by kernel_rfl) (by simp) ?_
  refine AllReadyH.cons rfl (fun K hK => ?_) AllReadyH.nil
  refine app_new_step w.heap.size rfl (.tmp 22) (.tmp 24) 42 82 (.agg #[.int .i64 0, .bool false, .int .i64 0]) 3 24 rfl Try.underlying42 (by kernel_rfl) (by simp [Value.cells]) (by omega) (by omega) gE A n cp (fl rcC l) rfl rfl HE.out (by rw [fl_length _ (rcC_len l), HSN.out]) (Rd.below HS.out.2.2.2.2 HX.out.1) (rcC_one l) (by omega) HX.out.1.size ?_
  intro vA W hA hb
  have hX : Below w.heap.size w _ ∧ Obj1 _ w.heap.size (rtC N q A n cp) 44 := ⟨bl_next HX.out.1 hb, HX.out.2.below hb⟩
  have hZ := HZ.out.below hb
  clear HZ
  have HZ := Lib.hid hZ
  clear hZ
  have hq := Rd.below HL.out hb
  clear HL
  have HL := Lib.hid hq
  clear hq
  clear HE
  have HA := Lib.hid hA
  clear hA hb
  refine hK.out _ _ (hX) (fun hHeld => ?_)
  clear HX hK K
  have HX := Lib.hid hHeld
  clear hHeld
  go_simp
  refine wpAnyH_ready (rs := [8]) (by kernel_rfl) (by simp) ?_
  refine AllReadyH.cons rfl (fun K hK => ?_) AllReadyH.nil
  refine app_step w.heap.size rfl (.tmp 25) (.tmp 28) 42 82 (.agg #[.int .i64 0, .bool false, .int .i64 0]) 3 24 rfl Try.underlying42 (by kernel_rfl) (by simp [Value.cells]) (by omega) (by omega) vA n (fl rcC l) (some ⟨gL, 0, none⟩) 1 1 (rcC ⟨k, true, 0⟩) rfl rfl HA.out (rfl) (HL.out) (rcC_one1 _) (by omega) HX.out.1.size ?_
  intro vB W hA hg
  have hX : Below w.heap.size w W ∧ Obj1 W w.heap.size (rtC N q A n cp) 44 := ⟨bl_grown HX.out.1 HA.out hg (Nat.le_refl _), HX.out.2.of_grown hg (own_neO HX.out.2 HA.out (by decide))⟩
  have hZ := HZ.out.of_grown hg (own_neO HZ.out HA.out (by decide))
  clear HZ
  have HZ := Lib.hid hZ
  clear hZ
  clear HA HL hg
  have HA := Lib.hid hA
  clear hA
  obtain ⟨A9, c9, rfl, h9, hne9⟩ := SlR.of_ownB (l := l ++ [⟨k, true, 0⟩]) (by rw [fl_app, fl_one]; exact HA.out) (by simp [HSN.out])
  have H9 := Lib.hid h9
  have HNE9 := Lib.hid (show ∀ ad, A9 = some ad → ad.block ≠ w.heap.size + 1 from fun ad e he => by
    obtain ⟨_, cs, ho⟩ := hne9 ad e
    rw [he] at ho
    have := ho.symm.trans HZ.out
    simp at this)
  have HGE9 := Lib.hid (show ∀ ad, A9 = some ad → w.heap.size ≤ ad.block from fun ad e => (hne9 ad e).1)
  clear HA h9 hne9
  refine hK.out _ _ (hX) (fun hHeld => ?_)
  clear HX hK K
  have HX := Lib.hid hHeld
  clear hHeld
  go_simp
  refine wpAnyH_ready (rs := [9]) (by kernel_rfl) (by simp) ?_
  refine AllReadyH.cons rfl (fun K hK => ?_) AllReadyH.nil
  go_simp
  refine (rwith_w N q A A9 n cp (n + 1) c9 _).mono ?_
  rintro e W ⟨rfl, hb⟩
  have hX : Below w.heap.size w _ ∧ Obj1 _ w.heap.size (rtC N q A n cp) 44 := ⟨bl_next HX.out.1 hb, HX.out.2.below hb⟩
  have hZ := HZ.out.below hb
  clear HZ
  have HZ := Lib.hid hZ
  clear hZ
  have hq := SlR.below H9.out hb
  clear H9
  have H9 := Lib.hid hq
  clear hq
  clear hb
  dsimp only
  refine hK.out _ _ (hX) (fun hHeld => ?_)
  clear HX hK K
  have HX := Lib.hid hHeld
  clear hHeld
  go_simp
  refine wpAnyH_ready (rs := [10]) (by kernel_rfl) (by simp) ?_
  refine AllReadyH.cons rfl (fun K hK => ?_) AllReadyH.nil
  refine gwanted rfl ?_
  refine wp_storeO 44 (.tmp 4) (.tmp 30) rfl (w.heap.size + 1) 44 #[.int .i64 0, .int .i64 0, .slice none 0 0] (rtC N q A9 (n + 1) c9) rfl rfl HZ.out rfl rfl (by simp [rtC, Value.oneCell']) ?_
  intro W hob hup
  have hX : Below w.heap.size w W ∧ Obj1 W w.heap.size (rtC N q A n cp) 44 := ⟨bl_upd HX.out.1 hup (by omega), HX.out.2.of_grown hup (by simp)⟩
  have h9 : SlR rcC W A9 (n + 1) c9 _ := H9.out.upd hup (fun ad e => HNE9.out ad e)
  clear HZ H9 hup
  have HZ := Lib.hid hob
  have H9 := Lib.hid h9
  clear hob h9
  refine hK.out _ _ (hX) (fun hHeld => ?_)
  clear HX hK K
  have HX := Lib.hid hHeld
  clear hHeld
  go_simp
  refine wpAnyH_take (i := 11) (v := ?_) rfl (by kernel_rfl) (by kernel_rfl) (by kernel_rfl) (fun _ _ _ h => h) (Or.inl ⟨by rfl, ?_⟩) HX.out ?_
  rotate_left
  · intro w' hSw; go_simp
    try with_reducible rfl
  go_simp
  refine wpAnyH_done (by kernel_rfl) ?_ _
  go_wp2_with fail
  refine bodyPost_ret (v := .tuple #[.agg (rtC N q A9 (n + 1) c9), .bool true]) (results_cell2 (p := 4) (u := 5) rfl _ _ _ (w.heap.size + 1) _ rfl (run_loadVar_row (P := Try.prog) _ (w.heap.size + 1) 44 44 (rtC N q A9 (n + 1) c9) (0, 0) _ HZ.out Try.underlying44 rfl rfl)) rfl ?_
  exact ⟨A9, c9, rfl, H9.out, HGE9.out, HX.out.1⟩

set_option maxRecDepth 100000 in
set_option maxHeartbeats 2000000 in
theorem rsleepNo_w (N q : Int) (A : Option Addr) (n cp : Nat) (l : List RC) (hn : n ≤ 1000) (c : Int) (hat : ¬ atN l c < l.length) (w : World) (h : SlR rcC w A n cp l) :
    Calls Try.prog 19 #[.agg (rtC N q A n cp), .int .i64 c] w fun e w' => (e = .returned (.tuple #[.agg (rtC N q A n cp), .bool false]) ∧ Below w.heap.size w w') := by
  have HV := Lib.hid (show atV l c = -1 by unfold atV; rw [if_neg hat])
  clear hat
  have HS := Lib.hid h
  obtain ⟨W, hW⟩ : ∃ W, W = (w.alloc (.cells (rtC N q A n cp) 44)).alloc (.cells #[.int .i64 0, .int .i64 0, .slice none 0 0] 44) := ⟨_, rfl⟩
  have HB := Lib.hid (show Below w.heap.size w W by rw [hW]; exact bl_alloc (bl_alloc (Below.refl w.heap.size w) _) _)
  have HO := Lib.hid (show Obj1 W w.heap.size (rtC N q A n cp) 44 by rw [hW]; exact (Obj1.new w _ _).alloc _)
  have HZ := Lib.hid (show Obj1 W (w.heap.size + 1) #[.int .i64 0, .int .i64 0, .slice none 0 0] 44 by
    rw [hW]
    have := Obj1.new (w.alloc (.cells (rtC N q A n cp) 44)) #[.int .i64 0, .int .i64 0, .slice none 0 0] 44
    rwa [World.size_alloc] at this)
  have HW := Lib.hid hW
  have HSN := Lib.hid h.1
  have hnc := h.2.1
  clear hW h
  go_enter Try.func19, Try.ntmps19
  go_upto_region 1 with (fail)
  rw [← HW.out]
  clear HW
  go_wp2_with (refine load_obj rfl 44 (.tmp 2) rfl w.heap.size 44 (rtC N q A n cp) _ rfl HO.out Try.underlying44 rfl rfl ?_)
  refine (rat_w N q A n cp l c hn _ (HS.out.below HB.out)).mono ?_
  rintro e w2 ⟨rfl, hb2⟩
  have HO2 := Lib.hid (HO.out.below hb2)
  have HZ2 := Lib.hid (HZ.out.below hb2)
  have HB2 := Lib.hid (bl_next HB.out hb2)
  clear HO HZ HB hb2
  have HO := HO2
  have HZ := HZ2
  have HB := HB2
  clear HO2 HZ2 HB2
  rw [HV.out]
  go_wp2_with (first | (refine load_obj rfl 44 (.tmp 2) rfl w.heap.size 44 (rtC N q A n cp) _ rfl HO.out Try.underlying44 rfl rfl ?_) | (refine store_obj rfl 44 (.tmp 4) (.tmp 12) rfl (w.heap.size + 1) 44 _ (rtC N q A n cp) rfl rfl HZ.out rfl rfl (by simp [rtC, Value.oneCell']) ?_; intro w3 ho3 hu3; have HZ3 := Lib.hid ho3; have HB3 := Lib.hid (bl_upd HB.out hu3 (by omega)); clear ho3 hu3))
  refine bodyPost_ret (v := .tuple #[.agg (rtC N q A n cp), .bool false]) (results_cell2 (p := 4) (u := 5) rfl _ _ _ (w.heap.size + 1) _ rfl (run_loadVar_row (P := Try.prog) _ (w.heap.size + 1) 44 44 (rtC N q A n cp) (0, 0) _ HZ3.out Try.underlying44 rfl rfl)) rfl ?_
  exact ⟨rfl, HB3.out⟩

set_option maxRecDepth 100000 in
set_option maxHeartbeats 2000000 in
theorem rsleepYes_w (N q : Int) (A : Option Addr) (n cp : Nat) (l : List RC) (hn : n ≤ 1000) (c : Int) (hat : atN l c < l.length) (w : World) (h : SlR rcC w A n cp l) :
    Calls Try.prog 19 #[.agg (rtC N q A n cp), .int .i64 c] w fun e w' => ∃ A1 n1 c1, e = .returned (.tuple #[.agg (rtC N q A1 n1 c1), .bool true]) ∧ SlR rcC w' A1 n1 c1 (l.eraseIdx (atN l c)) ∧ (∀ ad, A1 = some ad → w.heap.size ≤ ad.block) ∧ Below w.heap.size w w' := by
  obtain ⟨k, hk⟩ : ∃ k, atN l c = k := ⟨_, rfl⟩
  have HV := Lib.hid (show atV l c = (k : Int) by unfold atV; rw [if_pos hat, hk])
  rw [hk] at hat ⊢
  have hkn : k < n := by rw [← h.1]; exact hat
  have hk0 : (0 : Int) ≤ (k : Int) := Int.natCast_nonneg k
  have hk1 : (k : Int) ≤ (cp : Int) := by have := h.2.1; omega
  have a1 : IntKind.i64.wrap ((k : Int) + 1) = (k : Int) + 1 := IntWalk.i64_in _ (by omega)
  have HRT := Lib.hid (show Rd w A (fl rcC (l.take k)) by rw [← fl_take l (rcC_len l) k (by omega)]; exact h.2.2.2.2.take _)
  obtain ⟨A2, hcut2, hrd2⟩ := cut_from (P := Try.prog) 42 82 3 Try.underlying42 (by kernel_rfl) A n cp (k + 1) (by omega) h.2.1
  have HRU := Lib.hid (show Rd w A2 (fl rcC (l.drop (k + 1))) by rw [← fl_drop l (rcC_len l) (k + 1) (by omega)]; exact hrd2 w _ (by rw [fl_length l (rcC_len l), h.1]) h.2.2.2.2)
  have hcutB : ∀ W : World, (Instr.slice 42 (.slice A n cp) (some (.int .i64 ((k : Int) + 1))) none none).run Try.prog W = .ok (.slice A2 (n - (k + 1)) (cp - (k + 1))) W := fun W => hcut2 W .i64
  have hcutA : ∀ W : World, (Instr.slice 42 (.slice A n cp) none (some (.int .i64 (k : Int))) none).run Try.prog W = .ok (.slice A k cp) W := fun W => cut_to 42 82 3 Try.underlying42 (by kernel_rfl) A n cp k (by omega) W .i64
  have HE := Lib.hid (show l.eraseIdx k = l.take k ++ l.drop (k + 1) from List.eraseIdx_eq_take_drop_succ ..)
  rw [HE.out]
  clear hk hat hcut2 hrd2
  have HS := Lib.hid h
  obtain ⟨W, hW⟩ : ∃ W, W = (w.alloc (.cells (rtC N q A n cp) 44)).alloc (.cells #[.int .i64 0, .int .i64 0, .slice none 0 0] 44) := ⟨_, rfl⟩
  have HB := Lib.hid (show Below w.heap.size w W by rw [hW]; exact bl_alloc (bl_alloc (Below.refl w.heap.size w) _) _)
  have HO := Lib.hid (show Obj1 W w.heap.size (rtC N q A n cp) 44 by rw [hW]; exact (Obj1.new w _ _).alloc _)
  have HZ := Lib.hid (show Obj1 W (w.heap.size + 1) #[.int .i64 0, .int .i64 0, .slice none 0 0] 44 by
    rw [hW]
    have := Obj1.new (w.alloc (.cells (rtC N q A n cp) 44)) #[.int .i64 0, .int .i64 0, .slice none 0 0] 44
    rwa [World.size_alloc] at this)
  have HW := Lib.hid hW
  have HSN := Lib.hid h.1
  have hnc := h.2.1
  clear hW h
  go_enter Try.func19, Try.ntmps19
  go_upto_region 1 with (fail)
  rw [← HW.out]
  clear HW
  go_wp2_with (refine load_obj rfl 44 (.tmp 2) rfl w.heap.size 44 (rtC N q A n cp) _ rfl HO.out Try.underlying44 rfl rfl ?_)
  refine (rat_w N q A n cp l c hn _ (HS.out.below HB.out)).mono ?_
  rintro e w2 ⟨rfl, hb2⟩
  have HO2 := Lib.hid (HO.out.below hb2)
  have HZ2 := Lib.hid (HZ.out.below hb2)
  have HB2 := Lib.hid (bl_next HB.out hb2)
  clear HO HZ HB hb2
  have HO := HO2
  have HZ := HZ2
  have HB := HB2
  clear HO2 HZ2 HB2
  rw [HV.out]
  go_wp2_with fail
  refine wp_region_held_drew (S := fun w' => Below w.heap.size w w' ∧ Obj1 w' w.heap.size (rtC N q A n cp) 44) (by kernel_rfl) (⟨HB.out.drew, HO.out⟩) (fun hHeld => ?_)
  have HX := Lib.hid hHeld
  clear hHeld
  generalize hWd : World.drew _ = W at HX ⊢
  have hZ : Obj1 W (w.heap.size + 1) #[.int .i64 0, .int .i64 0, .slice none 0 0] 44 := by rw [← hWd]; exact HZ.out
  clear HZ hWd
  have HZ := Lib.hid hZ
  clear hZ
  refine wpAnyH_take (i := 0) (v := .agg (rtC N q A n cp)) rfl (by kernel_rfl) (by kernel_rfl) (by kernel_rfl) (fun _ _ _ h => h) (Or.inl ⟨by rfl, ?_⟩) HX.out ?_
  · intro w' hSw
    have hld := run_loadVar_row (P := Try.prog) w' w.heap.size 44 44 (rtC N q A n cp) (0, 0) _ hSw.2 Try.underlying44 rfl rfl
    simp [execOp, Act.eval, Instr.loadAt, Instr.sureAddr, Sem.run_bind, hld, Result.andThen]
  go_simp
  refine wpAnyH_take (i := 2) (v := ?_) rfl (by kernel_rfl) (by kernel_rfl) (by kernel_rfl) (fun _ _ _ h => h) (Or.inl ⟨by rfl, ?_⟩) HX.out ?_
  rotate_left
  · intro w' hSw; go_simp
    try with_reducible rfl
  go_simp
  refine wpAnyH_take (i := 3) (v := ?_) rfl (by kernel_rfl) (by kernel_rfl) (by kernel_rfl) (fun _ _ _ h => h) (Or.inl ⟨by rfl, ?_⟩) HX.out ?_
  rotate_left
  · intro w' hSw; have c2 : w'.cell? ⟨w.heap.size, 2, none⟩ = some (.slice A n cp) := hSw.2.cell 2; go_simp
    try with_reducible rfl
  go_simp
  refine wpAnyH_take (i := 4) (v := ?_) rfl (by kernel_rfl) (by kernel_rfl) (by kernel_rfl) (fun _ _ _ h => h) (Or.inl ⟨by rfl, ?_⟩) HX.out ?_
  rotate_left
  · intro w' hSw; go_simp
    try with_reducible rfl
  go_simp
  refine wpAnyH_take (i := 5) (v := ?_) rfl (by kernel_rfl) (by kernel_rfl) (by kernel_rfl) (fun _ _ _ h => h) (Or.inl ⟨by rfl, ?_⟩) HX.out ?_
  rotate_left
  · intro w' hSw; go_simp
    try with_reducible rfl
  go_simp
  refine wpAnyH_take (i := 7) (v := ?_) rfl (by kernel_rfl) (by kernel_rfl) (by kernel_rfl) (fun _ _ _ h => h) (Or.inl ⟨by rfl, ?_⟩) HX.out ?_
  rotate_left
  · intro w' hSw; go_simp
    try with_reducible rfl
  go_simp
  refine wpAnyH_take (i := 8) (v := ?_) rfl (by kernel_rfl) (by kernel_rfl) (by kernel_rfl) (fun _ _ _ h => h) (Or.inl ⟨by rfl, ?_⟩) HX.out ?_
  rotate_left
  · intro w' hSw; have c2 : w'.cell? ⟨w.heap.size, 2, none⟩ = some (.slice A n cp) := hSw.2.cell 2; go_simp
    try with_reducible rfl
  go_simp
  refine wpAnyH_take (i := 9) (v := ?_) rfl (by kernel_rfl) (by kernel_rfl) (by kernel_rfl) (fun _ _ _ h => h) (Or.inl ⟨by rfl, ?_⟩) HX.out ?_
  rotate_left
  · intro w' hSw; go_simp
    try with_reducible rfl
  go_simp
  refine wpAnyH_take (i := 10) (v := ?_) rfl (by kernel_rfl) (by kernel_rfl) (by kernel_rfl) (fun _ _ _ h => h) (Or.inl ⟨by rfl, ?_⟩) HX.out ?_
  rotate_left
  · intro w' hSw; go_simp
    try with_reducible rfl
  go_simp
  refine wpAnyH_take (i := 11) (v := ?_) rfl (by kernel_rfl) (by kernel_rfl) (by kernel_rfl) (fun _ _ _ h => h) (Or.inl ⟨by rfl, ?_⟩) HX.out ?_
  rotate_left
  · intro w' hSw; go_simp
    try with_reducible rfl
  go_simp
  refine wpAnyH_ready (rs := [1]) (by kernel_rfl) (by simp) ?_
  refine AllReadyH.cons rfl (fun K hK => ?_) AllReadyH.nil
  go_simp
  have hE := own_nil W w.heap.size 82 3 HX.out.1.size
  have hb := bl_alloc (Below.refl W.heap.size W) (.cells #[] 82)
  obtain ⟨gE, hgE⟩ : ∃ gE, gE = W.heap.size := ⟨_, rfl⟩
  rw [← hgE] at hE
  rw [← hgE]
  generalize hWn : World.alloc _ _ = W at hE hb ⊢
  clear hWn hgE
  have hX : Below w.heap.size w _ ∧ Obj1 _ w.heap.size (rtC N q A n cp) 44 := ⟨bl_next HX.out.1 hb, HX.out.2.below hb⟩
  have hZ := HZ.out.below hb
  clear HZ
  have HZ := Lib.hid hZ
  clear hZ
  have HE := Lib.hid hE
  clear hE hb
  refine hK.out _ _ (hX) (fun hHeld => ?_)
  clear HX hK K
  have HX := Lib.hid hHeld
  clear hHeld
  go_simp
  refine wpAnyH_ready (rs := [6]) (by kernel_rfl) (by simp) ?_
  refine AllReadyH.cons rfl (fun K hK => ?_) AllReadyH.nil
  refine app_new_step w.heap.size rfl (.tmp 14) (.tmp 18) 42 82 (.agg #[.int .i64 0, .bool false, .int .i64 0]) 3 24 rfl Try.underlying42 (by kernel_rfl) (by simp [Value.cells]) (by omega) (by omega) gE A k cp (fl rcC (l.take k)) rfl rfl HE.out (by rw [fl_length _ (rcC_len _), List.length_take, Nat.min_eq_left (by have := HSN.out; omega)]) ((Rd.below HRT.out HX.out.1)) (rcC_one _) (by omega) HX.out.1.size ?_
  intro vA W hA hb
  have hX : Below w.heap.size w _ ∧ Obj1 _ w.heap.size (rtC N q A n cp) 44 := ⟨bl_next HX.out.1 hb, HX.out.2.below hb⟩
  have hZ := HZ.out.below hb
  clear HZ
  have HZ := Lib.hid hZ
  clear hZ
  clear HE
  have HA := Lib.hid hA
  clear hA hb
  refine hK.out _ _ (hX) (fun hHeld => ?_)
  clear HX hK K
  have HX := Lib.hid hHeld
  clear hHeld
  go_simp
  refine wpAnyH_ready (rs := [12]) (by kernel_rfl) (by simp) ?_
  refine AllReadyH.cons rfl (fun K hK => ?_) AllReadyH.nil
  refine app_step w.heap.size rfl (.tmp 19) (.tmp 24) 42 82 (.agg #[.int .i64 0, .bool false, .int .i64 0]) 3 24 rfl Try.underlying42 (by kernel_rfl) (by simp [Value.cells]) (by omega) (by omega) vA k (fl rcC (l.take k)) A2 (n - (k + 1)) (cp - (k + 1)) (fl rcC (l.drop (k + 1))) rfl rfl HA.out (by rw [fl_length _ (rcC_len _), List.length_drop, HSN.out]) ((Rd.below HRU.out HX.out.1)) (rcC_one _) (by omega) HX.out.1.size ?_
  intro vB W hA hg
  have hX : Below w.heap.size w W ∧ Obj1 W w.heap.size (rtC N q A n cp) 44 := ⟨bl_grown HX.out.1 HA.out hg (Nat.le_refl _), HX.out.2.of_grown hg (own_neO HX.out.2 HA.out (by decide))⟩
  have hZ := HZ.out.of_grown hg (own_neO HZ.out HA.out (by decide))
  clear HZ
  have HZ := Lib.hid hZ
  clear hZ
  clear HA hg
  have HA := Lib.hid hA
  clear hA
  obtain ⟨A9, c9, rfl, h9, hne9⟩ := SlR.of_ownB (l := l.take k ++ l.drop (k + 1)) (by rw [fl_app]; exact HA.out) (by rw [List.length_append, List.length_take, List.length_drop, HSN.out, Nat.min_eq_left (by have := HSN.out; omega)])
  have H9 := Lib.hid h9
  have HNE9 := Lib.hid (show ∀ ad, A9 = some ad → ad.block ≠ w.heap.size + 1 from fun ad e he => by
    obtain ⟨_, cs, ho⟩ := hne9 ad e
    rw [he] at ho
    have := ho.symm.trans HZ.out
    simp at this)
  have HGE9 := Lib.hid (show ∀ ad, A9 = some ad → w.heap.size ≤ ad.block from fun ad e => (hne9 ad e).1)
  clear HA h9 hne9
  refine hK.out _ _ (hX) (fun hHeld => ?_)
  clear HX hK K
  have HX := Lib.hid hHeld
  clear hHeld
  go_simp
  refine wpAnyH_ready (rs := [13]) (by kernel_rfl) (by simp) ?_
  refine AllReadyH.cons rfl (fun K hK => ?_) AllReadyH.nil
  go_simp
  refine (rwith_w N q A A9 n cp (k + (n - (k + 1))) c9 _).mono ?_
  rintro e W ⟨rfl, hb⟩
  have hX : Below w.heap.size w _ ∧ Obj1 _ w.heap.size (rtC N q A n cp) 44 := ⟨bl_next HX.out.1 hb, HX.out.2.below hb⟩
  have hZ := HZ.out.below hb
  clear HZ
  have HZ := Lib.hid hZ
  clear hZ
  have hq := SlR.below H9.out hb
  clear H9
  have H9 := Lib.hid hq
  clear hq
  clear hb
  dsimp only
  refine hK.out _ _ (hX) (fun hHeld => ?_)
  clear HX hK K
  have HX := Lib.hid hHeld
  clear hHeld
  go_simp
  refine wpAnyH_ready (rs := [14]) (by kernel_rfl) (by simp) ?_
  refine AllReadyH.cons rfl (fun K hK => ?_) AllReadyH.nil
  refine gwanted rfl ?_
  refine wp_storeO 44 (.tmp 4) (.tmp 26) rfl (w.heap.size + 1) 44 #[.int .i64 0, .int .i64 0, .slice none 0 0] (rtC N q A9 (k + (n - (k + 1))) c9) rfl rfl HZ.out rfl rfl (by simp [rtC, Value.oneCell']) ?_
  intro W hob hup
  have hX : Below w.heap.size w W ∧ Obj1 W w.heap.size (rtC N q A n cp) 44 := ⟨bl_upd HX.out.1 hup (by omega), HX.out.2.of_grown hup (by simp)⟩
  have h9 : SlR rcC W A9 (k + (n - (k + 1))) c9 _ := H9.out.upd hup (fun ad e => HNE9.out ad e)
  clear HZ H9 hup
  have HZ := Lib.hid hob
  have H9 := Lib.hid h9
  clear hob h9
  refine hK.out _ _ (hX) (fun hHeld => ?_)
  clear HX hK K
  have HX := Lib.hid hHeld
  clear hHeld
  go_simp
  refine wpAnyH_take (i := 15) (v := ?_) rfl (by kernel_rfl) (by kernel_rfl) (by kernel_rfl) (fun _ _ _ h => h) (Or.inl ⟨by rfl, ?_⟩) HX.out ?_
  rotate_left
  · intro w' hSw; go_simp
    try with_reducible rfl
  go_simp
  refine wpAnyH_done (by kernel_rfl) ?_ _
  go_wp2_with fail
  refine bodyPost_ret (v := .tuple #[.agg (rtC N q A9 (k + (n - (k + 1))) c9), .bool true]) (results_cell2 (p := 4) (u := 5) rfl _ _ _ (w.heap.size + 1) _ rfl (run_loadVar_row (P := Try.prog) _ (w.heap.size + 1) 44 44 (rtC N q A9 (k + (n - (k + 1))) c9) (0, 0) _ HZ.out Try.underlying44 rfl rfl)) rfl ?_
  exact ⟨A9, _, c9, rfl, H9.out, HGE9.out, HX.out.1⟩

set_option maxRecDepth 100000 in
set_option maxHeartbeats 2000000 in
theorem rawake_w (N q : Int) (A : Option Addr) (n cp : Nat) (l : List RC) (hn : n ≤ 1000) (w : World) (h : SlR rcC w A n cp l) :
    Calls Try.prog 22 #[.agg (rtC N q A n cp)] w fun e w' => ∃ A1 c1, e = .returned (.slice A1 n c1) ∧ Rd w' A1 (lineV (l.map (·.n))) ∧ Below w.heap.size w w' := by
  obtain ⟨W, hW⟩ : ∃ W, W = w.alloc (.cells (rtC N q A n cp) 44) := ⟨_, rfl⟩
  have hb0 := bl_alloc (Below.refl w.heap.size w) (.cells (rtC N q A n cp) 44)
  have HS := Lib.hid (show SlR rcC W A n cp l by rw [hW]; exact h.below hb0)
  have HB := Lib.hid (show Below w.heap.size w W by rw [hW]; exact hb0)
  have HO := Lib.hid (show Obj1 W w.heap.size (rtC N q A n cp) 44 by rw [hW]; exact Obj1.new w _ _)
  have HW := Lib.hid hW
  have hl := h.1
  clear hW h hb0
  have c2 : W.cell? ⟨w.heap.size, 2, none⟩ = some (.slice A n cp) := HO.out.cell 2
  go_enter Try.func22, Try.ntmps22
  go_upto_region 1 with (fail)
  rw [← HW.out]
  go_wp2_with fail
  go_loopw [3, 8] (fun v i wr => ∃ (k : Nat), k ≤ n ∧ i = .int .i64 k ∧ wr.ownsRow W.heap.size 3 1 v k (lineV ((l.take k).map (·.n))) ∧ Below W.heap.size W wr) (fun _ i _ => n - (intOf i).toNat)
  case atStart => exact ⟨0, Nat.zero_le _, rfl, World.ownsRow_nil _ _ _ _, Below.refl _ _⟩
  case round =>
    obtain ⟨k, hk, rfl, hown, hbr⟩ := hrel
    have HOW := Lib.hid hown
    have HBR := Lib.hid hbr
    clear hown hbr
    have HO2 := HO.out.below HBR.out
    have c3 : wr.cell? ⟨w.heap.size, 2, none⟩ = some (.slice A n cp) := HO2.cell 2
    have HS2 := Lib.hid (HS.out.below HBR.out)
    by_cases hlt : k < n
    · obtain ⟨x, hx⟩ : ∃ x, l[k]? = some x := ⟨_, List.getElem?_eq_getElem (by omega)⟩
      obtain ⟨b, o, rfl, r0, _, _⟩ := HS2.out.rc hx
      have hk0 : (0 : Int) ≤ (k : Int) := Int.natCast_nonneg k
      have hk1 : (k : Int) < (n : Int) := by omega
      have HTK := Lib.hid (show lineV ((l.take (k + 1)).map (·.n)) = lineV ((l.take k).map (·.n)) ++ [.int .i64 (x.n : Int)] by
        obtain ⟨h1, h2⟩ := List.getElem?_eq_some_iff.1 hx
        rw [List.take_succ_eq_append_getElem h1, h2]
        simp [lineV])
      have HSZ := Lib.hid HBR.out.size
      clear hx HO2
      go_wp2_with (at_builtin; refine app_list W.heap.size rfl (.tmp 11) (.tmp 18) 32 3 (.int .i64 0) 1 8 rfl Try.underlying32 (by kernel_rfl) rfl (by omega) (by omega) _ k _ (some ⟨wr.heap.size, 0, none⟩) 1 1 [.int .i64 (x.n : Int)] rfl rfl (HOW.out.alloc _) rfl (lit_rd wr [.int .i64 (x.n : Int)] _) (by simp [Value.oneCell']) (by omega) (by have := HSZ.out; simp; omega) ?_; intro v6 w6 hown6 hg6; have HO6 := Lib.hid hown6; have HB6 := Lib.hid (bl_grown (bl_alloc HBR.out (.cells #[.int .i64 (x.n : Int)] 3)) (HOW.out.alloc _) hg6 (Nat.le_refl _)); clear hown6 hg6)
      go_roundw
      case rel => exact ⟨k + 1, by omega, by go_num, by rw [HTK.out]; exact HO6.out, HB6.out⟩
      case measure => simp [intOf]; omega
    · have hk' : k = n := by omega
      rw [hk', List.take_of_length_le (by omega)] at HOW
      rw [hk']
      obtain ⟨A1, c1, rfl, hrd⟩ := own_Rd HOW.out
      have HRD := Lib.hid hrd
      clear hrd HOW hk' hlt
      go_wp2
      go_ret
      exact ⟨A1, c1, rfl, HRD.out, bl_next HB.out HBR.out⟩

end Go.Proofs.Ytlnfenjoagkpdaa
