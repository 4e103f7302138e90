/- Whither a flow falls, as the document says. -/
import Derived.Test.YtgbdkleckmilkaaRefK
import Derived.Deep.RegionHeld3
namespace Go.Proofs.Ytgbdkleckmilkaa
open Go.RowKit
set_option linter.unusedVariables false
set_option linter.unusedSimpArgs false

theorem wanted_step {P : Program} {o : Oper} {ops : Array Oper} {a : Act} {w : World} {K : Act → World → Prop} {Q : Exit → Act → World → Prop} {E : Prop} (hgd : o.guard = none) (h : Oper.wp P o a w K Q) : if Region.wanted o (yielded ops a.tmps) = true then Oper.wp P o a w K Q else E := by
  have hw : Region.wanted o (yielded ops a.tmps) = true := by simp [Region.wanted, hgd]
  rw [if_pos hw]
  exact h

set_option maxRecDepth 100000 in
set_option maxHeartbeats 2000000 in
theorem rfall_w (key : List Int) (hk : key.length = 16) (hkb : ∀ x ∈ key, 0 ≤ x ∧ x ≤ 255) (f : Fl) (hf : okFl f) (level : Int) (hlv : 0 ≤ level ∧ level ≤ 255) (n : Int) (hn : n ≤ 9223372036854775807) (hn0 : -9223372036854775808 ≤ n) (w : World) :
    Calls Try.prog 38 #[.agg (bys key).toArray, .agg (flC f).toArray, .int .i64 level, .int .i64 n] w fun e w' => e = .returned (.int .i64 (fallV key f level n)) ∧ Below w.heap.size w w' := by
  by_cases h1 : n < 1
  · have hv : fallV key f level n = 0 := by unfold fallV; rw [if_pos h1]
    have HV := Lib.hid hv
    clear hv
    go_enter Try.func38, Try.ntmps38
    go_wp2
    go_ret
    exact ⟨by rw [HV.out]; rfl, bl_alloc (bl_alloc (Below.refl _ _) _) _⟩
  · have hv : fallV key f level n = uv (sipU key (keyB f ++ [level])) % n := by unfold fallV; rw [if_neg h1]
    have HV := Lib.hid hv
    have b1 : IntKind.u64.wrap n = n := by rw [wrap_u64]; omega
    have b0 : IntKind.u8.wrap level = level := by simp [IntKind.wrap, IntKind.bits, IntKind.signed]; omega
    have hO1 := (Obj1.new w (bys key).toArray 22).alloc (.cells (flC f).toArray 34)
    have hO2 := Obj1.new (w.alloc (.cells (bys key).toArray 22)) (flC f).toArray 34
    have hB := bl_alloc (bl_alloc (Below.refl w.heap.size w) (.cells (bys key).toArray 22)) (.cells (flC f).toArray 34)
    have e1 : (w.alloc (.cells (bys key).toArray 22)).heap.size = w.heap.size + 1 := by simp
    rw [e1] at hO2
    have HO1 := Lib.hid hO1
    have HO2 := Lib.hid hO2
    have HB := Lib.hid hB
    have HKS := Lib.hid (key_size hk)
    have HFS := Lib.hid (fl_size hf)
    clear hv hO1 hO2 hB e1
    go_enter Try.func38, Try.ntmps38
    go_wp2_with fail
    refine wp_region_held_drew (S := (fun w' => Obj1 w' w.heap.size (bys key).toArray 22 ∧ Obj1 w' (w.heap.size + 1) (flC f).toArray 34)) (by kernel_rfl) (⟨HO1.out.drewN 1, HO2.out.drewN 1⟩) (fun hHeld => ?_)
    refine wpAnyH_take (i := 0) (v := .agg (bys key).toArray) rfl (by kernel_rfl) (by kernel_rfl) (by kernel_rfl) (fun _ _ _ h => h) (Or.inl ⟨by rfl, ?_⟩) (by assumption) ?_
    · intro w' hSw
      have hld := run_loadVar_row (P := Try.prog) w' w.heap.size 22 22 (bys key).toArray (0, 0) _ hSw.1 Try.underlying22 rfl HKS.out
      simp [execOp, Act.eval, Instr.loadAt, Instr.sureAddr, Sem.run_bind, hld, Result.andThen]
    go_simp
    refine wpAnyH_take (i := 1) (v := .agg (flC f).toArray) rfl (by kernel_rfl) (by kernel_rfl) (by kernel_rfl) (fun _ _ _ h => h) (Or.inl ⟨by rfl, ?_⟩) (by assumption) ?_
    · intro w' hSw
      have hld := run_loadVar_row (P := Try.prog) w' (w.heap.size + 1) 34 34 (flC f).toArray (0, 0) _ hSw.2 Try.underlying34 rfl HFS.out
      simp [execOp, Act.eval, Instr.loadAt, Instr.sureAddr, Sem.run_bind, hld, Result.andThen]
    go_simp
    refine wpAnyH_take (i := 3) (v := ?_) rfl (by kernel_rfl) (by kernel_rfl) (by kernel_rfl) (fun _ _ _ h => h) (Or.inl ⟨by rfl, ?_⟩) (by assumption) ?_
    rotate_left
    · intro w hSw; (try dsimp only at hSw); go_simp
      try with_reducible rfl
    refine wpAnyH_take (i := 4) (v := ?_) rfl (by kernel_rfl) (by kernel_rfl) (by kernel_rfl) (fun _ _ _ h => h) (Or.inl ⟨by rfl, ?_⟩) (by assumption) ?_
    rotate_left
    · intro w hSw; (try dsimp only at hSw); go_simp
      try with_reducible rfl
    go_simp
    refine wpAnyH_take (i := 8) (v := ?_) rfl (by kernel_rfl) (by kernel_rfl) (by kernel_rfl) (fun _ _ _ h => h) (Or.inl ⟨by rfl, ?_⟩) (by assumption) ?_
    rotate_left
    · intro w hSw; (try dsimp only at hSw); go_simp
      try with_reducible rfl
    refine wpAnyH_take (i := 9) (v := ?_) rfl (by kernel_rfl) (by kernel_rfl) (by kernel_rfl) (fun _ _ _ h => h) (Or.inl ⟨by rfl, ?_⟩) (by assumption) ?_
    rotate_left
    · intro w hSw; (try dsimp only at hSw); go_simp
      try with_reducible rfl
    go_simp
    generalize hW0 : World.drew _ = W0 at hHeld ⊢
    have HB0 : Below w.heap.size w W0 := by rw [← hW0]; exact HB.out.drew
    have HX := Lib.hid hHeld
    clear hW0 hHeld HO1 HO2 HB HKS HFS
    obtain ⟨L, hL⟩ : ∃ L, (keyB f).length = L := ⟨_, rfl⟩
    have hLb : L ≤ 1000 := by
      have h1 := keyB_length hf
      have h4 : flN f = 16 ∨ flN f = 4 := by unfold flN; split <;> simp
      omega
    have HL := Lib.hid hL
    have HKB := Lib.hid (keyB_byte hf)
    clear hL
    refine wpAnyH_ready (rs := [2, 5]) (by kernel_rfl) (by simp) ?_
    refine AllReadyH.cons rfl (fun K hK => ?_) (AllReadyH.cons rfl (fun K hK => ?_) AllReadyH.nil)
    · go_simp
      refine (rkey_w f hf L HL.out _).mono ?_
      rintro e W1 ⟨v, rfl, hown, hb1⟩
      obtain ⟨A', c', rfl, _⟩ := own_Rd hown
      dsimp only
      refine hK.out _ _ (⟨HX.out.1.below hb1, HX.out.2.below hb1⟩) (fun hHeld => ?_)
      clear hK K
      go_simp
      refine wpAnyH_ready (rs := [5]) (by kernel_rfl) (by simp) ?_
      refine AllReadyH.cons rfl (fun K hK => ?_) AllReadyH.nil
      go_simp
      refine hK.out _ _ (⟨hHeld.1.alloc _, hHeld.2.alloc _⟩) (fun hHeld => ?_)
      clear hK K
      go_simp
      obtain ⟨B15, hB15⟩ : ∃ B15, B15 = W1.heap.size := ⟨_, rfl⟩
      obtain ⟨Bb, hBb⟩ : ∃ Bb, Bb = W0.heap.size := ⟨_, rfl⟩
      rw [← hBb] at hown
      have hrd2 := SlI.one1 W1 level 5 hlv
      have how2 := hown.alloc (.cells #[.int .u8 level] 5)
      have hbb := bl_alloc (bl_next HB0 hb1) (.cells #[.int .u8 level] 5)
      have hbw : w.heap.size ≤ Bb := by rw [hBb]; exact HB0.size
      have hbs : Bb ≤ W1.heap.size := by rw [hBb]; exact hb1.size
      have hsz : W1.heap.size ≤ (World.alloc W1 (.cells #[.int .u8 level] 5)).heap.size := by simp
      generalize hW3 : World.alloc W1 _ = W3 at hHeld ⊢
      rw [hW3] at hrd2 how2 hbb hsz
      rw [← hB15] at hrd2 ⊢
      have hbs3 : Bb ≤ W3.heap.size := by omega
      have HRD := Lib.hid hrd2
      have HOW := Lib.hid how2
      have HB3 := Lib.hid hbb
      have HX1 := Lib.hid hHeld.1
      have HX2 := Lib.hid hHeld.2
      clear hrd2 how2 hbb hHeld hW3 hown hb1 hB15 hBb hsz hbs
      refine wpAnyH_ready (rs := [6]) (by kernel_rfl) (by simp) ?_
      refine AllReadyH.cons rfl (fun K hK => ?_) AllReadyH.nil
      refine app_step Bb rfl (.tmp 13) (.tmp 16) 23 5 (.int .u8 0) 1 1 rfl Try.underlying23 (by kernel_rfl) rfl (by omega) (by omega) (.slice A' L c') L (bys (keyB f)) (some ⟨B15, 0, none⟩) 1 1 (bys [level]) rfl rfl HOW.out rfl HRD.out (bys_one _) (by omega) hbs3 ?_
      intro v4 W4 hown4 hg4
      have hn1 := own_ne HX1.out HOW.out (by decide)
      have hn2 := own_ne HX2.out HOW.out (by decide)
      rw [← bys_append] at hown4
      have hlen : (keyB f ++ [level]).length = L + 1 := by rw [List.length_append, HL.out]; rfl
      have hby : ∀ x ∈ keyB f ++ [level], 0 ≤ x ∧ x ≤ 255 := fun x hx => by
        rcases List.mem_append.1 hx with h | h
        · exact HKB.out x h
        · simp at h; subst h; exact hlv
      obtain ⟨A4, c4, rfl, hs4⟩ := SlI.ownedB hown4 hlen hby
      refine hK.out _ _ (⟨HX1.out.of_grown hg4 hn1, HX2.out.of_grown hg4 hn2⟩) (fun hHeld => ?_)
      clear hK K
      have HB4 := Lib.hid (bl_grown HB3.out HOW.out hg4 hbw)
      have HS4 := Lib.hid hs4
      have HX4 := Lib.hid hHeld
      clear hn1 hn2 hown4 hg4 hs4 hHeld hlen hby
      go_simp
      refine wpAnyH_ready (rs := [7]) (by kernel_rfl) (by simp) ?_
      refine AllReadyH.cons rfl (fun K hK => ?_) AllReadyH.nil
      go_simp
      refine (rsum_w key hk hkb A4 (L + 1) c4 _ (by omega) _ HS4.out).mono ?_
      rintro e W5 ⟨rfl, hb5⟩
      have HB5 := Lib.hid (bl_next HB4.out hb5)
      dsimp only
      refine hK.out _ _ (⟨HX4.out.1.below hb5, HX4.out.2.below hb5⟩) (fun hHeld => ?_)
      clear hK K hb5
      obtain ⟨X, hX⟩ : ∃ X, uv (sipU key (keyB f ++ [level])) = X := ⟨_, rfl⟩
      have hX0 : 0 ≤ X ∧ X < 18446744073709551616 := hX ▸ uv_range _
      have hm0 := Int.emod_nonneg X (show n ≠ 0 by omega)
      have hm1 := Int.emod_lt_of_pos X (show 0 < n by omega)
      have b2 : IntKind.i64.wrap (X % n) = X % n := IntWalk.i64_in _ (by omega)
      have b3 : X.tmod n = X % n := Int.tmod_eq_emod_of_nonneg hX0.1
      have hn9 : ¬ n = 0 := by omega
      rw [hX]
      have HXX := Lib.hid hX
      clear hX
      go_simp
      refine wpAnyH_take (i := 10) (v := ?_) rfl (by kernel_rfl) (by kernel_rfl) (by kernel_rfl) (fun _ _ _ h => h) (Or.inl ⟨by rfl, ?_⟩) (by assumption) ?_
      rotate_left
      · intro w hSw; (try dsimp only at hSw); go_simp
        try with_reducible rfl
      refine wpAnyH_take (i := 11) (v := ?_) rfl (by kernel_rfl) (by kernel_rfl) (by kernel_rfl) (fun _ _ _ h => h) (Or.inl ⟨by rfl, ?_⟩) (by assumption) ?_
      rotate_left
      · intro w hSw; (try dsimp only at hSw); go_simp
        try with_reducible rfl
      go_simp
      refine wpAnyH_take (i := 12) (v := ?_) rfl (by kernel_rfl) (by kernel_rfl) (by kernel_rfl) (fun _ _ _ h => h) (Or.inl ⟨by rfl, ?_⟩) (by assumption) ?_
      rotate_left
      · intro w hSw; (try dsimp only at hSw); go_simp
        try with_reducible rfl
      go_simp
      refine wpAnyH_done (by kernel_rfl) ?_ _
      go_wp2
      go_ret
      exact ⟨by rw [HV.out, HXX.out]; rfl, HB5.out⟩
    · go_simp
      refine hK.out _ _ (⟨HX.out.1.alloc _, HX.out.2.alloc _⟩) (fun hHeld => ?_)
      clear hK K
      go_simp
      obtain ⟨B15, hB15⟩ : ∃ B15, B15 = W0.heap.size := ⟨_, rfl⟩
      have hrd1 := SlI.one1 W0 level 5 hlv
      have hb1 := bl_alloc HB0 (.cells #[.int .u8 level] 5)
      generalize hW1 : World.alloc W0 _ = W1 at hHeld ⊢
      rw [hW1] at hb1 hrd1
      rw [← hB15] at hrd1 ⊢
      clear hW1 hB15
      have HRD1 := Lib.hid hrd1
      have HB1 := Lib.hid hb1
      clear hrd1 hb1
      refine wpAnyH_ready (rs := [2]) (by kernel_rfl) (by simp) ?_
      refine AllReadyH.cons rfl (fun K hK => ?_) AllReadyH.nil
      go_simp
      refine (rkey_w f hf L HL.out _).mono ?_
      rintro e W3 ⟨v, rfl, hown, hb3⟩
      obtain ⟨A', c', rfl, _⟩ := own_Rd hown
      dsimp only
      refine hK.out _ _ (⟨hHeld.1.below hb3, hHeld.2.below hb3⟩) (fun hHeld => ?_)
      clear hK K
      go_simp
      obtain ⟨Bb, hBb⟩ : ∃ Bb, Bb = W1.heap.size := ⟨_, rfl⟩
      rw [← hBb] at hown
      have hbw : w.heap.size ≤ Bb := by rw [hBb]; exact HB1.out.size
      have hbs3 : Bb ≤ W3.heap.size := by rw [hBb]; exact hb3.size
      have HRD := Lib.hid (HRD1.out.below hb3)
      have HOW := Lib.hid hown
      have HB3 := Lib.hid (bl_next HB1.out hb3)
      have HX1 := Lib.hid hHeld.1
      have HX2 := Lib.hid hHeld.2
      clear hHeld hown hb3 hBb
      refine wpAnyH_ready (rs := [6]) (by kernel_rfl) (by simp) ?_
      refine AllReadyH.cons rfl (fun K hK => ?_) AllReadyH.nil
      refine app_step Bb rfl (.tmp 13) (.tmp 16) 23 5 (.int .u8 0) 1 1 rfl Try.underlying23 (by kernel_rfl) rfl (by omega) (by omega) (.slice A' L c') L (bys (keyB f)) (some ⟨B15, 0, none⟩) 1 1 (bys [level]) rfl rfl HOW.out rfl HRD.out (bys_one _) (by omega) hbs3 ?_
      intro v4 W4 hown4 hg4
      have hn1 := own_ne HX1.out HOW.out (by decide)
      have hn2 := own_ne HX2.out HOW.out (by decide)
      rw [← bys_append] at hown4
      have hlen : (keyB f ++ [level]).length = L + 1 := by rw [List.length_append, HL.out]; rfl
      have hby : ∀ x ∈ keyB f ++ [level], 0 ≤ x ∧ x ≤ 255 := fun x hx => by
        rcases List.mem_append.1 hx with h | h
        · exact HKB.out x h
        · simp at h; subst h; exact hlv
      obtain ⟨A4, c4, rfl, hs4⟩ := SlI.ownedB hown4 hlen hby
      refine hK.out _ _ (⟨HX1.out.of_grown hg4 hn1, HX2.out.of_grown hg4 hn2⟩) (fun hHeld => ?_)
      clear hK K
      have HB4 := Lib.hid (bl_grown HB3.out HOW.out hg4 hbw)
      have HS4 := Lib.hid hs4
      have HX4 := Lib.hid hHeld
      clear hn1 hn2 hown4 hg4 hs4 hHeld hlen hby
      go_simp
      refine wpAnyH_ready (rs := [7]) (by kernel_rfl) (by simp) ?_
      refine AllReadyH.cons rfl (fun K hK => ?_) AllReadyH.nil
      go_simp
      refine (rsum_w key hk hkb A4 (L + 1) c4 _ (by omega) _ HS4.out).mono ?_
      rintro e W5 ⟨rfl, hb5⟩
      have HB5 := Lib.hid (bl_next HB4.out hb5)
      dsimp only
      refine hK.out _ _ (⟨HX4.out.1.below hb5, HX4.out.2.below hb5⟩) (fun hHeld => ?_)
      clear hK K hb5
      obtain ⟨X, hX⟩ : ∃ X, uv (sipU key (keyB f ++ [level])) = X := ⟨_, rfl⟩
      have hX0 : 0 ≤ X ∧ X < 18446744073709551616 := hX ▸ uv_range _
      have hm0 := Int.emod_nonneg X (show n ≠ 0 by omega)
      have hm1 := Int.emod_lt_of_pos X (show 0 < n by omega)
      have b2 : IntKind.i64.wrap (X % n) = X % n := IntWalk.i64_in _ (by omega)
      have b3 : X.tmod n = X % n := Int.tmod_eq_emod_of_nonneg hX0.1
      have hn9 : ¬ n = 0 := by omega
      rw [hX]
      have HXX := Lib.hid hX
      clear hX
      go_simp
      refine wpAnyH_take (i := 10) (v := ?_) rfl (by kernel_rfl) (by kernel_rfl) (by kernel_rfl) (fun _ _ _ h => h) (Or.inl ⟨by rfl, ?_⟩) (by assumption) ?_
      rotate_left
      · intro w hSw; (try dsimp only at hSw); go_simp
        try with_reducible rfl
      refine wpAnyH_take (i := 11) (v := ?_) rfl (by kernel_rfl) (by kernel_rfl) (by kernel_rfl) (fun _ _ _ h => h) (Or.inl ⟨by rfl, ?_⟩) (by assumption) ?_
      rotate_left
      · intro w hSw; (try dsimp only at hSw); go_simp
        try with_reducible rfl
      go_simp
      refine wpAnyH_take (i := 12) (v := ?_) rfl (by kernel_rfl) (by kernel_rfl) (by kernel_rfl) (fun _ _ _ h => h) (Or.inl ⟨by rfl, ?_⟩) (by assumption) ?_
      rotate_left
      · intro w hSw; (try dsimp only at hSw); go_simp
        try with_reducible rfl
      go_simp
      refine wpAnyH_done (by kernel_rfl) ?_ _
      go_wp2
      go_ret
      exact ⟨by rw [HV.out, HXX.out]; rfl, HB5.out⟩
end Go.Proofs.Ytgbdkleckmilkaa
