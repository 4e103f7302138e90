/- Whither a flow falls. -/
import Derived.Test.YtgbdkleckmilkaaKeyB
import Derived.Deep.RegionHeld
namespace Go.Proofs.Ytgbdkleckmilkaa
open Go.RowKit
set_option linter.unusedVariables false
set_option linter.unusedSimpArgs false

/-- Whither a flow falls, of so many. -/
def fallV (key : List Int) (f : Fl) (level n : Int) : Int := if n < 1 then 0 else uv (sipU key (keyB f ++ [level])) % n
theorem fallV_range (key : List Int) (f : Fl) (level n : Int) (h : 1 ≤ n) : 0 ≤ fallV key f level n ∧ fallV key f level n < n := by
  unfold fallV
  rw [if_neg (by omega)]
  exact ⟨Int.emod_nonneg _ (by omega), Int.emod_lt_of_pos _ (by omega)⟩
/-- Slices of bytes in a new block. -/
theorem SlSl.two (w : World) (t : TypeId) {a1 a2 : Option Addr} {n1 c1 n2 c2 : Nat} {l1 l2 : List Int} (h1 : SlI .u8 w a1 n1 c1 l1) (h2 : SlI .u8 w a2 n2 c2 l2) :
    SlSl (w.alloc (.cells #[.slice a1 n1 c1, .slice a2 n2 c2] t)) (some ⟨w.heap.size, 0, none⟩) 2 2 [l1, l2] := by
  have hb := bl_alloc (Below.refl w.heap.size w) (.cells #[.slice a1 n1 c1, .slice a2 n2 c2] t)
  refine ⟨rfl, Nat.le_refl _, by omega, fun j l hj => ?_⟩
  match j, hj with
  | 0, hj => simp at hj; subst hj; exact ⟨_, _, _, _, rfl, new_cell w _ t 0, h1.below hb⟩
  | 1, hj => simp at hj; subst hj; exact ⟨_, _, _, _, rfl, new_cell w _ t 1, h2.below hb⟩
theorem SlSl.oneS (w : World) (t : TypeId) {a1 : Option Addr} {n1 c1 : Nat} {l1 : List Int} (h1 : SlI .u8 w a1 n1 c1 l1) :
    SlSl (w.alloc (.cells #[.slice a1 n1 c1] t)) (some ⟨w.heap.size, 0, none⟩) 1 1 [l1] := by
  have hb := bl_alloc (Below.refl w.heap.size w) (.cells #[.slice a1 n1 c1] t)
  refine ⟨rfl, Nat.le_refl _, by omega, fun j l hj => ?_⟩
  match j, hj with
  | 0, hj => simp at hj; subst hj; exact ⟨_, _, _, _, rfl, new_cell w _ t 0, h1.below hb⟩

theorem sum2_w (key : List Int) (hk : key.length = 16) (hkb : ∀ x ∈ key, 0 ≤ x ∧ x ≤ 255) (l1 l2 : List Int) (L : Nat) (hL : (l1 ++ l2).length = L) (hT : L ≤ 1000000000) {B : Nat} (w : World) (h : SlSl w (some ⟨B, 0, none⟩) 2 2 [l1, l2]) :
    Calls Try.prog 15 #[.agg (bys key).toArray, .slice (some ⟨B, 0, none⟩) 2 2] w fun e w' => e = .returned (.int .u64 (uv (sipU key (l1 ++ l2)))) ∧ Below w.heap.size w w' := by
  have e : [l1, l2].flatten = l1 ++ l2 := by simp
  have h1 := sum_w key hk hkb (some ⟨B, 0, none⟩) 2 2 [l1, l2] L (by rw [e]; exact hL) hT w h
  rw [e] at h1
  exact h1

set_option maxRecDepth 100000 in
set_option maxHeartbeats 2000000 in
theorem fall_w (key : List Int) (hk : key.length = 16) (hkb : ∀ x ∈ key, 0 ≤ x ∧ x ≤ 255) (f : Fl) (hf : okFl f) (level : Int) (hlv : 0 ≤ level ∧ level ≤ 255) (n : Int) (hn : n ≤ 9223372036854775807) (hn0 : -9223372036854775808 ≤ n) (w : World) :
    Calls Try.prog 37 #[.agg (bys key).toArray, .agg (flC f).toArray, .int .u8 level, .int .i64 n] w fun e w' => e = .returned (.int .i64 (fallV key f level n)) ∧ Below w.heap.size w w' := by
  by_cases h1 : n < 1
  · have hv : fallV key f level n = 0 := by unfold fallV; rw [if_pos h1]
    have HV := Lib.hid hv
    clear hv
    go_enter Try.func37, Try.ntmps37
    go_wp2
    go_ret
    exact ⟨by rw [HV.out]; rfl, bl_alloc (bl_alloc (Below.refl _ _) _) _⟩
  · have hv : fallV key f level n = uv (sipU key (keyB f ++ [level])) % n := by unfold fallV; rw [if_neg h1]
    have HV := Lib.hid hv
    have b1 : IntKind.u64.wrap n = n := by rw [wrap_u64]; omega
    have hO1 := (Obj1.new w (bys key).toArray 22).alloc (.cells (flC f).toArray 34)
    have hO2 := Obj1.new (w.alloc (.cells (bys key).toArray 22)) (flC f).toArray 34
    have hB := bl_alloc (bl_alloc (Below.refl w.heap.size w) (.cells (bys key).toArray 22)) (.cells (flC f).toArray 34)
    have e1 : (w.alloc (.cells (bys key).toArray 22)).heap.size = w.heap.size + 1 := by simp
    rw [e1] at hO2
    have HO1 := Lib.hid hO1
    have HO2 := Lib.hid hO2
    have HB := Lib.hid hB
    have hks : (Try.prog.info? 22).map (·.size) = some (bys key).toArray.size := by rw [show (bys key).toArray.size = 16 by simp [bys_length, hk]]; rfl
    have hfs : (Try.prog.info? 34).map (·.size) = some (flC f).toArray.size := by rw [show (flC f).toArray.size = 36 by simp [flC_length hf]]; rfl
    have HKS := Lib.hid hks
    have HFS := Lib.hid hfs
    clear hv hO1 hO2 hB e1 hks hfs
    go_enter Try.func37, Try.ntmps37
    go_wp2_with fail
    refine wp_region_held_drew (S := (fun w' => Obj1 w' w.heap.size (bys key).toArray 22 ∧ Obj1 w' (w.heap.size + 1) (flC f).toArray 34)) (by kernel_rfl) (⟨HO1.out.drewN 1, HO2.out.drewN 1⟩) (fun hHeld => ?_)
    refine wpAnyH_take (i := 0) (v := .agg (bys key).toArray) rfl (by kernel_rfl) (by kernel_rfl) (by kernel_rfl) (fun _ _ _ h => h) (Or.inl ⟨by rfl, ?_⟩) (by assumption) ?_
    · intro w' hSw
      have hld := run_loadVar_row (P := Try.prog) w' w.heap.size 22 22 (bys key).toArray (0, 0) _ hSw.1 Try.underlying22 rfl HKS.out
      simp [execOp, Act.eval, Instr.loadAt, Instr.sureAddr, Sem.run_bind, hld, Result.andThen]
    go_simp
    refine wpAnyH_take (i := 1) (v := .agg (flC f).toArray) rfl (by kernel_rfl) (by kernel_rfl) (by kernel_rfl) (fun _ _ _ h => h) (Or.inl ⟨by rfl, ?_⟩) (by assumption) ?_
    · intro w' hSw
      have hld := run_loadVar_row (P := Try.prog) w' (w.heap.size + 1) 34 34 (flC f).toArray (0, 0) _ hSw.2 Try.underlying34 rfl HFS.out
      simp [execOp, Act.eval, Instr.loadAt, Instr.sureAddr, Sem.run_bind, hld, Result.andThen]
    go_simp
    refine wpAnyH_take (i := 3) (v := ?_) rfl (by kernel_rfl) (by kernel_rfl) (by kernel_rfl) (fun _ _ _ h => h) (Or.inl ⟨by rfl, ?_⟩) (by assumption) ?_
    rotate_left
    · intro w hSw; (try dsimp only at hSw); go_simp
      try with_reducible rfl
    refine wpAnyH_take (i := 7) (v := ?_) rfl (by kernel_rfl) (by kernel_rfl) (by kernel_rfl) (fun _ _ _ h => h) (Or.inl ⟨by rfl, ?_⟩) (by assumption) ?_
    rotate_left
    · intro w hSw; (try dsimp only at hSw); go_simp
      try with_reducible rfl
    go_simp
    refine wpAnyH_take (i := 8) (v := ?_) rfl (by kernel_rfl) (by kernel_rfl) (by kernel_rfl) (fun _ _ _ h => h) (Or.inl ⟨by rfl, ?_⟩) (by assumption) ?_
    rotate_left
    · intro w hSw; (try dsimp only at hSw); go_simp
      try with_reducible rfl
    go_simp
    generalize hW0 : World.drew _ = W0 at hHeld ⊢
    have HB0 : Below w.heap.size w W0 := by rw [← hW0]; exact HB.out.drew
    have HX := Lib.hid hHeld
    clear hW0 hHeld HO1 HO2 HB HKS HFS
    obtain ⟨L, hL⟩ : ∃ L, (keyB f).length = L := ⟨_, rfl⟩
    have hLb : L ≤ 1000 := by
      have h1 := keyB_length hf
      have h4 : flN f = 16 ∨ flN f = 4 := by unfold flN; split <;> simp
      omega
    have HL := Lib.hid hL
    clear hL
    refine wpAnyH_ready (rs := [2, 4]) (by kernel_rfl) (by simp) ?_
    refine AllReadyH.cons rfl (fun K hK => ?_) (AllReadyH.cons rfl (fun K hK => ?_) AllReadyH.nil)
    · go_simp
      go_wp2_with (refine (fkey_w f hf L HL.out _).mono ?_; rintro e W1 ⟨A', c', rfl, hsl, hb1⟩)
      refine hK.out _ _ (⟨HX.out.1.below hb1, HX.out.2.below hb1⟩) (fun hHeld => ?_)
      clear hK K
      refine wpAnyH_ready (rs := [4]) (by kernel_rfl) (by simp) ?_
      refine AllReadyH.cons rfl (fun K hK => ?_) AllReadyH.nil
      go_simp
      refine hK.out _ _ (⟨hHeld.1.alloc _, hHeld.2.alloc _⟩) (fun hHeld => ?_)
      clear hK K
      obtain ⟨B15, hB15⟩ : ∃ B15, B15 = W1.heap.size := ⟨_, rfl⟩
      have hlv2 := SlI.new W1 [level] 5 (by simp) (by simpa using hlv)
      have hkl2 := hsl.below (bl_alloc (Below.refl _ W1) (.cells #[.int .u8 level] 5))
      have hbb := bl_alloc (bl_next HB0 hb1) (.cells #[.int .u8 level] 5)
      generalize hW3 : World.alloc W1 _ = W3 at hHeld ⊢
      rw [show W1.alloc (.cells (bys [level]).toArray 5) = W3 from hW3] at hlv2
      rw [hW3] at hkl2 hbb
      rw [← hB15] at hlv2 ⊢
      have HLV := Lib.hid hlv2
      have HKL := Lib.hid hkl2
      have HB3 := Lib.hid hbb
      have HX1 := Lib.hid hHeld.1
      have HX2 := Lib.hid hHeld.2
      clear hlv2 hkl2 hbb hHeld hW3 hsl hb1 hB15
      refine wpAnyH_ready (rs := [5]) (by kernel_rfl) (by simp) ?_
      refine AllReadyH.cons rfl (fun K hK => ?_) AllReadyH.nil
      go_simp
      refine hK.out _ _ (⟨HX1.out.alloc _, HX2.out.alloc _⟩) (fun hHeld => ?_)
      clear hK K
      go_simp
      refine wpAnyH_ready (rs := [6]) (by kernel_rfl) (by simp) ?_
      refine AllReadyH.cons rfl (fun K hK => ?_) AllReadyH.nil
      go_simp
      have hs2 := SlSl.two W3 23 HKL.out HLV.out
      have HS2 := Lib.hid hs2
      clear hs2
      go_wp2_with (refine (sum2_w key hk hkb (keyB f) [level] (L + 1) (by rw [List.length_append, HL.out]; rfl) (by omega) _ HS2.out).mono ?_; rintro e W4 ⟨rfl, hb4⟩; have HB40 := Lib.hid hb4; clear hb4)
      have HB4 := Lib.hid (bl_next (bl_alloc HB3.out (.cells #[.slice A' L c', .slice (some ⟨B15, 0, none⟩) 1 1] 23)) HB40.out)
      refine hK.out _ _ (⟨(HX1.out.alloc _).below HB40.out, (HX2.out.alloc _).below HB40.out⟩) (fun hHeld => ?_)
      clear hK K
      obtain ⟨X, hX⟩ : ∃ X, uv (sipU key (keyB f ++ [level])) = X := ⟨_, rfl⟩
      have hX0 : 0 ≤ X ∧ X < 18446744073709551616 := hX ▸ uv_range _
      have hm0 := Int.emod_nonneg X (show n ≠ 0 by omega)
      have hm1 := Int.emod_lt_of_pos X (show 0 < n by omega)
      have b2 : IntKind.i64.wrap (X % n) = X % n := IntWalk.i64_in _ (by omega)
      have b3 : X.tmod n = X % n := Int.tmod_eq_emod_of_nonneg hX0.1
      have hn9 : ¬ n = 0 := by omega
      rw [hX]
      have HXX := Lib.hid hX
      clear hX
      go_simp
      refine wpAnyH_take (i := 9) (v := ?_) rfl (by kernel_rfl) (by kernel_rfl) (by kernel_rfl) (fun _ _ _ h => h) (Or.inl ⟨by rfl, ?_⟩) (by assumption) ?_
      rotate_left
      · intro w hSw; (try dsimp only at hSw); go_simp
        try with_reducible rfl
      refine wpAnyH_take (i := 10) (v := ?_) rfl (by kernel_rfl) (by kernel_rfl) (by kernel_rfl) (fun _ _ _ h => h) (Or.inl ⟨by rfl, ?_⟩) (by assumption) ?_
      rotate_left
      · intro w hSw; (try dsimp only at hSw); go_simp
        try with_reducible rfl
      go_simp
      refine wpAnyH_take (i := 11) (v := ?_) rfl (by kernel_rfl) (by kernel_rfl) (by kernel_rfl) (fun _ _ _ h => h) (Or.inl ⟨by rfl, ?_⟩) (by assumption) ?_
      rotate_left
      · intro w hSw; (try dsimp only at hSw); go_simp
        try with_reducible rfl
      go_simp
      refine wpAnyH_done (by kernel_rfl) ?_ _
      go_wp2
      go_ret
      exact ⟨by rw [HV.out, HXX.out]; rfl, HB4.out⟩
    · go_simp
      refine hK.out _ _ (⟨HX.out.1.alloc _, HX.out.2.alloc _⟩) (fun hHeld => ?_)
      clear hK K
      obtain ⟨B15, hB15⟩ : ∃ B15, B15 = W0.heap.size := ⟨_, rfl⟩
      have hlv1 := SlI.new W0 [level] 5 (by simp) (by simpa using hlv)
      have hb1 := bl_alloc HB0 (.cells #[.int .u8 level] 5)
      generalize hW1 : World.alloc W0 _ = W1 at hHeld ⊢
      rw [show W0.alloc (.cells (bys [level]).toArray 5) = W1 from hW1] at hlv1
      rw [hW1] at hb1
      rw [← hB15] at hlv1 ⊢
      clear hW1 hB15
      have HLV1 := Lib.hid hlv1
      have HB1 := Lib.hid hb1
      clear hlv1 hb1
      refine wpAnyH_ready (rs := [2]) (by kernel_rfl) (by simp) ?_
      refine AllReadyH.cons rfl (fun K hK => ?_) AllReadyH.nil
      go_simp
      go_wp2_with (refine (fkey_w f hf L HL.out _).mono ?_; rintro e W3 ⟨A', c', rfl, hsl, hb3⟩)
      refine hK.out _ _ (⟨hHeld.1.below hb3, hHeld.2.below hb3⟩) (fun hHeld => ?_)
      clear hK K
      have HLV := Lib.hid (HLV1.out.below hb3)
      have HKL := Lib.hid hsl
      have HB3 := Lib.hid (bl_next HB1.out hb3)
      have HX1 := Lib.hid hHeld.1
      have HX2 := Lib.hid hHeld.2
      clear hHeld hsl hb3
      go_simp
      refine wpAnyH_ready (rs := [5]) (by kernel_rfl) (by simp) ?_
      refine AllReadyH.cons rfl (fun K hK => ?_) AllReadyH.nil
      go_simp
      refine hK.out _ _ (⟨HX1.out.alloc _, HX2.out.alloc _⟩) (fun hHeld => ?_)
      clear hK K
      go_simp
      refine wpAnyH_ready (rs := [6]) (by kernel_rfl) (by simp) ?_
      refine AllReadyH.cons rfl (fun K hK => ?_) AllReadyH.nil
      go_simp
      have hs2 := SlSl.two W3 23 HKL.out HLV.out
      have HS2 := Lib.hid hs2
      clear hs2
      go_wp2_with (refine (sum2_w key hk hkb (keyB f) [level] (L + 1) (by rw [List.length_append, HL.out]; rfl) (by omega) _ HS2.out).mono ?_; rintro e W4 ⟨rfl, hb4⟩; have HB40 := Lib.hid hb4; clear hb4)
      have HB4 := Lib.hid (bl_next (bl_alloc HB3.out (.cells #[.slice A' L c', .slice (some ⟨B15, 0, none⟩) 1 1] 23)) HB40.out)
      refine hK.out _ _ (⟨(HX1.out.alloc _).below HB40.out, (HX2.out.alloc _).below HB40.out⟩) (fun hHeld => ?_)
      clear hK K
      obtain ⟨X, hX⟩ : ∃ X, uv (sipU key (keyB f ++ [level])) = X := ⟨_, rfl⟩
      have hX0 : 0 ≤ X ∧ X < 18446744073709551616 := hX ▸ uv_range _
      have hm0 := Int.emod_nonneg X (show n ≠ 0 by omega)
      have hm1 := Int.emod_lt_of_pos X (show 0 < n by omega)
      have b2 : IntKind.i64.wrap (X % n) = X % n := IntWalk.i64_in _ (by omega)
      have b3 : X.tmod n = X % n := Int.tmod_eq_emod_of_nonneg hX0.1
      have hn9 : ¬ n = 0 := by omega
      rw [hX]
      have HXX := Lib.hid hX
      clear hX
      go_simp
      refine wpAnyH_take (i := 9) (v := ?_) rfl (by kernel_rfl) (by kernel_rfl) (by kernel_rfl) (fun _ _ _ h => h) (Or.inl ⟨by rfl, ?_⟩) (by assumption) ?_
      rotate_left
      · intro w hSw; (try dsimp only at hSw); go_simp
        try with_reducible rfl
      refine wpAnyH_take (i := 10) (v := ?_) rfl (by kernel_rfl) (by kernel_rfl) (by kernel_rfl) (fun _ _ _ h => h) (Or.inl ⟨by rfl, ?_⟩) (by assumption) ?_
      rotate_left
      · intro w hSw; (try dsimp only at hSw); go_simp
        try with_reducible rfl
      go_simp
      refine wpAnyH_take (i := 11) (v := ?_) rfl (by kernel_rfl) (by kernel_rfl) (by kernel_rfl) (fun _ _ _ h => h) (Or.inl ⟨by rfl, ?_⟩) (by assumption) ?_
      rotate_left
      · intro w hSw; (try dsimp only at hSw); go_simp
        try with_reducible rfl
      go_simp
      refine wpAnyH_done (by kernel_rfl) ?_ _
      go_wp2
      go_ret
      exact ⟨by rw [HV.out, HXX.out]; rfl, HB4.out⟩
end Go.Proofs.Ytgbdkleckmilkaa
