/- The walk of NumSums: it answers true. -/
import Derived.Test.YtlbbflmdcaakkaaNumB
import Derived.Test.YtlbbflmdcaakkaaNumAwake
import Derived.Deep.AppendLies
import Derived.Deep.RegionLaw
namespace Go.Proofs.Ytlbbflmdcaakkaa
open Go.RowKit
set_option linter.unusedVariables false
set_option linter.unusedSimpArgs false

theorem sumL_append (a b : List Int) : sumL (a ++ b) = b.foldl plus (sumL a) := by simp [sumL]
/-- A sum in one: no count twice. -/
def tot (l : List Int) : Int := (l.map cnt).sum
theorem tot_nonneg (l : List Int) : 0 ≤ tot l := by
  induction l with
  | nil => simp [tot]
  | cons x l ih =>
    have := cnt_range x
    simp only [tot, List.map_cons, List.sum_cons] at *
    omega
theorem foldl_tot (l : List Int) : ∀ s : Int, 0 ≤ s → s ≤ 4611686018427387904 → l.foldl plus s = if 4611686018427387904 < s + tot l then 4611686018427387904 else s + tot l := by
  induction l with
  | nil => intro s h0 h1; simp [tot]; omega
  | cons x l ih =>
    intro s h0 h1
    have hx := cnt_range x
    have ht := tot_nonneg l
    have hp := plus_range s x ⟨h0, h1⟩
    rw [List.foldl_cons, ih _ hp.1 hp.2]
    have e : tot (x :: l) = cnt x + tot l := by simp [tot]
    rw [e]
    unfold plus
    repeat' split
    all_goals omega
theorem sumL_tot (l : List Int) : sumL l = if 4611686018427387904 < tot l then 4611686018427387904 else tot l := by
  rw [sumL, foldl_tot l 0 (by omega) (by omega)]
  simp
theorem tot_append (a b : List Int) : tot (a ++ b) = tot a + tot b := by simp [tot]
theorem sums_turned (l : List Int) (n : Nat) : sumL (l.drop n ++ l.take n) = sumL l := by
  have h : tot (l.drop n ++ l.take n) = tot l := by
    rw [tot_append, Int.add_comm, ← tot_append, List.take_append_drop]
  rw [sumL_tot, sumL_tot, h]
theorem sums_parted (l : List Int) (n : Nat) : sumL [sumL (l.take n), sumL (l.drop n)] = sumL l := by
  have h : tot l = tot (l.take n) + tot (l.drop n) := by rw [← tot_append, List.take_append_drop]
  have h1 := tot_nonneg (l.take n)
  have h2 := tot_nonneg (l.drop n)
  have r1 := sumL_range (l.take n)
  have r2 := sumL_range (l.drop n)
  rw [plus_cnt, cnt_id _ r1.1 r1.2]
  unfold plus
  rw [cnt_id _ r2.1 r2.2, sumL_tot, sumL_tot (l.drop n), sumL_tot l, h]
  repeat' split
  all_goals omega

set_option maxHeartbeats 2000000 in
theorem NumSums_w (A : Option Addr) (n c : Nat) (l : List Int) (at_ : Int) (w : World) (h : SlI .i64 w A n c l) (wn : (Lit.int .u8 at_).wf = true) :
    Calls Try.prog 3 #[.slice A n c, .int .u8 at_] w fun e w' => e = .returned (.bool true) ∧ Below w.heap.size w w' := by
  obtain ⟨hl, hnc, hc, hrd, -⟩ := h
  have hat := u8_range wn
  clear wn
  have HR := Lib.hid hrd
  have HL := Lib.hid hl
  clear hrd hl
  by_cases hbig : 100 < n
  · go_enter Try.func3, Try.ntmps3
    go_wp2_with fail
    refine (awake01_w _).mono ?_
    rintro e w1 ⟨rfl, hb1⟩
    have H1 := Lib.hid hb1
    clear hb1
    go_wp2_with fail
    refine (awake01_w _).mono ?_
    rintro e w2 ⟨rfl, hb2⟩
    have H2 := Lib.hid (bl_next H1.out hb2)
    clear hb2
    go_wp2
    go_ret
    exact ⟨rfl, H2.out⟩
  · obtain ⟨m, hm⟩ : ∃ m : Nat, (m : Int) = at_ % ((n : Int) + 1) := ⟨(at_ % ((n : Int) + 1)).toNat, Int.toNat_of_nonneg (Int.emod_nonneg _ (by omega))⟩
    have hmn : m ≤ n := by
      have := Int.emod_lt_of_pos at_ (show 0 < (n : Int) + 1 by omega)
      omega
    have HM := Lib.hid hm
    clear hm
    go_enter Try.func3, Try.ntmps3
    go_wp2_with fail
    refine (awake01_w _).mono ?_
    rintro e w1 ⟨rfl, hb1⟩
    have H1 := Lib.hid hb1
    clear hb1
    go_wp2_with fail
    rw [← HM.out]
    obtain ⟨A', hcut, hrd'⟩ := cut_from (P := Try.prog) 22 2 1 Try.underlying22 (by kernel_rfl) A n c m hmn hnc
    have HR' := Lib.hid (hrd' w1 (vals l) (by simp [vals, HL.out]) ((show Rd w A (vals l) from HR.out).below H1.out))
    clear hrd'
    have hmc : m ≤ c := by omega
    have hl0 : l.length = n := HL.out
    have HR1 : Rd w1 A (vals l) := (show Rd w A (vals l) from HR.out).below H1.out
    have ld : (vals (l.drop m)).length = (n - m) * 1 := by simp [vals, hl0]
    have lt : (vals (l.take m)).length = m * 1 := by simp [vals, hl0]; omega
    have hd : (vals l).drop (m * 1) = vals (l.drop m) := by simp [vals, List.map_drop]
    have HD1 : Rd w1 A' (vals (l.drop m)) := hd ▸ HR'.out
    have HT1 : Rd w1 A (vals (l.take m)) := by rw [show vals (l.take m) = (vals l).take m by simp [vals, List.map_take]]; exact HR1.take m
    have hz0 : (w1.alloc (.cells #[] 2)).drew.ownsRow w1.heap.size 2 1 (.slice (some ⟨w1.heap.size, 0, none⟩) 0 0) 0 [] := World.ownsRow_lit w1 #[] 0 (Nat.le_refl _) (by simp [maxLen]) rfl
    have hb0 : Below w1.heap.size w1 (w1.alloc (.cells #[] 2)).drew := (bl_alloc (Below.refl _ _) _).drew
    have HLD := Lib.hid ld
    have HLT := Lib.hid lt
    have HHD := Lib.hid HD1
    have HHT := Lib.hid HT1
    have HHR := Lib.hid HR1
    have HZ := Lib.hid hz0
    have HB0 := Lib.hid hb0
    clear hl0 ld lt hd HD1 HT1 HR1 hz0 hb0
    go_region_law (first
      | (refine app_step w1.heap.size rfl (.tmp 22) (.tmp 25) 22 2 (.int .i64 0) 1 8 rfl Try.underlying22 (by kernel_rfl) rfl (by omega) (by omega) (.slice (some ⟨w1.heap.size, 0, none⟩) 0 0) 0 [] A' (n - m) (c - m) (vals (l.drop m)) rfl rfl HZ.out HLD.out (HHD.out.below HB0.out) (vals_one _) (by omega) (by simp) ?_; intro v2 w2 ho2 hg2; have HO2 := Lib.hid ho2; have HB2 := Lib.hid (bl_grown HB0.out HZ.out hg2 (Nat.le_refl _)); clear ho2 hg2)
      | (refine app_step w1.heap.size rfl (.tmp 26) (.tmp 29) 22 2 (.int .i64 0) 1 8 rfl Try.underlying22 (by kernel_rfl) rfl (by omega) (by omega) v2 _ _ A m c (vals (l.take m)) rfl rfl HO2.out HLT.out (HHT.out.below HB2.out) (vals_one _) (by omega) HB2.out.size ?_; intro v3 w3 ho3 hg3; have HO3 := Lib.hid ho3; have HB3 := Lib.hid (bl_grown HB2.out HO2.out hg3 (Nat.le_refl _)); clear ho3 hg3))
    obtain ⟨A3, c3, rfl, hrd3⟩ := own_Rd HO3.out
    have hle : (l.drop m ++ l.take m).length = 0 + (n - m) + m := by
      have := HL.out
      simp [this]
      omega
    have HI3 := Lib.hid (RdI.of (A := A3) (l := l.drop m ++ l.take m) (w := w3) (by rw [hle]; omega) (by rw [show vals (l.drop m ++ l.take m) = [] ++ vals (l.drop m) ++ vals (l.take m) by simp [vals]]; exact hrd3))
    have HIR := Lib.hid (RdI.of (A := A) (l := l) (w := w3) (by have := HL.out; omega) (HHR.out.below HB3.out))
    have HID := Lib.hid (RdI.of (A := A') (l := l.drop m) (w := w3) (by have := HL.out; simp; omega) (HHD.out.below HB3.out))
    have HIT := Lib.hid (RdI.of (A := A) (l := l.take m) (w := w3) (by have := HL.out; simp; omega) (HHT.out.below HB3.out))
    have HLE := Lib.hid hle
    clear hle hrd3
    go_wp2_with fail
    refine (rSum_n _ _ _ l _ HL.out HIR.out).mono ?_
    rintro e w' ⟨rfl, rfl⟩
    have e1 : (sumL l == sumL l) = true := beq_self_eq_true _
    have e2 : (sumL (l.drop m ++ l.take m) == sumL l) = true := beq_iff_eq.2 (sums_turned l m)
    have e3 : (plus (cnt (sumL (l.take m))) (sumL (l.drop m)) == sumL l) = true := by
      rw [← plus_cnt]
      exact beq_iff_eq.2 (sums_parted l m)
    go_wp2_with fail
    refine wp_region_any (by kernel_rfl) ?_
    try (change wpAny _ _ _ _ _ _ _ (World.drew _))
    refine wpAny_take (i := 0) (v := ?_) rfl (by kernel_rfl) (by kernel_rfl) (by kernel_rfl) (fun _ _ _ h => h) (Or.inl ⟨by rfl, ?_⟩) ?_
    rotate_left
    · intro w; go_simp
      try with_reducible rfl
    refine wpAny_take (i := 2) (v := ?_) rfl (by kernel_rfl) (by kernel_rfl) (by kernel_rfl) (fun _ _ _ h => h) (Or.inl ⟨by rfl, ?_⟩) ?_
    rotate_left
    · intro w; go_simp
      try with_reducible rfl
    go_simp
    refine wpAny_ready (rs := [1]) (by kernel_rfl) (by simp) ?_
    refine AllReady.cons rfl (fun K hK => ?_) ?_
    rotate_left
    · exact AllReady.nil
    go_simp
    go_wp2_with ((go_at_call 14; refine (Add_n _ _ _ l _ HL.out (HIR.out.below (by exact ⟨rfl, rfl, rfl, Nat.le_refl _, fun _ _ => rfl⟩))).mono ?_; rintro e w' ⟨rfl, rfl⟩))
    refine wpAny_take (i := 3) (v := ?_) rfl (by kernel_rfl) (by kernel_rfl) (by kernel_rfl) (fun _ _ _ h => h) (Or.inl ⟨by rfl, ?_⟩) ?_
    rotate_left
    · intro w; go_simp
      try with_reducible rfl
    refine wpAny_take (i := 4) (v := ?_) rfl (by kernel_rfl) (by kernel_rfl) (by kernel_rfl) (fun _ _ _ h => h) (Or.inl ⟨by rfl, ?_⟩) ?_
    rotate_left
    · intro w; go_simp
      try with_reducible rfl
    go_simp
    refine wpAny_take (i := 5) (v := ?_) rfl (by kernel_rfl) (by kernel_rfl) (by kernel_rfl) (fun _ _ _ h => h) (Or.inl ⟨by rfl, ?_⟩) ?_
    rotate_left
    · intro w; go_simp
      try with_reducible rfl
    refine wpAny_take (i := 7) (v := ?_) rfl (by kernel_rfl) (by kernel_rfl) (by kernel_rfl) (fun _ _ _ h => h) (Or.inl ⟨by rfl, ?_⟩) ?_
    rotate_left
    · intro w; go_simp
      try with_reducible rfl
    go_simp
    refine wpAny_ready (rs := [6]) (by kernel_rfl) (by simp) ?_
    refine AllReady.cons rfl (fun K hK => ?_) ?_
    rotate_left
    · exact AllReady.nil
    go_simp
    go_wp2_with ((go_at_call 14; refine (Add_n _ _ _ (l.drop m ++ l.take m) _ (by have := HLE.out; omega) (HI3.out.below (by exact ⟨rfl, rfl, rfl, Nat.le_refl _, fun _ _ => rfl⟩))).mono ?_; rintro e w' ⟨rfl, rfl⟩))
    refine wpAny_take (i := 8) (v := ?_) rfl (by kernel_rfl) (by kernel_rfl) (by kernel_rfl) (fun _ _ _ h => h) (Or.inl ⟨by rfl, ?_⟩) ?_
    rotate_left
    · intro w; go_simp
      try with_reducible rfl
    refine wpAny_take (i := 9) (v := ?_) rfl (by kernel_rfl) (by kernel_rfl) (by kernel_rfl) (fun _ _ _ h => h) (Or.inl ⟨by rfl, ?_⟩) ?_
    rotate_left
    · intro w; go_simp
      try with_reducible rfl
    go_simp
    refine wpAny_take (i := 10) (v := ?_) rfl (by kernel_rfl) (by kernel_rfl) (by kernel_rfl) (fun _ _ _ h => h) (Or.inl ⟨by rfl, ?_⟩) ?_
    rotate_left
    · intro w; go_simp
      try with_reducible rfl
    refine wpAny_take (i := 11) (v := ?_) rfl (by kernel_rfl) (by kernel_rfl) (by kernel_rfl) (fun _ _ _ h => h) (Or.inl ⟨by rfl, ?_⟩) ?_
    rotate_left
    · intro w; go_simp
      try with_reducible rfl
    go_simp
    refine wpAny_take (i := 12) (v := ?_) rfl (by kernel_rfl) (by kernel_rfl) (by kernel_rfl) (fun _ _ _ h => h) (Or.inl ⟨by rfl, ?_⟩) ?_
    rotate_left
    · intro w; go_simp
      try with_reducible rfl
    refine wpAny_take (i := 13) (v := ?_) rfl (by kernel_rfl) (by kernel_rfl) (by kernel_rfl) (fun _ _ _ h => h) (Or.inl ⟨by rfl, ?_⟩) ?_
    rotate_left
    · intro w; go_simp
      try with_reducible rfl
    go_simp
    refine wpAny_take (i := 15) (v := ?_) rfl (by kernel_rfl) (by kernel_rfl) (by kernel_rfl) (fun _ _ _ h => h) (Or.inl ⟨by rfl, ?_⟩) ?_
    rotate_left
    · intro w; go_simp
      try with_reducible rfl
    refine wpAny_take (i := 16) (v := ?_) rfl (by kernel_rfl) (by kernel_rfl) (by kernel_rfl) (fun _ _ _ h => h) (Or.inl ⟨by rfl, ?_⟩) ?_
    rotate_left
    · intro w; go_simp
      try with_reducible rfl
    go_simp
    refine wpAny_take (i := 21) (v := ?_) rfl (by kernel_rfl) (by kernel_rfl) (by kernel_rfl) (fun _ _ _ h => h) (Or.inl ⟨by rfl, ?_⟩) ?_
    rotate_left
    · intro w; go_simp
      try with_reducible rfl
    refine wpAny_take (i := 17) (v := ?_) rfl (by kernel_rfl) (by kernel_rfl) (by kernel_rfl) (fun _ _ _ h => h) (Or.inl ⟨by rfl, ?_⟩) ?_
    rotate_left
    · intro w; go_simp
      try with_reducible rfl
    go_simp
    refine wpAny_ready (rs := [14]) (by kernel_rfl) (by simp) ?_
    refine AllReady.cons rfl (fun K hK => ?_) ?_
    rotate_left
    · exact AllReady.nil
    go_simp
    go_wp2_with ((go_at_call 14; refine (Add_n _ _ _ (l.take m) _ (by simp [HL.out]; omega) (HIT.out.below (by exact ⟨rfl, rfl, rfl, Nat.le_refl _, fun _ _ => rfl⟩))).mono ?_; rintro e w' ⟨rfl, rfl⟩))
    refine wpAny_ready (rs := [18]) (by kernel_rfl) (by simp) ?_
    refine AllReady.cons rfl (fun K hK => ?_) ?_
    rotate_left
    · exact AllReady.nil
    go_simp
    go_wp2_with ((go_at_call 14; refine (Add_n _ _ _ (l.drop m) _ (by simp [HL.out]) (HID.out.below (by exact ⟨rfl, rfl, rfl, Nat.le_refl _, fun _ _ => rfl⟩))).mono ?_; rintro e w' ⟨rfl, rfl⟩))
    refine wpAny_ready (rs := [19]) (by kernel_rfl) (by simp) ?_
    refine AllReady.cons rfl (fun K hK => ?_) ?_
    rotate_left
    · exact AllReady.nil
    go_simp
    go_wp2_with ((fail))
    refine wpAny_ready (rs := [20]) (by kernel_rfl) (by simp) ?_
    refine AllReady.cons rfl (fun K hK => ?_) ?_
    rotate_left
    · exact AllReady.nil
    go_simp
    go_wp2_with ((go_at_call 14; refine (Add2_w (sumL (l.take m)) (sumL (l.drop m)) _ _ (new_atd (by simp) rfl) (new_atd (by simp) rfl)).mono ?_; rintro e w' ⟨rfl, rfl⟩))
    refine wpAny_take (i := 22) (v := ?_) rfl (by kernel_rfl) (by kernel_rfl) (by kernel_rfl) (fun _ _ _ h => h) (Or.inl ⟨by rfl, ?_⟩) ?_
    rotate_left
    · intro w; go_simp
      try with_reducible rfl
    refine wpAny_take (i := 23) (v := ?_) rfl (by kernel_rfl) (by kernel_rfl) (by kernel_rfl) (fun _ _ _ h => h) (Or.inl ⟨by rfl, ?_⟩) ?_
    rotate_left
    · intro w; go_simp
      try with_reducible rfl
    go_simp
    refine wpAny_take (i := 24) (v := ?_) rfl (by kernel_rfl) (by kernel_rfl) (by kernel_rfl) (fun _ _ _ h => h) (Or.inl ⟨by rfl, ?_⟩) ?_
    rotate_left
    · intro w; go_simp
      try with_reducible rfl
    refine wpAny_done (by kernel_rfl) ?_ _
    go_wp2
    go_ret
    exact ⟨rfl, bl_drewN (n := 1) (bl_alloc (bl_next H1.out HB3.out) _)⟩
end Go.Proofs.Ytlbbflmdcaakkaa
