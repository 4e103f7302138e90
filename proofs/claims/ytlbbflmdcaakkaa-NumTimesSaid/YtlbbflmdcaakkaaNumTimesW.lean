/- The walk of NumTimes: it answers true. -/
import Derived.Test.YtlbbflmdcaakkaaNumA
import Derived.Test.YtlbbflmdcaakkaaNumAwake
namespace Go.Proofs.Ytlbbflmdcaakkaa
open Go.RowKit
set_option linter.unusedVariables false
set_option linter.unusedSimpArgs false

theorem sum_same (a : Int) (n : Nat) : sumL (List.replicate n a) = if 4611686018427387904 < cnt a * n then 4611686018427387904 else cnt a * n := by
  have ha := cnt_range a
  induction n with
  | zero => simp [sumL]
  | succ n ih =>
    have hr : sumL (List.replicate (n + 1) a) = plus (sumL (List.replicate n a)) a := by
      rw [List.replicate_succ', sumL, List.foldl_append]
      rfl
    have h0 : 0 ≤ cnt a * (n : Int) := Int.mul_nonneg ha.1 (by omega)
    rw [hr, ih]
    unfold plus
    have e : cnt a * ((n + 1 : Nat) : Int) = cnt a * (n : Int) + cnt a := by rw [Int.natCast_add, Int.mul_add]; omega
    rw [e]
    repeat' split
    all_goals omega

theorem times_law (a : Int) (n : Nat) (hn : n ≤ 255) : mulC a n = sumL (List.replicate n a) := by
  rw [sum_same]
  unfold mulC
  rw [cnt_id (n : Int) (by omega) (by omega)]

theorem times_one (a : Int) : mulC a 1 = cnt a := by
  have ha := cnt_range a
  unfold mulC
  rw [cnt_id 1 (by omega) (by omega), Int.mul_one, if_neg (by omega)]
theorem times_none (a : Int) : mulC a 0 = 0 := by
  unfold mulC
  rw [cnt_id 0 (by omega) (by omega), Int.mul_zero, if_neg (by omega)]

set_option maxHeartbeats 1000000 in
theorem NumTimes_w (a n : Int) (w : World) (_ : (Lit.int .i64 a).wf = true) (wn : (Lit.int .u8 n).wf = true) : Calls Try.prog 5 #[.int .i64 a, .int .u8 n] w fun e w' => e = .returned (.bool true) ∧ Below w.heap.size w w' := by
  have hn := u8_range wn
  clear wn
  obtain ⟨m, rfl⟩ := Int.eq_ofNat_of_zero_le hn.1
  have hm : m ≤ 255 := by omega
  have e1 : (mulC a m == sumL (List.replicate m a)) = true := beq_iff_eq.2 (times_law a m hm)
  have e2 : (mulC a 1 == cnt a) = true := beq_iff_eq.2 (times_one a)
  have e3 : (mulC a 0 == 0) = true := beq_iff_eq.2 (times_none a)
  go_enter Try.func5, Try.ntmps5
  go_wp2_with fail
  refine (awake01_w _).mono ?_
  rintro e w1 ⟨rfl, hb1⟩
  have H1 := Lib.hid hb1
  clear hb1
  go_wp2_with fail
  go_loopw [5, 9] (fun v i wr => ∃ k : Nat, k ≤ m ∧ i = .int .u8 k ∧ wr.ownsRow w1.heap.size 2 1 v k (vals (List.replicate k a)) ∧ Below w1.heap.size w1 wr) (fun _ i _ => m - (intOf i).toNat)
  case atStart => exact ⟨0, Nat.zero_le _, rfl, World.ownsRow_nil _ _ _ _, Below.refl _ _⟩
  case round =>
    obtain ⟨k, hk, rfl, hown, hbel⟩ := hrel
    by_cases hlt : k < m
    · go_wp2_with (at_builtin; refine app_one w1.heap.size rfl (.tmp 11) (.tmp 13) 22 2 (.int .i64 0) 8 rfl Try.underlying22 (by kernel_rfl) rfl (by omega) _ k _ (.int .i64 a) rfl rfl rfl hown hbel hbel.size (by omega) ?_; intro v1 w2 hown2 hbel2 _; clear hown hbel)
      go_roundw
      case rel => exact ⟨k + 1, by omega, by go_num, by simpa [vals, List.replicate_succ'] using hown2, hbel2⟩
      case measure => simp [intOf]; omega
    · obtain rfl : k = m := by omega
      obtain ⟨A, c, rfl, hr⟩ := own_RdI hown
      have HR := Lib.hid hr
      have H2 := Lib.hid (bl_next H1.out hbel)
      clear hr hown hbel H1
      have hl : (List.replicate k a).length = k := by simp
      go_wp2_with fail
      refine (Mul_w _ _ _).mono ?_
      rintro e w' ⟨rfl, rfl⟩
      go_wp2_with fail
      refine (Add_n _ _ _ (List.replicate k a) _ hl HR.out).mono ?_
      rintro e w' ⟨rfl, rfl⟩
      go_wp2_with fail
      refine (Mul_w _ _ _).mono ?_
      rintro e w' ⟨rfl, rfl⟩
      go_wp2_with fail
      refine (Count_w _ _).mono ?_
      rintro e w' ⟨rfl, rfl⟩
      go_wp2_with fail
      refine (Mul_w _ _ _).mono ?_
      rintro e w' ⟨rfl, rfl⟩
      go_wp2
      go_ret
      exact ⟨rfl, H2.out⟩
end Go.Proofs.Ytlbbflmdcaakkaa
