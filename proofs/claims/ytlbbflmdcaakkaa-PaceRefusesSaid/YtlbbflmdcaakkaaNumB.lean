/- The walks of package bailiffref01: each Go function answers what a plain Lean function answers. -/
import Derived.Test.YtlbbflmdcaakkaaNumA
namespace Go.Proofs.Ytlbbflmdcaakkaa
open Go.RowKit
set_option linter.unusedVariables false
set_option linter.unusedSimpArgs false

set_option maxHeartbeats 400000 in
theorem rCount_w (n : Int) (w : World) : Calls Try.prog 18 #[.int .i64 n] w fun e w' => e = .returned (.int .i64 (cnt n)) ∧ w = w' := by
  unfold cnt
  by_cases h1 : n < 0
  · rw [if_pos h1]
    go_enter Try.func18, Try.ntmps18
    go_wp2
    go_ret
    exact ⟨rfl, rfl⟩
  · rw [if_neg h1]
    by_cases h2 : 4611686018427387904 < n
    · rw [if_pos h2]
      go_enter Try.func18, Try.ntmps18
      go_wp2
      go_ret
      exact ⟨rfl, rfl⟩
    · rw [if_neg h2]
      go_enter Try.func18, Try.ntmps18
      go_wp2
      go_ret
      exact ⟨rfl, rfl⟩

theorem u64_in (n : Int) (h0 : 0 ≤ n) (h1 : n ≤ 18446744073709551615) : IntKind.u64.wrap n = n := by
  simp only [IntKind.wrap, IntKind.signed, IntKind.bits]
  have : n % 18446744073709551616 = n := Int.emod_eq_of_lt h0 (by omega)
  simpa using this

set_option maxHeartbeats 400000 in
theorem rAdd_w (a b : Int) (w : World) : Calls Try.prog 19 #[.int .i64 a, .int .i64 b] w fun e w' => e = .returned (.int .i64 (plus (cnt a) b)) ∧ w = w' := by
  have ha := cnt_range a
  have hb := cnt_range b
  go_enter Try.func19, Try.ntmps19
  go_wp2_with (go_at_call 18; refine (rCount_w _ _).mono ?_; rintro e w' ⟨rfl, rfl⟩)
  all_goals
    go_ret
    refine ⟨ret_i64 ?_, rfl⟩
    unfold plus
    first | rw [if_pos (by omega)] | rw [if_neg (by omega)]

set_option maxHeartbeats 400000 in
theorem rSum_w (A : Option Addr) (c : Nat) (l : List Int) (w : World) (h : RdI w A l) :
    Calls Try.prog 13 #[.slice A l.length c] w fun e w' => e = .returned (.int .i64 (sumL l)) ∧ w = w' := by
  obtain ⟨hm, hc⟩ := h
  have HC := Lib.hid hc
  clear hc
  go_enter Try.func13, Try.ntmps13
  go_wp2
  go_loop [3, 7] (fun s i => ∃ k : Nat, k ≤ l.length ∧ i = .int .i64 k ∧ s = .int .i64 (sumL (l.take k))) (fun _ i => l.length - (intOf i).toNat)
  case atStart => exact ⟨0, Nat.zero_le _, rfl, rfl⟩
  case round =>
    obtain ⟨k, hk, rfl, rfl⟩ := hrel
    have hs := sumL_range (l.take k)
    by_cases hlt : k < l.length
    · have hst := Lib.hid (sumL_take l k hlt)
      obtain ⟨ad, rfl, hcell⟩ := HC.out k hlt
      go_wp2_with (go_at_call 19; refine (rAdd_w _ _ _).mono ?_; rintro e w' ⟨rfl, rfl⟩)
      go_round
      case rel =>
        refine ⟨k + 1, by omega, by go_num, ?_⟩
        rw [hst.out, cnt_id _ hs.1 hs.2]
      case measure => simp [intOf]; omega
    · obtain rfl : k = l.length := by omega
      go_wp2
      go_ret
      exact ⟨ret_i64 (by simp), rfl⟩

/-- The same, the length by another name. -/
theorem rSum_n (A : Option Addr) (n c : Nat) (l : List Int) (w : World) (hn : l.length = n) (h : RdI w A l) :
    Calls Try.prog 13 #[.slice A n c] w fun e w' => e = .returned (.int .i64 (sumL l)) ∧ w = w' := by
  subst hn
  exact rSum_w A c l w h

set_option maxHeartbeats 400000 in
theorem rMul_w (a b : Int) (w : World) : Calls Try.prog 21 #[.int .i64 a, .int .i64 b] w fun e w' => e = .returned (.int .i64 (mulC a b)) ∧ w = w' := by
  have ha := cnt_range a
  have hb := cnt_range b
  go_enter Try.func21, Try.ntmps21
  go_wp2_with (go_at_call 18; refine (rCount_w _ _).mono ?_; rintro e w' ⟨rfl, rfl⟩)
  go_loop [0, 1, 5] (fun x y o => ∃ p q r : Int, half (cnt a) (cnt b) p q r ∧ x = .int .i64 p ∧ y = .int .i64 q ∧ o = .int .i64 r) (fun _ y _ => (intOf y).toNat)
  case atStart => exact ⟨_, _, _, half_start _ _ ha hb, rfl, rfl, rfl⟩
  case round =>
    obtain ⟨p, q, r, HH, rfl, rfl, rfl⟩ := hrel
    obtain ⟨p0, p1, q0, q1, r0, r1, _⟩ := id HH
    by_cases hq : 0 < q
    · by_cases ho : q % 2 = 1
      · have hd := Lib.hid (half_odd _ _ p q r HH hq ho)
        have er := Lib.hid (cnt_id r r0 r1)
        have ep := Lib.hid (cnt_id p p0 p1)
        have ho1 := beq_iff_eq.2 ho
        clear ho
        go_wp2_with (go_at_call 19; refine (rAdd_w _ _ _).mono ?_; rintro e w' ⟨rfl, rfl⟩)
        go_round
        case rel => exact ⟨_, _, _, hd.out, by rw [ep.out], rfl, by rw [er.out]⟩
        case measure => simp [intOf]; omega
      · have hd := Lib.hid (half_even _ _ p q r HH hq (by omega))
        have ep := Lib.hid (cnt_id p p0 p1)
        have ho1 : (q % 2 == 1) = false := beq_eq_false_iff_ne.2 ho
        clear ho
        go_wp2_with (go_at_call 19; refine (rAdd_w _ _ _).mono ?_; rintro e w' ⟨rfl, rfl⟩)
        go_round
        case rel => exact ⟨_, _, _, hd.out, by rw [ep.out], rfl, rfl⟩
        case measure => simp [intOf]; omega
    · obtain rfl : q = 0 := by omega
      have he := Lib.hid (half_end _ _ p r HH)
      go_wp2
      go_ret
      exact ⟨ret_i64 he.out, rfl⟩

set_option maxHeartbeats 400000 in
theorem rUp_w (a b : Int) (w : World) : Calls Try.prog 22 #[.int .i64 a, .int .i64 b] w fun e w' => e = .returned (.int .i64 (upC a b)) ∧ w = w' := by
  have ha := cnt_range a
  have hb := cnt_range b
  by_cases b0 : cnt b = 0
  · rw [upC_no a b b0]
    have b1 := beq_iff_eq.2 b0
    clear b0
    go_enter Try.func22, Try.ntmps22
    go_wp2_with (go_at_call 18; refine (rCount_w _ _).mono ?_; rintro e w' ⟨rfl, rfl⟩)
    go_ret
    exact ⟨rfl, rfl⟩
  · have b1 : (cnt b == 0) = false := beq_eq_false_iff_ne.2 b0
    have hb1 : 1 ≤ cnt b := by omega
    have hq0 : 0 ≤ cnt a / cnt b := Int.ediv_nonneg ha.1 hb.1
    have hq1 : cnt a / cnt b ≤ cnt a := Int.ediv_le_self _ ha.1
    have hm0 : 0 ≤ cnt a / cnt b * cnt b := Int.mul_nonneg hq0 hb.1
    have hm1 : cnt a / cnt b * cnt b ≤ cnt a := Int.ediv_mul_le _ (by omega)
    by_cases hc : cnt a / cnt b * cnt b < cnt a
    · rw [upC_more a b b0 hc]
      clear b0
      go_enter Try.func22, Try.ntmps22
      go_wp2_with (go_at_call 18; refine (rCount_w _ _).mono ?_; rintro e w' ⟨rfl, rfl⟩)
      go_ret
      exact ⟨rfl, rfl⟩
    · rw [upC_even a b b0 hc]
      clear b0
      go_enter Try.func22, Try.ntmps22
      go_wp2_with (go_at_call 18; refine (rCount_w _ _).mono ?_; rintro e w' ⟨rfl, rfl⟩)
      go_ret
      exact ⟨rfl, rfl⟩
end Go.Proofs.Ytlbbflmdcaakkaa
