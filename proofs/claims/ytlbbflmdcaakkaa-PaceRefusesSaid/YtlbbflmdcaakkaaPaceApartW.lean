/- The walk of PaceApart: it answers true. -/
import Derived.Test.YtlbbflmdcaakkaaPacePlaysW
namespace Go.Proofs.Ytlbbflmdcaakkaa
open Go.RowKit
set_option linter.unusedVariables false
set_option linter.unusedSimpArgs false

theorem mul_bound (a b A B : Int) (ha : 0 ≤ a ∧ a ≤ A) (hb : 0 ≤ b ∧ b ≤ B) : 0 ≤ a * b ∧ a * b ≤ A * B :=
  ⟨Int.mul_nonneg ha.1 hb.1, Int.mul_le_mul ha.2 hb.2 hb.1 (Int.le_trans ha.1 ha.2)⟩

theorem awake_out (x : Int) : x = x := rfl

set_option maxRecDepth 100000 in
set_option maxHeartbeats 4000000 in
theorem PaceApart_w (ns : Int) (A : Option Addr) (n c : Nat) (l1 : List (List Value)) (A2 : Option Addr) (n2 c2 : Nat) (l2 : List (List Value)) (w : World) (wn : (Lit.int .u16 ns).wf = true)
    (hs : SlP [.i .u16] w A n c l1) (hs2 : SlP [.i .u16] w A2 n2 c2 l2) :
    Calls Try.prog 9 #[.int .u16 ns, .slice A n c, .slice A2 n2 c2] w fun e w' => e = .returned (.bool true) ∧ Below w.heap.size w w' := by
  have hn : n ≤ 9223372036854775807 := Nat.le_trans hs.2.1 hs.2.2.1
  have hn2 : n2 ≤ 9223372036854775807 := Nat.le_trans hs2.2.1 hs2.2.2.1
  have hns := u16_range wn
  clear wn
  have HS := Lib.hid hs
  have HS2 := Lib.hid hs2
  clear hs hs2
  by_cases hbig : 60 < n ∨ n2 < n
  · rcases hbig with hbig | hbig
    all_goals
      go_enter Try.func9, Try.ntmps9
      go_wp2_with fail
      refine (awake16_w _).mono ?_
      rintro e w1 ⟨rfl, hb1⟩
      have H1 := Lib.hid hb1
      clear hb1
      go_wp2_with fail
      all_goals
        refine (awake16_w _).mono ?_
        rintro e w2 ⟨rfl, hb2⟩
        have H2 := Lib.hid (bl_next H1.out hb2)
        clear hb2
        go_wp2
        go_ret
        exact ⟨rfl, H2.out⟩
  · obtain ⟨hb1, hb2⟩ : n ≤ 60 ∧ n ≤ n2 := by omega
    clear hbig
    go_enter Try.func9, Try.ntmps9
    go_wp2_with fail
    refine (awake16_w _).mono ?_
    rintro e w1 ⟨rfl, hb1⟩
    have H1 := Lib.hid hb1
    clear hb1
    go_wp2_with fail
    refine (PaceNew_w (1 + ns) _ (by omega) (by omega)).mono ?_
    rintro e w' ⟨rfl, rfl⟩
    obtain ⟨B, hB⟩ : ∃ B, B = w1.heap.size := ⟨_, rfl⟩
    have HB := Lib.hid hB
    have HO0 := Lib.hid (Obj1.new w1 (pcr (1 + ns) 0) 51)
    have HB0 := Lib.hid (bl_alloc H1.out (.cells (pcr (1 + ns) 0) 51))
    rw [← hB] at HO0
    rw [← hB]
    clear hB
    go_wp2_with fail
    go_loopw [9, 43] (fun nx i wr => ∃ (k : Nat) (next : Int), k ≤ n ∧ i = .int .i64 k ∧ nx = .int .i64 next ∧ (0 ≤ next ∧ next ≤ (k : Int) * 700000000) ∧ Obj1 wr B (pcr (1 + ns) next) 51 ∧ Below w.heap.size w wr) (fun _ i _ => n - (intOf i).toNat)
    case atStart => exact ⟨0, 0, Nat.zero_le _, rfl, rfl, by omega, HO0.out, HB0.out⟩
    case round =>
      obtain ⟨k, next, hk, rfl, rfl, hnext, hobj, hbel⟩ := hrel
      have HO := Lib.hid hobj
      have HW := Lib.hid hbel
      clear hobj hbel
      by_cases hlt : k < n
      · obtain ⟨b1, o1, x, rfl, cx, wx⟩ := (HS.out.below HW.out).one k hlt
        obtain ⟨b2, o2, y, rfl, cy, wy⟩ := (HS2.out.below HW.out).one k (by omega)
        have hx := u16_range wx
        have hy := u16_range wy
        clear wx wy
        have hk2 : (k : Int) < (n2 : Int) := by omega
        have hk60 : (k : Int) ≤ 60 := by omega
        have hp := mul_bound (1 + y % 9216) (1 + ns) 9216 65536 (by omega) (by omega)
        have hlen : 1 ≤ 1 + y % 9216 ∧ 1 + y % 9216 ≤ 9216 := by omega
        obtain ⟨L, hL⟩ : ∃ L, L = 1 + y % 9216 := ⟨_, rfl⟩
        rw [← hL] at hp hlen
        obtain ⟨N, hN⟩ : ∃ N, N = next + x := ⟨_, rfl⟩
        have hN2 : next ≤ N ∧ N ≤ next + 65535 := by omega
        have hmul : mulC L (1 + ns) = L * (1 + ns) := by
          unfold mulC
          rw [cnt_id L (by omega) (by omega), cnt_id (1 + ns) (by omega) (by omega), if_neg (by omega)]
        obtain ⟨F, hF⟩ : ∃ F, F = N + L * (1 + ns) := ⟨_, rfl⟩
        have hfin : plus (cnt N) (mulC L (1 + ns)) = F := by
          rw [hmul, hF]
          unfold plus
          rw [cnt_id N (by omega) (by omega), cnt_id _ hp.1 (by omega), if_neg (by omega)]
        have hse1 : paceSend (1 + ns) next N L = (N, F, 0, F) := by
          unfold paceSend
          rw [if_neg (by omega), if_neg (by omega), if_neg (by omega), hfin]
        have hpos : 1 ≤ L * (1 + ns) := by
          have := Int.mul_le_mul (show (1 : Int) ≤ L by omega) (show (1 : Int) ≤ 1 + ns by omega) (by omega) (by omega)
          omega
        have hse2 : paceSend (1 + ns) F (F - 1) 1 = (0, 0, 4, F) := by
          unfold paceSend
          rw [if_neg (by omega), if_neg (by omega), if_pos (by omega)]
        have hbne : (F - N != L * (1 + ns)) = false := by rw [bne_eq_false_iff_eq]; omega
        have hF2 : N < F ∧ F ≤ ((k + 1 : Nat) : Int) * 700000000 := by omega
        have hN3 : ¬ N < next := by omega
        have HL := Lib.hid hL
        have HN := Lib.hid hN
        have HS1 := Lib.hid hse1
        have HSE2 := Lib.hid hse2
        clear hfin hse1 hse2 hL hN hmul hF
        go_wp2_with fail
        rw [← HL.out, ← HN.out]
        refine (PaceSend_e B (1 + ns) next N L _ _ _ _ _ HO.out HS1.out).mono ?_
        rintro e w2 ⟨rfl, ho2, hu2⟩
        have HO2 := Lib.hid ho2
        have HW2 := Lib.hid (bl_upd HW.out hu2 (by have := HB.out; have := H1.out.size; omega))
        clear ho2 hu2
        go_wp2_with fail
        refine (PaceSend_e B (1 + ns) F (F - 1) 1 _ _ _ _ _ HO2.out HSE2.out).mono ?_
        rintro e w3 ⟨rfl, ho3, hu3⟩
        have HO3 := Lib.hid ho3
        have HW3 := Lib.hid (bl_upd HW2.out hu3 (by have := HB.out; have := H1.out.size; omega))
        clear ho3 hu3
        go_wp2_with fail
        go_roundw
        case rel => exact ⟨k + 1, F, by omega, by go_num, rfl, by omega, HO3.out, HW3.out⟩
        case measure => simp [intOf]; omega
      · obtain rfl : k = n := by omega
        go_wp2
        go_ret
        exact ⟨rfl, HW.out⟩
end Go.Proofs.Ytlbbflmdcaakkaa
