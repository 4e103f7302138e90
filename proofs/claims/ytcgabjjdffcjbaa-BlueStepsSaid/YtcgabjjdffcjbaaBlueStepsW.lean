/- The walk of BlueSteps: it answers true. -/
import Derived.Test.YtcgabjjdffcjbaaBlueE
namespace Go.Proofs.Ytcgabjjdffcjbaa
open Go.RowKit
set_option linter.unusedVariables false
set_option linter.unusedSimpArgs false

def stepUp (u : Int) : Nat → Int
  | 0 => 0
  | j + 1 => if stepUp u j + u ≤ 65536 then stepUp u j + u else 65536
def stepDn (d V : Int) : Nat → Int
  | 0 => V
  | j + 1 => if 0 ≤ stepDn d V j - d then stepDn d V j - d else 0
theorem mul_succ_int (j : Nat) (u : Int) : ((j + 1 : Nat) : Int) * u = (j : Int) * u + u := by
  rw [Int.natCast_add, Int.add_mul]; simp
theorem stepUp_eq (u : Int) (hu : 0 ≤ u) : ∀ j, stepUp u j = if (j : Int) * u ≤ 65536 then (j : Int) * u else 65536
  | 0 => by simp [stepUp]
  | j + 1 => by
    have ih := stepUp_eq u hu j
    have := mul_succ_int j u
    have h0 := Int.mul_nonneg (Int.natCast_nonneg j) hu
    unfold stepUp
    rw [ih, this]
    repeat' split
    all_goals omega
theorem stepUp_range (u : Int) (hu : 0 ≤ u) (j : Nat) : 0 ≤ stepUp u j ∧ stepUp u j ≤ 65536 := by
  have h0 := Int.mul_nonneg (Int.natCast_nonneg j) hu
  rw [stepUp_eq u hu j]
  split <;> omega
theorem stepDn_eq (d V : Int) (hd : 0 ≤ d) (hV : 0 ≤ V) : ∀ j, stepDn d V j = if V - (j : Int) * d ≤ 0 then 0 else V - (j : Int) * d
  | 0 => by simp [stepDn]; omega
  | j + 1 => by
    have ih := stepDn_eq d V hd hV j
    have := mul_succ_int j d
    unfold stepDn
    rw [ih, this]
    repeat' split
    all_goals omega
theorem stepDn_range (d V : Int) (hd : 0 ≤ d) (hV : 0 ≤ V ∧ V ≤ 65536) (j : Nat) : 0 ≤ stepDn d V j ∧ stepDn d V j ≤ 65536 := by
  have h0 := Int.mul_nonneg (Int.natCast_nonneg j) hd
  rw [stepDn_eq d V hd hV.1 j]
  split <;> omega

/-- The bins of the law: its flow has the second of the first level, and the third of the second. -/
def S6 (x : Bn) : List Bn := [⟨0, 0, 0⟩, x, ⟨0, 0, 0⟩, ⟨0, 0, 0⟩, ⟨0, 0, 0⟩, x]
theorem S6_upd (f : Bn → Bn) (x : Bn) : updN f 3 [1, 2] 2 (S6 x) = S6 (f x) := rfl
theorem ok3 {n c p : Int} (h1 : 0 ≤ n ∧ n ≤ 4611686018427387904) (h2 : 0 ≤ c ∧ c ≤ 4611686018427387903) (h3 : 0 ≤ p ∧ p ≤ 65536) : okBn ⟨n, c, p⟩ := ⟨h1, h2, h3⟩
theorem S6_mark (n c p : Int) (h : 0 ≤ p ∧ p ≤ 65536) : markN 3 [1, 2] (S6 ⟨n, c, p⟩) 2 = p := by
  have : markN 3 [1, 2] (S6 ⟨n, c, p⟩) 2 = if p < (if p < 65536 then p else 65536) then p else (if p < 65536 then p else 65536) := rfl
  rw [this]
  repeat' split
  all_goals omega
theorem S6_ok (x : Bn) (h : okBn x) : ∀ b ∈ S6 x, okBn b := by
  intro b hb
  simp [S6] at hb
  rcases hb with rfl | rfl | rfl | rfl
  all_goals first | exact h | exact ok3 (by omega) (by omega) (by omega)
theorem touch_up (now h up down p : Int) (c : Int) (hn : 0 ≤ now ∧ now ≤ 100000000) (hc : now - c = h) : touchF now 10 h up down ⟨11, c, p⟩ = ⟨11, now, if p + up ≤ 65536 then p + up else 65536⟩ := by
  have hb : blueNow now = now := by unfold blueNow; rw [if_neg (by omega), if_neg (by omega)]
  unfold touchF
  rw [hb]
  dsimp only
  rw [if_neg (by omega), if_pos (by omega)]
theorem touch_dn (now h up down p : Int) (c : Int) (hn : 0 ≤ now ∧ now ≤ 100000000) (hc : now - c = h) : touchF now 10 h up down ⟨0, c, p⟩ = ⟨0, now, if 0 ≤ p - down then p - down else 0⟩ := by
  have hb : blueNow now = now := by unfold blueNow; rw [if_neg (by omega), if_neg (by omega)]
  unfold touchF
  rw [hb]
  dsimp only
  rw [if_neg (by omega), if_neg (by omega), if_pos rfl]

theorem sl_lt {w : World} {C : Nat} {n c : Nat} {ks : List Int} {k : IntKind} (h : SlI k w (some ⟨C, 0, none⟩) n c ks) (hn : 0 < n) : C < w.heap.size := by
  obtain ⟨ad, e, hc, _⟩ := h.at 0 hn
  cases e
  rw [add_flat] at hc
  exact cell_lt hc

set_option maxRecDepth 100000 in
set_option maxHeartbeats 8000000 in
theorem BlueSteps_w (up down n m hold : Int) (w : World) (wup : (Lit.int .u16 up).wf = true) (wdn : (Lit.int .u16 down).wf = true) (wn : (Lit.int .u8 n).wf = true) (wm : (Lit.int .u8 m).wf = true) (wh : (Lit.int .u16 hold).wf = true) :
    Calls Try.prog 8 #[.int .u16 up, .int .u16 down, .int .u8 n, .int .u8 m, .int .u16 hold] w fun e w' => e = .returned (.bool true) ∧ Below w.heap.size w w' := by
  have hup := u16_range wup
  have hdn := u16_range wdn
  have hnr := u8_range wn
  have hmr := u8_range wm
  have hhr := u16_range wh
  clear wup wdn wn wm wh
  obtain ⟨h, hhd⟩ : ∃ h, h = hold % 1000 := ⟨_, rfl⟩
  have hh : 0 ≤ h ∧ h ≤ 999 := by omega
  have HHD := Lib.hid hhd
  have f1 : flowsB 2 3 [1, 2] = true := rfl
  have f2 : mayV 11 = true := rfl
  have HF1 := Lib.hid f1
  have HF2 := Lib.hid f2
  clear hhd f1 f2
  go_enter Try.func8, Try.ntmps8
  go_wp2_with fail
  refine (awake20_w _).mono ?_
  rintro e w0 ⟨rfl, hb0⟩
  have HW0 := Lib.hid hb0
  clear hb0
  go_wp2_with fail
  rw [← HHD.out]
  refine (blueNew_w 2 3 10 h up down _ (by omega) (by omega) (by omega) (by omega) (by omega) (by omega)).mono ?_
  rintro e w1 ⟨rfl, ho1, ho2, hb1⟩
  obtain ⟨D, hD⟩ : ∃ D, D = w0.heap.size := ⟨_, rfl⟩
  rw [← hD] at ho1 ho2
  rw [← hD]
  have hDw1 : D < w1.heap.size := ho2.lt
  have hBw1 : D + 1 < w1.heap.size := ho1.lt
  have hwD : w.heap.size ≤ D := by have := HW0.out.size; omega
  have HO1 := Lib.hid ho1
  have HO2 := Lib.hid ho2
  have HW1 := Lib.hid (bl_next HW0.out hb1)
  clear ho1 ho2 hb1 hD
  go_wp2_with fail
  obtain ⟨C, hC⟩ : ∃ C, C = w1.heap.size := ⟨_, rfl⟩
  have hsl : SlI .i64 (w1.alloc (.cells #[.int .i64 1, .int .i64 2] 3)) (some ⟨C, 0, none⟩) 2 2 [1, 2] := by
    rw [hC]
    exact SlI.of_obj (l := [1, 2]) (Obj1.new w1 #[.int .i64 1, .int .i64 2] 3) (by simp) (by intro x hx; simp at hx; rcases hx with rfl | rfl <;> decide)
  have HSL := Lib.hid hsl
  rw [← hC] at hDw1 hBw1 ⊢
  clear hsl hC
  have hCD : C ≠ D := by omega
  refine (bluePut_w (D + 1) D 6 2 3 10 h up down 11 _ 2 2 [1, 2] (S6 ⟨0, 0, 0⟩) _ (HO1.out.alloc _) (HO2.out.alloc _) HSL.out rfl rfl (by omega) (by omega) (by omega) (fun ad e => by cases e; exact hCD) (by omega)).mono ?_
  rw [HF1.out, HF2.out, Bool.true_and, if_pos rfl, S6_upd, show putF 11 ⟨0, 0, 0⟩ = ⟨11, 0, 0⟩ from rfl]
  rintro e w2 ⟨rfl, hd2, hu2⟩
  have HD2 := Lib.hid hd2
  have HB2 := Lib.hid (Obj1.of_grown (HO1.out.alloc _) hu2 (by simp))
  have HSL2 := Lib.hid (HSL.out.updd hu2 hCD)
  have HW2 := Lib.hid (bl_upd (bl_alloc HW1.out _) hu2 hwD)
  clear hd2 hu2
  go_wp2_with fail
  go_loopw [15, 37] (fun nw i wr => ∃ (k : Nat) (now : Int), (k : Int) ≤ n % 100 ∧ i = .int .u8 k ∧ nw = .int .i64 now ∧ (0 ≤ now ∧ now ≤ (k : Int) * 1000) ∧ Obj1 wr D (binsC (S6 ⟨11, now, stepUp up k⟩)) 82 ∧ Obj1 wr (D + 1) (blueC D 6 2 3 10 h up down) 77 ∧ SlI .i64 wr (some ⟨C, 0, none⟩) 2 2 [1, 2] ∧ Below w.heap.size w wr) (fun _ i _ => (n % 100).toNat - (intOf i).toNat)
  case atStart => exact ⟨0, 0, by omega, rfl, rfl, by omega, HD2.out, HB2.out, HSL2.out, HW2.out⟩
  case round =>
    obtain ⟨k, now, hk, rfl, rfl, hnw, hobj, hbl, hsl, hbel⟩ := hrel
    have HO := Lib.hid hobj
    have HBL := Lib.hid hbl
    have HSL3 := Lib.hid hsl
    have HW := Lib.hid hbel
    clear hobj hbl hsl hbel
    by_cases hlt : (k : Int) < n % 100
    · obtain ⟨N, hN⟩ : ∃ N, N = now + h := ⟨_, rfl⟩
      have hNw : IntKind.i64.wrap (now + h) = N := by rw [hN]; exact IntWalk.i64_in _ (by omega)
      have hNr : 0 ≤ N ∧ N ≤ ((k + 1 : Nat) : Int) * 1000 := by omega
      have hNc : N - now = h := by omega
      have hpr := stepUp_range up hup.1 k
      clear hN
      go_wp2_with fail
      refine (blueTouch_w (D + 1) D 6 2 3 10 h up down N _ 2 2 [1, 2] _ _ HBL.out HO.out HSL3.out rfl rfl (by omega) (by omega) (by omega) (fun ad e => by cases e; exact hCD) (S6_ok _ (ok3 (by omega) (by omega) hpr)) (by omega) (by omega) (by omega) (by omega) (by omega)).mono ?_
      rw [HF1.out, if_pos rfl, S6_upd, touch_up N h up down _ now (by omega) hNc]
      rintro e w3 ⟨rfl, hd3, hu3⟩
      have HD3 := Lib.hid hd3
      have HB3 := Lib.hid (Obj1.of_grown HBL.out hu3 (by simp))
      have HSL4 := Lib.hid (HSL3.out.updd hu3 hCD)
      have HW3 := Lib.hid (bl_upd HW.out hu3 hwD)
      clear hd3 hu3
      go_wp2_with fail
      go_roundw
      case rel => exact ⟨k + 1, N, by omega, by go_num, rfl, hNr, HD3.out, HB3.out, HSL4.out, HW3.out⟩
      case measure => simp [intOf]; omega
    · have hkn : (k : Int) = n % 100 := by omega
      have hwant := stepUp_eq up hup.1 k
      have hpr := stepUp_range up hup.1 k
      rw [hkn] at hwant
      obtain ⟨V, hV⟩ : ∃ V, stepUp up k = V := ⟨_, rfl⟩
      rw [hV] at hwant hpr
      have hmu : 0 ≤ n % 100 * up ∧ n % 100 * up ≤ 99 * 65535 := ⟨Int.mul_nonneg (by omega) hup.1, Int.mul_le_mul (by omega) hup.2 hup.1 (by omega)⟩
      obtain ⟨W, hW⟩ : ∃ W, n % 100 * up = W := ⟨_, rfl⟩
      rw [hW] at hwant hmu
      have hWw : IntKind.i64.wrap (n % 100 * up) = W := by rw [hW]; exact IntWalk.i64_in _ (by omega)
      have hVc : (65536 ≤ W ∧ 65536 = V) ∨ (W < 65536 ∧ W = V) := by
        split at hwant <;> omega
      have hHO := HO.out
      rw [hV] at hHO
      have HO5 := Lib.hid hHO
      clear hHO hwant hW HO hV
      rcases hVc with ⟨q1, q2⟩ | ⟨q1, q2⟩
      all_goals
        go_wp2_with fail
        refine (blueMark_w (D + 1) D 6 2 3 10 h up down _ 2 2 [1, 2] _ _ HBL.out HO5.out HSL3.out rfl rfl (by omega) (by omega) (by omega) (fun ad e => by cases e; exact hCD) (fun ad e => by cases e; exact sl_lt HSL3.out (by omega))).mono ?_
        rw [HF1.out, if_pos rfl, S6_mark _ _ _ hpr]
        rintro e w4 ⟨rfl, hb4⟩
        have HO6 := Lib.hid (HO5.out.below hb4)
        have HBL6 := Lib.hid (HBL.out.below hb4)
        have HSL6 := Lib.hid (HSL3.out.below hb4)
        have HW6 := Lib.hid (bl_next HW.out hb4)
        clear hb4
        go_wp2_with fail
        refine (blueTake_w (D + 1) D 6 2 3 10 h up down 11 _ 2 2 [1, 2] _ _ HBL6.out HO6.out HSL6.out rfl rfl (by omega) (by omega) (by omega) (fun ad e => by cases e; exact hCD) (by omega)).mono ?_
        rw [HF1.out, HF2.out, Bool.true_and, if_pos rfl, S6_upd, show takeF 11 ⟨11, now, V⟩ = ⟨0, now, V⟩ from rfl]
        rintro e w5 ⟨rfl, hd5, hu5⟩
        have HD7 := Lib.hid hd5
        have HB7 := Lib.hid (Obj1.of_grown HBL6.out hu5 (by simp))
        have HSL7 := Lib.hid (HSL6.out.updd hu5 hCD)
        have HW7 := Lib.hid (bl_upd HW6.out hu5 hwD)
        clear hd5 hu5
        go_wp2_with fail
        go_loopw [15, 64] (fun nw i wr => ∃ (j : Nat) (now2 : Int), (j : Int) ≤ m % 100 ∧ i = .int .u8 j ∧ nw = .int .i64 now2 ∧ (0 ≤ now2 ∧ now2 ≤ 100000 + (j : Int) * 1000) ∧ Obj1 wr D (binsC (S6 ⟨0, now2, stepDn down V j⟩)) 82 ∧ Obj1 wr (D + 1) (blueC D 6 2 3 10 h up down) 77 ∧ SlI .i64 wr (some ⟨C, 0, none⟩) 2 2 [1, 2] ∧ Below w.heap.size w wr) (fun _ i _ => (m % 100).toNat - (intOf i).toNat)
        case atStart => exact ⟨0, now, by omega, rfl, rfl, by omega, HD7.out, HB7.out, HSL7.out, HW7.out⟩
        case round =>
          obtain ⟨j, now2, hj, rfl, rfl, hnw2, hobj, hbl, hsl, hbel⟩ := hrel
          have HO8 := Lib.hid hobj
          have HBL8 := Lib.hid hbl
          have HSL8 := Lib.hid hsl
          have HW8 := Lib.hid hbel
          clear hobj hbl hsl hbel
          have hpd := stepDn_range down V hdn.1 hpr j
          by_cases hlt2 : (j : Int) < m % 100
          · obtain ⟨N, hN⟩ : ∃ N, N = now2 + h := ⟨_, rfl⟩
            have hNw : IntKind.i64.wrap (now2 + h) = N := by rw [hN]; exact IntWalk.i64_in _ (by omega)
            have hNr : 0 ≤ N ∧ N ≤ 100000 + ((j + 1 : Nat) : Int) * 1000 := by omega
            have hNc : N - now2 = h := by omega
            clear hN
            go_wp2_with fail
            refine (blueTouch_w (D + 1) D 6 2 3 10 h up down N _ 2 2 [1, 2] _ _ HBL8.out HO8.out HSL8.out rfl rfl (by omega) (by omega) (by omega) (fun ad e => by cases e; exact hCD) (S6_ok _ (ok3 (by omega) (by omega) hpd)) (by omega) (by omega) (by omega) (by omega) (by omega)).mono ?_
            rw [HF1.out, if_pos rfl, S6_upd, touch_dn N h up down _ now2 (by omega) hNc]
            rintro e w9 ⟨rfl, hd9, hu9⟩
            have HD9 := Lib.hid hd9
            have HB9 := Lib.hid (Obj1.of_grown HBL8.out hu9 (by simp))
            have HSL9 := Lib.hid (HSL8.out.updd hu9 hCD)
            have HW9 := Lib.hid (bl_upd HW8.out hu9 hwD)
            clear hd9 hu9
            go_wp2_with fail
            go_roundw
            case rel => exact ⟨j + 1, N, by omega, by go_num, rfl, hNr, HD9.out, HB9.out, HSL9.out, HW9.out⟩
            case measure => simp [intOf]; omega
          · have hjm : (j : Int) = m % 100 := by omega
            have hwant := stepDn_eq down V hdn.1 hpr.1 j
            rw [hjm] at hwant
            obtain ⟨P, hP⟩ : ∃ P, stepDn down V j = P := ⟨_, rfl⟩
            rw [hP] at hwant hpd
            have hmu2 : 0 ≤ m % 100 * down ∧ m % 100 * down ≤ 99 * 65535 := ⟨Int.mul_nonneg (by omega) hdn.1, Int.mul_le_mul (by omega) hdn.2 hdn.1 (by omega)⟩
            obtain ⟨Y, hY⟩ : ∃ Y, m % 100 * down = Y := ⟨_, rfl⟩
            rw [hY] at hwant hmu2
            have hYw : IntKind.i64.wrap (m % 100 * down) = Y := by rw [hY]; exact IntWalk.i64_in _ (by omega)
            have hPc : (V - Y ≤ 0 ∧ P = 0) ∨ (0 < V - Y ∧ P = V - Y) := by
              split at hwant <;> omega
            have hHO := HO8.out
            rw [hP] at hHO
            have HO9 := Lib.hid hHO
            clear hHO hwant hY HO8 hP
            rcases hPc with ⟨q3, q4⟩ | ⟨q3, q4⟩
            all_goals
              go_wp2_with fail
              refine (blueMark_w (D + 1) D 6 2 3 10 h up down _ 2 2 [1, 2] _ _ HBL8.out HO9.out HSL8.out rfl rfl (by omega) (by omega) (by omega) (fun ad e => by cases e; exact hCD) (fun ad e => by cases e; exact sl_lt HSL8.out (by omega))).mono ?_
              rw [HF1.out, if_pos rfl, S6_mark _ _ _ hpd]
              rintro e w10 ⟨rfl, hb10⟩
              have HW10 := Lib.hid (bl_next HW8.out hb10)
              clear hb10
              go_wp2
              go_ret
              refine ⟨ret_bool ?_, HW10.out⟩
              simp
end Go.Proofs.Ytcgabjjdffcjbaa
