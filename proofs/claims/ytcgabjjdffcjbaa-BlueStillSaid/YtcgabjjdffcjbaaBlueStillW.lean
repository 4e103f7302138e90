/- The walk of BlueStill: it answers true. -/
import Derived.Test.YtcgabjjdffcjbaaBlueAloneW
import Derived.Test.YtcgabjjdffcjbaaBlueI
namespace Go.Proofs.Ytcgabjjdffcjbaa
open Go.RowKit
set_option linter.unusedVariables false
set_option linter.unusedSimpArgs false

set_option maxRecDepth 100000 in
set_option maxHeartbeats 3000000 in
theorem BlueStill_x (levels bins up down target hold : Int) (A : Option Addr) (n c : Nat) (rows : List (List Value)) (w : World)
    (r0 : -9223372036854775808 ≤ levels ∧ levels ≤ 9223372036854775807) (r1 : -9223372036854775808 ≤ bins ∧ bins ≤ 9223372036854775807) (hs : SlQ [.i .u8, .sl .i64, .i .i64] w A n c rows) :
    Calls Try.prog 9 #[.agg (setC levels bins up down target hold), .slice A n c] w fun e w' => e = .returned (.bool true) ∧ Below w.heap.size w w' := by
  have hn : n ≤ 9223372036854775807 := Nat.le_trans hs.2.1 hs.2.2.1
  have HS := Lib.hid hs
  clear hs
  unfold setC
  have hE := Lib.hid (Obj1.new w #[.int .i64 levels, .int .i64 bins, .int .i64 up, .int .i64 down, .int .i64 target, .int .i64 hold] 46)
  have hBE := Lib.hid (bl_alloc (Below.refl w.heap.size w) (.cells #[.int .i64 levels, .int .i64 bins, .int .i64 up, .int .i64 down, .int .i64 target, .int .i64 hold] 46))
  go_enter Try.func9, Try.ntmps9
  go_wp2_with fail
  refine (awake20_w _).mono ?_
  rintro e w1 ⟨rfl, hb1⟩
  have HE1 := Lib.hid (hE.out.below hb1)
  have HW1 := Lib.hid (bl_next hBE.out hb1)
  clear hb1
  go_wp2_with fail
  refine (few_w A n c rows _ (HS.out.below HW1.out)).mono ?_
  rintro e w' ⟨⟨fw, rfl, hfw⟩, rfl⟩
  clear hfw
  cases fw
  · go_wp2_with fail
    refine (awake20_w _).mono ?_
    rintro e w2 ⟨rfl, hb2⟩
    have HW2 := Lib.hid (bl_next HW1.out hb2)
    clear hb2
    go_wp2
    go_ret
    exact ⟨rfl, HW2.out⟩
  · have e0 : w1.cell? ⟨w.heap.size, 0, none⟩ = some (.int .i64 levels) := HE1.out.cell 0
    have e1 : w1.cell? ⟨w.heap.size, 1, none⟩ = some (.int .i64 bins) := HE1.out.cell 1
    have e2 : w1.cell? ⟨w.heap.size, 2, none⟩ = some (.int .i64 up) := HE1.out.cell 2
    have e3 : w1.cell? ⟨w.heap.size, 3, none⟩ = some (.int .i64 down) := HE1.out.cell 3
    have e4 : w1.cell? ⟨w.heap.size, 4, none⟩ = some (.int .i64 target) := HE1.out.cell 4
    have e5 : w1.cell? ⟨w.heap.size, 5, none⟩ = some (.int .i64 hold) := HE1.out.cell 5
    by_cases hok : setOk levels bins up down target hold
    · obtain ⟨o1, o2, o3, o4, o5, o6, o7, o8, o9, o10, o11, o12⟩ := hok
      obtain ⟨nl, rfl⟩ := Int.eq_ofNat_of_zero_le (show 0 ≤ levels by omega)
      obtain ⟨nb, rfl⟩ := Int.eq_ofNat_of_zero_le (show 0 ≤ bins by omega)
      have hnl : nl ≤ 4 := by omega
      have hnb : nb ≤ 64 := by omega
      go_wp2_with fail
      refine (blueNew_w nl nb target hold up down _ (by omega) (by omega) (by omega) (by omega) (by omega) (by omega)).mono ?_
      rintro e w2 ⟨rfl, ho1, ho2, hb2⟩
      obtain ⟨D, hD⟩ : ∃ D, D = w1.heap.size := ⟨_, rfl⟩
      rw [← hD] at ho1 ho2
      rw [← hD]
      have hwD : w.heap.size ≤ D := by have := HW1.out.size; omega
      have hED : w.heap.size < D := by have := HE1.out.lt; omega
      obtain ⟨N, hN⟩ : ∃ N, N = nl * nb := ⟨_, rfl⟩
      rw [← hN] at ho1 ho2
      have hN4 : N ≤ 4 * 64 := by rw [hN]; exact Nat.mul_le_mul hnl hnb
      have HN := Lib.hid hN
      have hok0 : ∀ b ∈ List.replicate N (Bn.mk 0 0 0), okBn b := fun b hb => by rw [List.mem_replicate] at hb; rw [hb.2]; exact ⟨by decide, by decide, by decide⟩
      have HOK0 := Lib.hid hok0
      have HO1 := Lib.hid ho1
      have HO2 := Lib.hid ho2
      have HE2 := Lib.hid (HE1.out.below hb2)
      have HW2 := Lib.hid (bl_next HW1.out hb2)
      clear ho1 ho2 hb2 hD e0 e1 e2 e3 e4 e5 hN hok0
      go_wp2_with fail
      go_loopw [50] (fun i wr => ∃ (k : Nat) (l : List Bn), k ≤ n ∧ i = .int .i64 k ∧ l.length = N ∧ (∀ b ∈ l, okBn b) ∧ Obj1 wr D (binsC l) 82 ∧ Obj1 wr (D + 1) (blueC D N nl nb target hold up down) 77 ∧ Obj1 wr w.heap.size #[.int .i64 nl, .int .i64 nb, .int .i64 up, .int .i64 down, .int .i64 target, .int .i64 hold] 46 ∧ Below w.heap.size w wr) (fun i _ => n - (intOf i).toNat)
      case atStart => exact ⟨0, _, Nat.zero_le _, rfl, by simp, HOK0.out, HO2.out, HO1.out, HE2.out, HW2.out⟩
      case round =>
        obtain ⟨k, l, hk, rfl, hll, hok, hobj, hbl, hset, hbel⟩ := hrel
        have HOK := Lib.hid hok
        have HO := Lib.hid hobj
        have HBL := Lib.hid hbl
        have HSE := Lib.hid hset
        have HW := Lib.hid hbel
        clear hok hobj hbl hset hbel
        by_cases hlt : k < n
        · obtain ⟨sb, so, kd, a, m, d, ks, nn, rfl, c0', c1', c2', hsa0, wkd, wnn⟩ := HS.out.act k hlt
          have c0 := bl_keeps HW.out c0'
          have c1 := bl_keeps HW.out c1'
          have c2 := bl_keeps HW.out c2'
          have hkd := u8_range wkd
          have hnn := i64_range wnn
          have hk0 : (0 : Int) ≤ (k : Int) := Int.natCast_nonneg k
          have hk1 : (k : Int) < (n : Int) := by omega
          have hneA : 0 < m → ∀ ad, a = some ad → ad.block ≠ D := fun h ad e => by
            obtain ⟨ad', e', hc, _⟩ := hsa0.at 0 h
            rw [e] at e'
            cases e'
            have hc := cell_lt hc
            have hbl : (ad.add 0).block = ad.block := by unfold Addr.add; split <;> rfl
            rw [hbl] at hc
            omega
          have HNEA := Lib.hid hneA
          obtain ⟨WA, hWA⟩ : ∃ WA, WA = wr.alloc (.cells #[.int .u8 kd, .slice a m d, .int .i64 nn] 55) := ⟨_, rfl⟩
          obtain ⟨F, hF⟩ : ∃ F, F = wr.heap.size := ⟨_, rfl⟩
          have HFA := Lib.hid (Obj1.new wr #[.int .u8 kd, .slice a m d, .int .i64 nn] 55)
          have HOA := Lib.hid (HO.out.alloc (.cells #[.int .u8 kd, .slice a m d, .int .i64 nn] 55))
          have HBA := Lib.hid (HBL.out.alloc (.cells #[.int .u8 kd, .slice a m d, .int .i64 nn] 55))
          have HSEA := Lib.hid (HSE.out.alloc (.cells #[.int .u8 kd, .slice a m d, .int .i64 nn] 55))
          have HWA := Lib.hid (bl_alloc HW.out (.cells #[.int .u8 kd, .slice a m d, .int .i64 nn] 55))
          have HSA := Lib.hid (hsa0.below HWA.out)
          have hFD : F ≠ D := by have := HO.out.lt; omega
          have hwF : w.heap.size ≤ F := by have := HW.out.size; omega
          have hFA : F < WA.heap.size := by rw [hWA, hF]; simp
          have g0 : (wr.alloc (.cells #[.int .u8 kd, .slice a m d, .int .i64 nn] 55)).cell? ⟨w.heap.size, 0, none⟩ = some (.int .i64 nl) := HSEA.out.cell 0
          clear wkd wnn hsa0 c0' c1' c2' hneA
          go_wp2_with (refine load_cells rfl 55 (.tmp 55) rfl ⟨sb, so + k * 3, none⟩ [.int .u8 kd, .slice a m d, .int .i64 nn] _ rfl (three_cells c0 c1 c2) Try.underlying55 rfl (by kernel_rfl) ?_)
          rw [← hWA, ← hF] at HFA
          rw [← hWA] at HOA HBA HSEA HWA HSA
          rw [← hWA, ← hF]
          clear hWA hF c0 c1 c2 g0
          go_loopw [9, 59] (fun v i W => ∃ (j : Nat), j ≤ nl ∧ i = .int .i64 j ∧ W.ownsRow WA.heap.size 2 1 v (2 * (j * nb)) (vals (wasL (l.take (j * nb)))) ∧ Below WA.heap.size WA W) (fun _ i _ => nl - (intOf i).toNat)
          case atStart => exact ⟨0, Nat.zero_le _, rfl, by rw [Nat.zero_mul, List.take_zero]; exact World.ownsRow_nil _ _ _ _, Below.refl _ _⟩
          case round =>
            obtain ⟨j, hj, rfl, hown, hbj⟩ := hrel
            have HBJ := Lib.hid hbj
            have HOWN := Lib.hid hown
            clear hown hbj
            by_cases hjl : j < nl
            · have hj0 : (0 : Int) ≤ (j : Int) := Int.natCast_nonneg j
              have hj1 : (j : Int) < (nl : Int) := by omega
              have g1 : wr.cell? ⟨w.heap.size, 1, none⟩ = some (.int .i64 nb) := (HSEA.out.below HBJ.out).cell 1
              go_wp2_with fail
              go_loopw [9, 64] (fun v i W => ∃ (q : Nat), q ≤ nb ∧ i = .int .i64 q ∧ W.ownsRow WA.heap.size 2 1 v (2 * (j * nb + q)) (vals (wasL (l.take (j * nb + q)))) ∧ Below WA.heap.size WA W) (fun _ i _ => nb - (intOf i).toNat)
              case atStart => exact ⟨0, Nat.zero_le _, rfl, HOWN.out, HBJ.out⟩
              case round =>
                obtain ⟨q, hq, rfl, hown, hbq⟩ := hrel
                have HBQ := Lib.hid hbq
                have HOWQ := Lib.hid hown
                clear hown hbq
                by_cases hql : q < nb
                · have hq0 : (0 : Int) ≤ (q : Int) := Int.natCast_nonneg q
                  have hq1 : (q : Int) < (nb : Int) := by omega
                  obtain ⟨b, hb, hM⟩ := bin_at hll HN.out hjl hql
                  have HB := Lib.hid hb
                  clear hb
                  go_wp2_with fail
                  refine (blueBin_w (D + 1) D N nl nb j q target hold up down l b _ (HBA.out.below HBQ.out) (HOA.out.below HBQ.out) hll HN.out hnb hnl hjl hql HB.out).mono ?_
                  rintro e w5 ⟨rfl, hb5⟩
                  have HOW5 := Lib.hid (own_below HOWQ.out hb5)
                  have HB5 := Lib.hid (bl_next HBQ.out hb5)
                  clear hb5
                  go_wp2_with (at_builtin; refine app_list WA.heap.size rfl (.tmp 74) (.tmp 77) 59 2 (.int .i64 0) 1 8 rfl Try.underlying59 (by kernel_rfl) rfl (by omega) (by omega) _ (2 * (j * nb + q)) _ (some ⟨w5.heap.size, 0, none⟩) 2 2 [.int .i64 b.n, .int .i64 b.p] rfl rfl (HOW5.out.alloc _) rfl (Rd.new _ _ _) (by simp [Value.oneCell']) (by omega) (by have := HB5.out.size; simp; omega) ?_; intro v1 w6 hown6 hg6)
                  go_roundw
                  case rel => exact ⟨q + 1, by omega, by go_num, by have e := was_append l _ b HB.out; rw [show 2 * (j * nb + (q + 1)) = 2 * (j * nb + q) + 2 by omega, ← Nat.add_assoc, ← e]; exact hown6, bl_grown (bl_alloc HB5.out _) (HOW5.out.alloc _) hg6 (Nat.le_refl _)⟩
                  case measure => simp [intOf]; omega
                · obtain rfl : q = nb := by omega
                  go_wp2_with fail
                  go_roundw
                  case rel => exact ⟨j + 1, by omega, by go_num, by rw [show (j + 1) * q = j * q + q from Nat.succ_mul j q]; exact HOWQ.out, HBQ.out⟩
                  case measure => simp [intOf]; omega
            · obtain rfl : j = nl := by omega
              have hfull : l.take (j * nb) = l := List.take_of_length_le (by rw [hll, HN.out]; exact Nat.le_refl _)
              have hown := HOWN.out
              rw [hfull, ← HN.out] at hown
              obtain ⟨wA, wc, rfl, hrd, hwA⟩ := own_RdB hown
              have HRD := Lib.hid hrd
              have HOJ := Lib.hid (HOA.out.below HBJ.out)
              have HBJL := Lib.hid (HBA.out.below HBJ.out)
              have HSEJ := Lib.hid (HSEA.out.below HBJ.out)
              have HFJ := Lib.hid (HFA.out.below HBJ.out)
              have HSAJ := Lib.hid (HSA.out.below HBJ.out)
              have HWJ := Lib.hid (bl_next HWA.out HBJ.out)
              have f0 : wr.cell? ⟨F, 0, none⟩ = some (.int .u8 kd) := HFJ.out.cell 0
              have f1 : wr.cell? ⟨F, 1, none⟩ = some (.slice a m d) := HFJ.out.cell 1
              have f2 : wr.cell? ⟨F, 2, none⟩ = some (.int .i64 nn) := HFJ.out.cell 2
              have hneW : ∀ ad, wA = some ad → ad.block ≠ D := fun ad e => by have := hwA ad e; have := HOA.out.lt; omega
              have HNEW := Lib.hid hneW
              obtain ⟨L, hL⟩ : ∃ L, L = 2 * N := ⟨_, rfl⟩
              rw [← hL]
              have HL := Lib.hid hL
              clear hL
              clear hown hrd hwA hneW hfull HOWN
              have hk3 : kd % 3 = 0 ∨ kd % 3 = 1 ∨ kd % 3 = 2 := by omega
              rcases hk3 with h3 | h3 | h3
              · go_wp2_with fail
                refine (bluePut_w (D + 1) D N j nb target hold up down nn a m d ks l _ HBJL.out HOJ.out HSAJ.out hll HN.out (by omega) (by omega) (by omega) HNEA.out hnn).mono ?_
                rintro e w5 ⟨rfl, hd5, hu5⟩
                have hkeep := keep_put nn nb ks l j (mayV nn && flowsB j nb ks) HOK.out
                have HRD5 := Lib.hid (HRD.out.upd hu5 HNEW.out)
                have HB5 := Lib.hid (Obj1.of_grown HBJL.out hu5 (by simp))
                have HSE5 := Lib.hid (Obj1.of_grown HSEJ.out hu5 (by simp; omega))
                have HW5 := Lib.hid (bl_upd HWJ.out hu5 hwD)
                obtain ⟨l5, hl5⟩ : ∃ l5, l5 = (if (mayV nn && flowsB j nb ks) = true then updN (putF nn) nb ks j l else l) := ⟨_, rfl⟩
                rw [← hl5] at hd5 hkeep
                have HD5 := Lib.hid hd5
                have HKEEP := Lib.hid hkeep
                have hll5 : l5.length = N := hkeep.1.trans hll
                clear hd5 hkeep hu5 hl5 f0 f1 f2
                have g5 : w5.cell? ⟨w.heap.size, 0, none⟩ = some (.int .i64 j) := HSE5.out.cell 0
                go_wp2_with fail
                go_loopw [112] (fun i W => ∃ (x : Nat), x ≤ j ∧ i = .int .i64 x ∧ Below w5.heap.size w5 W) (fun i _ => j - (intOf i).toNat)
                case atStart => exact ⟨0, Nat.zero_le _, rfl, Below.refl _ _⟩
                case round =>
                  obtain ⟨x, hx, rfl, hbx⟩ := hrel
                  have HBX := Lib.hid hbx
                  clear hbx
                  by_cases hxl : x < j
                  · have hx0 : (0 : Int) ≤ (x : Int) := Int.natCast_nonneg x
                    have hx1 : (x : Int) < (j : Int) := by omega
                    have g1 : wr.cell? ⟨w.heap.size, 1, none⟩ = some (.int .i64 nb) := (HSE5.out.below HBX.out).cell 1
                    go_wp2_with fail
                    go_loopw [117] (fun i W => ∃ (y : Nat), y ≤ nb ∧ i = .int .i64 y ∧ Below w5.heap.size w5 W) (fun i _ => nb - (intOf i).toNat)
                    case atStart => exact ⟨0, Nat.zero_le _, rfl, HBX.out⟩
                    case round =>
                      obtain ⟨y, hy, rfl, hby⟩ := hrel
                      have HBY0 := Lib.hid hby
                      clear hby
                      by_cases hyl : y < nb
                      · have hy0 : (0 : Int) ≤ (y : Int) := Int.natCast_nonneg y
                        have hy1 : (y : Int) < (nb : Int) := by omega
                        obtain ⟨_, _, hM⟩ := bin_at hll HN.out hxl hyl
                        obtain ⟨b, ad, hb, ⟨hp0, hp1⟩, rfl, hct, hcf⟩ := still_at HKEEP.out HRD5.out (x * nb + y) hM
                        have HBB := Lib.hid hb
                        have HC := Lib.hid (hcf rfl)
                        clear hb hct hcf
                        go_wp2_with fail
                        refine (blueBin_w (D + 1) D N j nb x y target hold up down l5 b _ (HB5.out.below HBY0.out) (HD5.out.below HBY0.out) hll5 HN.out hnb (by omega) hxl hyl HBB.out).mono ?_
                        rintro e wq ⟨rfl, hb6⟩
                        have HBY := Lib.hid (bl_next HBY0.out hb6)
                        obtain ⟨X, hX⟩ : ∃ X, X = x * nb := ⟨_, rfl⟩
                        have hX4 : X ≤ 4 * 64 := by rw [hX]; exact Nat.mul_le_mul (by omega) hnb
                        obtain ⟨M, hM2⟩ : ∃ M, M = X + y := ⟨_, rfl⟩
                        obtain ⟨E, hE2⟩ : ∃ E, E = 2 * M := ⟨_, rfl⟩
                        obtain ⟨E1, hE1⟩ : ∃ E1, E1 = E + 1 := ⟨_, rfl⟩
                        have hM' : M < N := by rw [hM2, hX]; omega
                        have hc := HC.out
                        rw [← hX, ← hM2] at hc
                        have q1 : IntKind.i64.wrap ((x : Int) * (nb : Int)) = (X : Int) := by rw [show (x : Int) * (nb : Int) = (X : Int) by rw [hX]; exact (Int.natCast_mul _ _).symm]; exact IntWalk.i64_in _ (by omega)
                        have q2 : IntKind.i64.wrap ((X : Int) + (y : Int)) = (M : Int) := by rw [show (X : Int) + (y : Int) = (M : Int) by omega]; exact IntWalk.i64_in _ (by omega)
                        have q3 : IntKind.i64.wrap (2 * (M : Int)) = (E : Int) := by rw [show 2 * (M : Int) = (E : Int) by omega]; exact IntWalk.i64_in _ (by omega)
                        have q4 : IntKind.i64.wrap ((E : Int) + 1) = (E1 : Int) := by rw [show (E : Int) + 1 = (E1 : Int) by omega]; exact IntWalk.i64_in _ (by omega)
                        have q5 : (0 : Int) ≤ (E : Int) := Int.natCast_nonneg E
                        have q6 : (E : Int) < (L : Int) := by have := HL.out; omega
                        have q7 : (0 : Int) ≤ (E1 : Int) := Int.natCast_nonneg _
                        have q8 : (E1 : Int) < (L : Int) := by have := HL.out; omega
                        have r1 : wq.cell? (ad.add E1) = some (.int .i64 b.p) := by rw [hE1, hE2]; exact bl_keeps HBY.out hc
                        have q9 : ¬ b.p < 0 := by omega
                        have q10 : ¬ 65536 < b.p := by omega
                        have g6 : wq.cell? ⟨w.heap.size, 1, none⟩ = some (.int .i64 nb) := (HSE5.out.below HBY.out).cell 1
                        clear hb6 hX hM2 hE2 hE1 hc HC
                        go_wp2
                        go_roundw
                        case rel => exact ⟨y + 1, by omega, by go_num, HBY.out⟩
                        case measure => simp [intOf]; omega
                      · obtain rfl : y = nb := by omega
                        go_wp2_with fail
                        go_roundw
                        case rel => exact ⟨x + 1, by omega, by go_num, HBY0.out⟩
                        case measure => simp [intOf]; omega
                  · obtain rfl : x = j := by omega
                    go_wp2_with fail
                    go_roundw
                    case rel => exact ⟨k + 1, l5, by omega, by go_num, hll5, HKEEP.out.2.1, HD5.out.below HBX.out, HB5.out.below HBX.out, HSE5.out.below HBX.out, bl_next HW5.out HBX.out⟩
                    case measure => simp [intOf]; omega
              · go_wp2_with fail
                refine (blueTake_w (D + 1) D N j nb target hold up down nn a m d ks l _ HBJL.out HOJ.out HSAJ.out hll HN.out (by omega) (by omega) (by omega) HNEA.out hnn).mono ?_
                rintro e w5 ⟨rfl, hd5, hu5⟩
                have hkeep := keep_take nn nb ks l j (mayV nn && flowsB j nb ks) HOK.out
                have HRD5 := Lib.hid (HRD.out.upd hu5 HNEW.out)
                have HB5 := Lib.hid (Obj1.of_grown HBJL.out hu5 (by simp))
                have HSE5 := Lib.hid (Obj1.of_grown HSEJ.out hu5 (by simp; omega))
                have HW5 := Lib.hid (bl_upd HWJ.out hu5 hwD)
                obtain ⟨l5, hl5⟩ : ∃ l5, l5 = (if (mayV nn && flowsB j nb ks) = true then updN (takeF nn) nb ks j l else l) := ⟨_, rfl⟩
                rw [← hl5] at hd5 hkeep
                have HD5 := Lib.hid hd5
                have HKEEP := Lib.hid hkeep
                have hll5 : l5.length = N := hkeep.1.trans hll
                clear hd5 hkeep hu5 hl5 f0 f1 f2
                have g5 : w5.cell? ⟨w.heap.size, 0, none⟩ = some (.int .i64 j) := HSE5.out.cell 0
                go_wp2_with fail
                go_loopw [112] (fun i W => ∃ (x : Nat), x ≤ j ∧ i = .int .i64 x ∧ Below w5.heap.size w5 W) (fun i _ => j - (intOf i).toNat)
                case atStart => exact ⟨0, Nat.zero_le _, rfl, Below.refl _ _⟩
                case round =>
                  obtain ⟨x, hx, rfl, hbx⟩ := hrel
                  have HBX := Lib.hid hbx
                  clear hbx
                  by_cases hxl : x < j
                  · have hx0 : (0 : Int) ≤ (x : Int) := Int.natCast_nonneg x
                    have hx1 : (x : Int) < (j : Int) := by omega
                    have g1 : wr.cell? ⟨w.heap.size, 1, none⟩ = some (.int .i64 nb) := (HSE5.out.below HBX.out).cell 1
                    go_wp2_with fail
                    go_loopw [117] (fun i W => ∃ (y : Nat), y ≤ nb ∧ i = .int .i64 y ∧ Below w5.heap.size w5 W) (fun i _ => nb - (intOf i).toNat)
                    case atStart => exact ⟨0, Nat.zero_le _, rfl, HBX.out⟩
                    case round =>
                      obtain ⟨y, hy, rfl, hby⟩ := hrel
                      have HBY0 := Lib.hid hby
                      clear hby
                      by_cases hyl : y < nb
                      · have hy0 : (0 : Int) ≤ (y : Int) := Int.natCast_nonneg y
                        have hy1 : (y : Int) < (nb : Int) := by omega
                        obtain ⟨_, _, hM⟩ := bin_at hll HN.out hxl hyl
                        obtain ⟨b, ad, hb, ⟨hp0, hp1⟩, rfl, hct, hcf⟩ := still_at HKEEP.out HRD5.out (x * nb + y) hM
                        have HBB := Lib.hid hb
                        have HC := Lib.hid (hcf rfl)
                        clear hb hct hcf
                        go_wp2_with fail
                        refine (blueBin_w (D + 1) D N j nb x y target hold up down l5 b _ (HB5.out.below HBY0.out) (HD5.out.below HBY0.out) hll5 HN.out hnb (by omega) hxl hyl HBB.out).mono ?_
                        rintro e wq ⟨rfl, hb6⟩
                        have HBY := Lib.hid (bl_next HBY0.out hb6)
                        obtain ⟨X, hX⟩ : ∃ X, X = x * nb := ⟨_, rfl⟩
                        have hX4 : X ≤ 4 * 64 := by rw [hX]; exact Nat.mul_le_mul (by omega) hnb
                        obtain ⟨M, hM2⟩ : ∃ M, M = X + y := ⟨_, rfl⟩
                        obtain ⟨E, hE2⟩ : ∃ E, E = 2 * M := ⟨_, rfl⟩
                        obtain ⟨E1, hE1⟩ : ∃ E1, E1 = E + 1 := ⟨_, rfl⟩
                        have hM' : M < N := by rw [hM2, hX]; omega
                        have hc := HC.out
                        rw [← hX, ← hM2] at hc
                        have q1 : IntKind.i64.wrap ((x : Int) * (nb : Int)) = (X : Int) := by rw [show (x : Int) * (nb : Int) = (X : Int) by rw [hX]; exact (Int.natCast_mul _ _).symm]; exact IntWalk.i64_in _ (by omega)
                        have q2 : IntKind.i64.wrap ((X : Int) + (y : Int)) = (M : Int) := by rw [show (X : Int) + (y : Int) = (M : Int) by omega]; exact IntWalk.i64_in _ (by omega)
                        have q3 : IntKind.i64.wrap (2 * (M : Int)) = (E : Int) := by rw [show 2 * (M : Int) = (E : Int) by omega]; exact IntWalk.i64_in _ (by omega)
                        have q4 : IntKind.i64.wrap ((E : Int) + 1) = (E1 : Int) := by rw [show (E : Int) + 1 = (E1 : Int) by omega]; exact IntWalk.i64_in _ (by omega)
                        have q5 : (0 : Int) ≤ (E : Int) := Int.natCast_nonneg E
                        have q6 : (E : Int) < (L : Int) := by have := HL.out; omega
                        have q7 : (0 : Int) ≤ (E1 : Int) := Int.natCast_nonneg _
                        have q8 : (E1 : Int) < (L : Int) := by have := HL.out; omega
                        have r1 : wq.cell? (ad.add E1) = some (.int .i64 b.p) := by rw [hE1, hE2]; exact bl_keeps HBY.out hc
                        have q9 : ¬ b.p < 0 := by omega
                        have q10 : ¬ 65536 < b.p := by omega
                        have g6 : wq.cell? ⟨w.heap.size, 1, none⟩ = some (.int .i64 nb) := (HSE5.out.below HBY.out).cell 1
                        clear hb6 hX hM2 hE2 hE1 hc HC
                        go_wp2
                        go_roundw
                        case rel => exact ⟨y + 1, by omega, by go_num, HBY.out⟩
                        case measure => simp [intOf]; omega
                      · obtain rfl : y = nb := by omega
                        go_wp2_with fail
                        go_roundw
                        case rel => exact ⟨x + 1, by omega, by go_num, HBY0.out⟩
                        case measure => simp [intOf]; omega
                  · obtain rfl : x = j := by omega
                    go_wp2_with fail
                    go_roundw
                    case rel => exact ⟨k + 1, l5, by omega, by go_num, hll5, HKEEP.out.2.1, HD5.out.below HBX.out, HB5.out.below HBX.out, HSE5.out.below HBX.out, bl_next HW5.out HBX.out⟩
                    case measure => simp [intOf]; omega
              · go_wp2_with fail
                refine (blueTouch_w (D + 1) D N j nb target hold up down nn a m d ks l _ HBJL.out HOJ.out HSAJ.out hll HN.out (by omega) (by omega) (by omega) HNEA.out HOK.out hnn (by omega) (by omega) (by omega) (by omega)).mono ?_
                rintro e w5 ⟨rfl, hd5, hu5⟩
                have hkeep := keep_touch nn target hold up down o9 o11 nb ks l j (flowsB j nb ks) HOK.out
                have HRD5 := Lib.hid (HRD.out.upd hu5 HNEW.out)
                have HB5 := Lib.hid (Obj1.of_grown HBJL.out hu5 (by simp))
                have HSE5 := Lib.hid (Obj1.of_grown HSEJ.out hu5 (by simp; omega))
                have HW5 := Lib.hid (bl_upd HWJ.out hu5 hwD)
                obtain ⟨l5, hl5⟩ : ∃ l5, l5 = (if flowsB j nb ks = true then updN (touchF nn target hold up down) nb ks j l else l) := ⟨_, rfl⟩
                rw [← hl5] at hd5 hkeep
                have HD5 := Lib.hid hd5
                have HKEEP := Lib.hid hkeep
                have hll5 : l5.length = N := hkeep.1.trans hll
                clear hd5 hkeep hu5 hl5 f0 f1 f2
                have g5 : w5.cell? ⟨w.heap.size, 0, none⟩ = some (.int .i64 j) := HSE5.out.cell 0
                go_wp2_with fail
                go_loopw [112] (fun i W => ∃ (x : Nat), x ≤ j ∧ i = .int .i64 x ∧ Below w5.heap.size w5 W) (fun i _ => j - (intOf i).toNat)
                case atStart => exact ⟨0, Nat.zero_le _, rfl, Below.refl _ _⟩
                case round =>
                  obtain ⟨x, hx, rfl, hbx⟩ := hrel
                  have HBX := Lib.hid hbx
                  clear hbx
                  by_cases hxl : x < j
                  · have hx0 : (0 : Int) ≤ (x : Int) := Int.natCast_nonneg x
                    have hx1 : (x : Int) < (j : Int) := by omega
                    have g1 : wr.cell? ⟨w.heap.size, 1, none⟩ = some (.int .i64 nb) := (HSE5.out.below HBX.out).cell 1
                    go_wp2_with fail
                    go_loopw [117] (fun i W => ∃ (y : Nat), y ≤ nb ∧ i = .int .i64 y ∧ Below w5.heap.size w5 W) (fun i _ => nb - (intOf i).toNat)
                    case atStart => exact ⟨0, Nat.zero_le _, rfl, HBX.out⟩
                    case round =>
                      obtain ⟨y, hy, rfl, hby⟩ := hrel
                      have HBY0 := Lib.hid hby
                      clear hby
                      by_cases hyl : y < nb
                      · have hy0 : (0 : Int) ≤ (y : Int) := Int.natCast_nonneg y
                        have hy1 : (y : Int) < (nb : Int) := by omega
                        obtain ⟨_, _, hM⟩ := bin_at hll HN.out hxl hyl
                        obtain ⟨b, ad, hb, ⟨hp0, hp1⟩, rfl, hct, hcf⟩ := still_at HKEEP.out HRD5.out (x * nb + y) hM
                        have HBB := Lib.hid hb
                        have HC := Lib.hid (hct rfl)
                        clear hb hct hcf
                        go_wp2_with fail
                        refine (blueBin_w (D + 1) D N j nb x y target hold up down l5 b _ (HB5.out.below HBY0.out) (HD5.out.below HBY0.out) hll5 HN.out hnb (by omega) hxl hyl HBB.out).mono ?_
                        rintro e wq ⟨rfl, hb6⟩
                        have HBY := Lib.hid (bl_next HBY0.out hb6)
                        obtain ⟨X, hX⟩ : ∃ X, X = x * nb := ⟨_, rfl⟩
                        have hX4 : X ≤ 4 * 64 := by rw [hX]; exact Nat.mul_le_mul (by omega) hnb
                        obtain ⟨M, hM2⟩ : ∃ M, M = X + y := ⟨_, rfl⟩
                        obtain ⟨E, hE2⟩ : ∃ E, E = 2 * M := ⟨_, rfl⟩
                        obtain ⟨E1, hE1⟩ : ∃ E1, E1 = E + 1 := ⟨_, rfl⟩
                        have hM' : M < N := by rw [hM2, hX]; omega
                        have hc := HC.out
                        rw [← hX, ← hM2] at hc
                        have q1 : IntKind.i64.wrap ((x : Int) * (nb : Int)) = (X : Int) := by rw [show (x : Int) * (nb : Int) = (X : Int) by rw [hX]; exact (Int.natCast_mul _ _).symm]; exact IntWalk.i64_in _ (by omega)
                        have q2 : IntKind.i64.wrap ((X : Int) + (y : Int)) = (M : Int) := by rw [show (X : Int) + (y : Int) = (M : Int) by omega]; exact IntWalk.i64_in _ (by omega)
                        have q3 : IntKind.i64.wrap (2 * (M : Int)) = (E : Int) := by rw [show 2 * (M : Int) = (E : Int) by omega]; exact IntWalk.i64_in _ (by omega)
                        have q4 : IntKind.i64.wrap ((E : Int) + 1) = (E1 : Int) := by rw [show (E : Int) + 1 = (E1 : Int) by omega]; exact IntWalk.i64_in _ (by omega)
                        have q5 : (0 : Int) ≤ (E : Int) := Int.natCast_nonneg E
                        have q6 : (E : Int) < (L : Int) := by have := HL.out; omega
                        have q7 : (0 : Int) ≤ (E1 : Int) := Int.natCast_nonneg _
                        have q8 : (E1 : Int) < (L : Int) := by have := HL.out; omega
                        have r0 : wq.cell? (ad.add E) = some (.int .i64 b.n) := by rw [hE2]; exact bl_keeps HBY.out hc
                        have q9 : ¬ b.p < 0 := by omega
                        have q10 : ¬ 65536 < b.p := by omega
                        have g6 : wq.cell? ⟨w.heap.size, 1, none⟩ = some (.int .i64 nb) := (HSE5.out.below HBY.out).cell 1
                        clear hb6 hX hM2 hE2 hE1 hc HC
                        go_wp2
                        go_roundw
                        case rel => exact ⟨y + 1, by omega, by go_num, HBY.out⟩
                        case measure => simp [intOf]; omega
                      · obtain rfl : y = nb := by omega
                        go_wp2_with fail
                        go_roundw
                        case rel => exact ⟨x + 1, by omega, by go_num, HBY0.out⟩
                        case measure => simp [intOf]; omega
                  · obtain rfl : x = j := by omega
                    go_wp2_with fail
                    go_roundw
                    case rel => exact ⟨k + 1, l5, by omega, by go_num, hll5, HKEEP.out.2.1, HD5.out.below HBX.out, HB5.out.below HBX.out, HSE5.out.below HBX.out, bl_next HW5.out HBX.out⟩
                    case measure => simp [intOf]; omega
        · obtain rfl : k = n := by omega
          go_wp2
          go_ret
          exact ⟨rfl, HW.out⟩
    · have HOK := Lib.hid hok
      clear hok
      go_wp2_with fail
      refine (blueNew_no_w levels bins target hold up down _ HOK.out).mono ?_
      rintro e w' ⟨rfl, rfl⟩
      go_wp2
      go_ret
      exact ⟨rfl, HW1.out⟩
end Go.Proofs.Ytcgabjjdffcjbaa
