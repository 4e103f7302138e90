/- The walk of TokenNone: it answers true. -/
import Derived.Test.YtcgabjjdffcjbaaTokB
import Derived.Test.YtcgabjjdffcjbaaTokC
namespace Go.Proofs.Ytcgabjjdffcjbaa
open Go.RowKit
set_option linter.unusedVariables false
set_option linter.unusedSimpArgs false

set_option maxRecDepth 100000 in
set_option maxHeartbeats 4000000 in
theorem TokenNone_w (burst : Int) (A : Option Addr) (n c : Nat) (rows : List (List Value)) (w : World) (wb : (Lit.int .u32 burst).wf = true) (hs : SlP [.i .i64, .i .i64] w A n c rows) :
    Calls Try.prog 6 #[.int .u32 burst, .slice A n c] w fun e w' => e = .returned (.bool true) ∧ Below w.heap.size w w' := by
  have hn : n ≤ 9223372036854775807 := Nat.le_trans hs.2.1 hs.2.2.1
  have hbu := u32_range wb
  clear wb
  have HS := Lib.hid hs
  clear hs
  by_cases hbig : 80 < n
  · go_enter Try.func6, Try.ntmps6
    go_wp2_with fail
    refine (awake17_w _).mono ?_
    rintro e w1 ⟨rfl, hb1⟩
    have H1 := Lib.hid hb1
    clear hb1
    go_wp2_with fail
    refine (awake17_w _).mono ?_
    rintro e w2 ⟨rfl, hb2⟩
    have H2 := Lib.hid (bl_next H1.out hb2)
    clear hb2
    go_wp2
    go_ret
    exact ⟨rfl, H2.out⟩
  · obtain ⟨b, hbdef⟩ : ∃ b, b = 1 + burst % 1073741824 := ⟨_, rfl⟩
    have hbr : 1 ≤ b ∧ b ≤ 1073741824 := by omega
    have HBD := Lib.hid hbdef
    clear hbdef
    go_enter Try.func6, Try.ntmps6
    go_wp2_with fail
    refine (awake17_w _).mono ?_
    rintro e w1 ⟨rfl, hb1⟩
    have H1 := Lib.hid hb1
    clear hb1
    go_wp2_with fail
    rw [← HBD.out]
    refine (TokNew_w 0 b _ (by omega) hbr).mono ?_
    rintro e w' ⟨rfl, rfl⟩
    obtain ⟨B, hB⟩ : ∃ B, B = w1.heap.size := ⟨_, rfl⟩
    have HB := Lib.hid hB
    have HO0 := Lib.hid (Obj1.new w1 (tok 0 (b * 1048576) (b * 1048576) 0) 73)
    have HB0 := Lib.hid (bl_alloc H1.out (.cells (tok 0 (b * 1048576) (b * 1048576) 0) 73))
    rw [← hB] at HO0
    rw [← hB]
    have HBw : w.heap.size ≤ B := by have := H1.out.size; omega
    clear hB
    go_wp2_with fail
    go_loopw [8, 29] (fun tk i wr => ∃ (k : Nat) (taken tnow : Int), k ≤ n ∧ i = .int .i64 k ∧ tk = .int .i64 taken ∧ (0 ≤ taken ∧ taken ≤ b) ∧ 0 ≤ tnow ∧ Obj1 wr B (tok 0 (b * 1048576) ((b - taken) * 1048576) tnow) 73 ∧ Below w.heap.size w wr) (fun _ i _ => n - (intOf i).toNat)
    case atStart => exact ⟨0, 0, 0, Nat.zero_le _, rfl, rfl, by omega, by omega, by rw [Int.sub_zero]; exact HO0.out, HB0.out⟩
    case round =>
      obtain ⟨k, taken, tnow, hk, rfl, rfl, htk, ht, hobj, hbel⟩ := hrel
      by_cases hlt : k < n
      · obtain ⟨sb, so, now, m, rfl, c0, c1, wnow, wm⟩ := (HS.out.below hbel).two k hlt
        have hsb : sb < w.heap.size := by
          obtain ⟨_, _, _, _, e, c0', _⟩ := HS.out.two k hlt
          cases e
          exact cell_lt c0'
        have hnow := i64_range wnow
        have hm := i64_range wm
        clear wnow wm
        have hk0 : (0 : Int) ≤ (k : Int) := Int.natCast_nonneg k
        have hk1 : (k : Int) < (n : Int) := by omega
        have HO := Lib.hid hobj
        have HW := Lib.hid hbel
        clear hobj hbel
        have hat : tokAt 0 (b * 1048576) ((b - taken) * 1048576) tnow now = (b - taken) * 1048576 := tokAt_zero _ _ _ _ (by omega) (by omega)
        have HAT := Lib.hid hat
        clear hat
        have ht2 := tokNow_ge tnow now
        go_wp2_with fail
        refine wp_region_still_tail 11 (by kernel_rfl) (by kernel_rfl) ?_
        change wpStill _ _ (World.drew _) (fun a' => wpList _ _ _ _ a' (World.drew _)) _ _
        simp only [List.take_succ_cons, List.take_zero, List.drop_succ_cons, List.drop_zero]
        repeat still_step
        refine wpStill_nil ?_
        go_wp2_with fail
        refine (TokTake_w B 0 (b * 1048576) ((b - taken) * 1048576) tnow now m _ (by exact HO.out) ht hnow (by omega) (by omega)).mono ?_
        rw [HAT.out]
        rintro e w7 ⟨rfl, ho7, hu7⟩
        have c0' : w7.cell? ⟨sb, so + k * 2, none⟩ = some (.int .i64 now) := keep_upd (w := wr.drew) hu7 c0 (by show sb ≠ B; omega)
        have c1' : w7.cell? ⟨sb, so + k * 2 + 1, none⟩ = some (.int .i64 m) := keep_upd (w := wr.drew) hu7 c1 (by show sb ≠ B; omega)
        have hW7 := bl_upd (show Below w.heap.size w wr.drew from HW.out.drew) hu7 HBw
        obtain ⟨N, hN⟩ : ∃ N, tokNow tnow now = N := ⟨_, rfl⟩
        rw [hN] at ho7 ht2
        have hat2 : ∀ t2, (0 ≤ t2 ∧ t2 ≤ b) → tokAt 0 (b * 1048576) ((b - t2) * 1048576) N now = (b - t2) * 1048576 := fun t2 h => tokAt_zero _ _ _ _ (by omega) (by omega)
        have HAT2 := Lib.hid hat2
        have HW7 := Lib.hid hW7
        clear hu7 hW7 c0 c1 hat2 hN HAT
        rcases tokLeft_cases ((b - taken) * 1048576) m with ⟨hok, hm1, hm2, hleft⟩ | ⟨hok, hleft⟩
        · rw [hok]
          rw [hleft, show (b - taken) * 1048576 - m * 1048576 = (b - (taken + m)) * 1048576 by omega] at ho7
          have HO7 := Lib.hid ho7
          clear hok hleft ho7
          have hT : 0 ≤ taken + m ∧ taken + m ≤ b := by omega
          obtain ⟨T, hTd⟩ : ∃ T, taken + m = T := ⟨_, rfl⟩
          have hTw : IntKind.i64.wrap (taken + m) = T := by rw [hTd]; exact IntWalk.i64_in _ (by omega)
          rw [hTd] at hT HO7
          have hgt : ¬ b < T := by omega
          clear hTd
          go_wp2_with fail
          refine (TokLevel_w B 0 (b * 1048576) ((b - T) * 1048576) N now _ HO7.out (by omega) hnow (by omega) (by omega)).mono ?_
          rw [HAT2.out T hT, Int.mul_ediv_cancel _ (by omega)]
          rintro e w8 ⟨rfl, hb8⟩
          have HO8 := Lib.hid (HO7.out.below hb8)
          have HW8 := Lib.hid (bl_next HW7.out hb8)
          clear hb8
          go_wp2_with fail
          go_roundw
          case rel => exact ⟨k + 1, T, N, by omega, by go_num, rfl, hT, by omega, HO8.out, HW8.out⟩
          case measure => simp [intOf]; omega
        · rw [hok]
          rw [hleft] at ho7
          have HO7 := Lib.hid ho7
          clear hok hleft ho7
          have hgt : ¬ b < taken := by omega
          go_wp2_with fail
          refine (TokLevel_w B 0 (b * 1048576) ((b - taken) * 1048576) N now _ HO7.out (by omega) hnow (by omega) (by omega)).mono ?_
          rw [HAT2.out taken htk, Int.mul_ediv_cancel _ (by omega)]
          rintro e w8 ⟨rfl, hb8⟩
          have HO8 := Lib.hid (HO7.out.below hb8)
          have HW8 := Lib.hid (bl_next HW7.out hb8)
          clear hb8
          go_wp2_with fail
          go_roundw
          case rel => exact ⟨k + 1, taken, N, by omega, by go_num, rfl, htk, by omega, HO8.out, HW8.out⟩
          case measure => simp [intOf]; omega
      · obtain rfl : k = n := by omega
        have HW := Lib.hid hbel
        clear hobj hbel
        go_wp2
        go_ret
        exact ⟨rfl, HW.out⟩
end Go.Proofs.Ytcgabjjdffcjbaa
