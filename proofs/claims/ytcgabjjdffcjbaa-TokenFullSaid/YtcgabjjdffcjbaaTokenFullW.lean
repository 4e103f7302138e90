/- The walk of TokenFull: it answers true. -/
import Derived.Test.YtcgabjjdffcjbaaTokB
import Derived.Test.YtcgabjjdffcjbaaTokC
import Derived.Test.YtcgabjjdffcjbaaTokenPlaysW
namespace Go.Proofs.Ytcgabjjdffcjbaa
open Go.RowKit
set_option linter.unusedVariables false
set_option linter.unusedSimpArgs false

set_option maxRecDepth 100000 in
set_option maxHeartbeats 4000000 in
theorem TokenFull_w (rate burst : Int) (A : Option Addr) (n c : Nat) (rows : List (List Value)) (w : World) (wr : (Lit.int .u32 rate).wf = true) (wb : (Lit.int .u32 burst).wf = true) (hs : SlP [.i .i64, .i .i64] w A n c rows) :
    Calls Try.prog 5 #[.int .u32 rate, .int .u32 burst, .slice A n c] w fun e w' => e = .returned (.bool true) ∧ Below w.heap.size w w' := by
  have hn : n ≤ 9223372036854775807 := Nat.le_trans hs.2.1 hs.2.2.1
  have hbu := u32_range wb
  have hra := u32_range wr
  clear wb wr
  have HS := Lib.hid hs
  clear hs
  by_cases hbig : 60 < n
  · go_enter Try.func5, Try.ntmps5
    go_wp2_with fail
    refine (awake17_w _).mono ?_
    rintro e w1 ⟨rfl, hb1⟩
    have H1 := Lib.hid hb1
    clear hb1
    go_wp2_with fail
    refine (awake17_w _).mono ?_
    rintro e w2 ⟨rfl, hb2⟩
    have H2 := Lib.hid (bl_next H1.out hb2)
    clear hb2
    go_wp2
    go_ret
    exact ⟨rfl, H2.out⟩
  · obtain ⟨b, hbdef⟩ : ∃ b, b = 1 + burst % 1073741824 := ⟨_, rfl⟩
    have hbr : 1 ≤ b ∧ b ≤ 1073741824 := by omega
    obtain ⟨r, hrdef⟩ : ∃ r, r = rate % 1073741824 := ⟨_, rfl⟩
    have hrr : 0 ≤ r ∧ r ≤ 1073741824 := by omega
    have HBD := Lib.hid hbdef
    have HRD := Lib.hid hrdef
    clear hbdef hrdef
    go_enter Try.func5, Try.ntmps5
    go_wp2_with fail
    refine (awake17_w _).mono ?_
    rintro e w1 ⟨rfl, hb1⟩
    have H1 := Lib.hid hb1
    clear hb1
    go_wp2_with fail
    rw [← HBD.out, ← HRD.out]
    refine (TokNew_w r b _ hrr hbr).mono ?_
    rintro e w' ⟨rfl, rfl⟩
    obtain ⟨B, hB⟩ : ∃ B, B = w1.heap.size := ⟨_, rfl⟩
    have HB := Lib.hid hB
    have HO0 := Lib.hid (Obj1.new w1 (tok r (b * 1048576) (b * 1048576) 0) 73)
    have HB0 := Lib.hid (bl_alloc H1.out (.cells (tok r (b * 1048576) (b * 1048576) 0) 73))
    rw [← hB] at HO0
    rw [← hB]
    have HBw : w.heap.size ≤ B := by have := H1.out.size; omega
    clear hB
    go_wp2_with fail
    go_loopw [36] (fun i wr => ∃ (k : Nat) (level tnow : Int), k ≤ n ∧ i = .int .i64 k ∧ (0 ≤ level ∧ level ≤ b * 1048576) ∧ (0 ≤ tnow ∧ tnow < 1125899906842624) ∧ Obj1 wr B (tok r (b * 1048576) level tnow) 73 ∧ Below w.heap.size w wr) (fun i _ => n - (intOf i).toNat)
    case atStart => exact ⟨0, _, 0, Nat.zero_le _, rfl, by omega, by omega, HO0.out, HB0.out⟩
    case round =>
      obtain ⟨k, level, tnow, hk, rfl, hl, ht, hobj, hbel⟩ := hrel
      by_cases hlt : k < n
      · obtain ⟨sb, so, now, m, rfl, c0, c1, wnow, wm⟩ := (HS.out.below hbel).two k hlt
        have hsb : sb < w.heap.size := by
          obtain ⟨_, _, _, _, e, c0', _⟩ := HS.out.two k hlt
          cases e
          exact cell_lt c0'
        have hnow := i64_range wnow
        have hm := i64_range wm
        clear wnow wm
        have hk0 : (0 : Int) ≤ (k : Int) := Int.natCast_nonneg k
        have hk1 : (k : Int) < (n : Int) := by omega
        have HO := Lib.hid hobj
        have HW := Lib.hid hbel
        clear hobj hbel
        by_cases hlow : now < 1125899906842624
        · have hat := tokAt_range r (b * 1048576) level tnow now (b * 1048576) hl ⟨by omega, by omega⟩
          have hl2 := tokLeft_range _ m (b * 1048576) hat
          have ht2 := tokNow_ge tnow now
          obtain ⟨N, hN⟩ : ∃ N, tokNow tnow now = N := ⟨_, rfl⟩
          obtain ⟨L, hL⟩ : ∃ L, tokLeft (tokAt r (b * 1048576) level tnow now) m = L := ⟨_, rfl⟩
          rw [hN] at ht2
          rw [hL] at hl2
          have HN := Lib.hid hN
          have HL := Lib.hid hL
          clear hN hL hat
          go_wp2_with fail
          refine wp_region_still_tail 11 (by kernel_rfl) (by kernel_rfl) ?_
          change wpStill _ _ (World.drew _) (fun a' => wpList _ _ _ _ a' (World.drew _)) _ _
          simp only [List.take_succ_cons, List.take_zero, List.drop_succ_cons, List.drop_zero]
          repeat still_step
          refine wpStill_nil ?_
          go_wp2_with fail
          refine (TokTake_w B r (b * 1048576) level tnow now m _ (by exact HO.out) ht.1 hnow (by omega) (by omega)).mono ?_
          rw [HN.out, HL.out]
          rintro e w7 ⟨rfl, ho7, hu7⟩
          have HW7 := Lib.hid (bl_upd (show Below w.heap.size w wr.drew from HW.out.drew) hu7 HBw)
          have HO7 := Lib.hid ho7
          clear hu7 ho7 c0 c1
          go_wp2_with fail
          go_roundw
          case rel => exact ⟨k + 1, L, N, by omega, by go_num, hl2, by omega, HO7.out, HW7.out⟩
          case measure => simp [intOf]; omega
        · go_wp2_with fail
          go_roundw
          case rel => exact ⟨k + 1, level, tnow, by omega, by go_num, hl, by omega, HO.out, HW.out⟩
          case measure => simp [intOf]; omega
      · obtain rfl : k = n := by omega
        have HW := Lib.hid hbel
        have HO := Lib.hid hobj
        clear hobj hbel
        have hV : ∃ V, tokAt r (b * 1048576) level tnow 2305843009213693952 / 1048576 = V ∧ V ≤ b ∧ (¬ r = 0 → V = b) := by
          refine ⟨_, rfl, ?_, fun h => ?_⟩
          · have := tokAt_range r (b * 1048576) level tnow 2305843009213693952 (b * 1048576) hl ⟨by omega, by omega⟩
            omega
          · rw [tokAt_full r (b * 1048576) level tnow 2305843009213693952 (by omega) hl (by omega) (by omega), Int.mul_ediv_cancel _ (by omega)]
        obtain ⟨V, hV, hVb, hVr⟩ := hV
        have HV := Lib.hid hV
        clear hV
        by_cases hr0 : r = 0
        · clear hVr
          go_wp2_with fail
          refine (TokLevel_w B r (b * 1048576) level tnow 2305843009213693952 _ HO.out ht.1 (by omega) (by omega) (by omega)).mono ?_
          rw [HV.out]
          rintro e w8 ⟨rfl, hb8⟩
          have HW8 := Lib.hid (bl_next HW.out hb8)
          clear hb8
          go_wp2
          go_ret
          exact ⟨rfl, HW8.out⟩
        · obtain rfl : V = b := hVr hr0
          go_wp2_with fail
          refine (TokLevel_w B r (V * 1048576) level tnow 2305843009213693952 _ HO.out ht.1 (by omega) (by omega) (by omega)).mono ?_
          rw [HV.out]
          rintro e w8 ⟨rfl, hb8⟩
          have HW8 := Lib.hid (bl_next HW.out hb8)
          clear hb8
          go_wp2
          go_ret
          exact ⟨rfl, HW8.out⟩
end Go.Proofs.Ytcgabjjdffcjbaa
