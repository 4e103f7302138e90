/- The walk of TokenBounds: it answers true. -/
import Derived.Test.YtcgabjjdffcjbaaTokB
import Derived.Test.YtcgabjjdffcjbaaTokC
import Derived.Test.YtcgabjjdffcjbaaTokenPlaysW
namespace Go.Proofs.Ytcgabjjdffcjbaa
open Go.RowKit
set_option linter.unusedVariables false
set_option linter.unusedSimpArgs false

theorem tok_mul_le (r N : Int) (hr : 0 ≤ r ∧ r ≤ 1048576) (hN : 0 ≤ N ∧ N ≤ 400000000) : 0 ≤ r * N ∧ r * N ≤ 419430400000000 := by
  have := Int.mul_le_mul hr.2 hN.2 hN.1 (by omega)
  exact ⟨Int.mul_nonneg hr.1 hN.1, by omega⟩

set_option maxRecDepth 100000 in
set_option maxHeartbeats 4000000 in
theorem TokenBounds_w (rate burst : Int) (A : Option Addr) (n c : Nat) (rows : List (List Value)) (A2 : Option Addr) (n2 c2 : Nat) (rows2 : List (List Value)) (w : World) (wr : (Lit.int .u32 rate).wf = true) (wb : (Lit.int .u32 burst).wf = true) (hs : SlP [.i .u16] w A n c rows) (hs2 : SlP [.i .u16] w A2 n2 c2 rows2) :
    Calls Try.prog 4 #[.int .u32 rate, .int .u32 burst, .slice A n c, .slice A2 n2 c2] w fun e w' => e = .returned (.bool true) ∧ Below w.heap.size w w' := by
  have hn : n ≤ 9223372036854775807 := Nat.le_trans hs.2.1 hs.2.2.1
  have hn2 : n2 ≤ 9223372036854775807 := Nat.le_trans hs2.2.1 hs2.2.2.1
  have hbu := u32_range wb
  have hra := u32_range wr
  clear wb wr
  have HS := Lib.hid hs
  have HS2 := Lib.hid hs2
  clear hs hs2
  by_cases hbig : 80 < n ∨ n2 < n
  · rcases hbig with hbig | hbig
    all_goals
      go_enter Try.func4, Try.ntmps4
      go_wp2_with fail
      refine (awake17_w _).mono ?_
      rintro e w1 ⟨rfl, hb1⟩
      have H1 := Lib.hid hb1
      clear hb1
      go_wp2_with fail
      all_goals
        refine (awake17_w _).mono ?_
        rintro e w2 ⟨rfl, hb2⟩
        have H2 := Lib.hid (bl_next H1.out hb2)
        clear hb2
        go_wp2
        go_ret
        exact ⟨rfl, H2.out⟩
  · obtain ⟨hbg1, hbg2⟩ : n ≤ 80 ∧ n ≤ n2 := by omega
    clear hbig
    obtain ⟨b, hbdef⟩ : ∃ b, b = 1 + burst % 1048576 := ⟨_, rfl⟩
    have hbr : 1 ≤ b ∧ b ≤ 1048576 := by omega
    obtain ⟨r, hrdef⟩ : ∃ r, r = rate % 1048576 := ⟨_, rfl⟩
    have hrr : 0 ≤ r ∧ r ≤ 1048576 := by omega
    have HBD := Lib.hid hbdef
    have HRD := Lib.hid hrdef
    clear hbdef hrdef
    go_enter Try.func4, Try.ntmps4
    go_wp2_with fail
    refine (awake17_w _).mono ?_
    rintro e w1 ⟨rfl, hb1⟩
    have H1 := Lib.hid hb1
    clear hb1
    go_wp2_with fail
    rw [← HBD.out, ← HRD.out]
    refine (TokNew_w r b _ (by omega) (by omega)).mono ?_
    rintro e w' ⟨rfl, rfl⟩
    obtain ⟨B, hB⟩ : ∃ B, B = w1.heap.size := ⟨_, rfl⟩
    have HB := Lib.hid hB
    have HO0 := Lib.hid (Obj1.new w1 (tok r (b * 1048576) (b * 1048576) 0) 73)
    have HB0 := Lib.hid (bl_alloc H1.out (.cells (tok r (b * 1048576) (b * 1048576) 0) 73))
    rw [← hB] at HO0
    rw [← hB]
    have HBw : w.heap.size ≤ B := by have := H1.out.size; omega
    clear hB
    go_wp2_with fail
    go_loopw [13, 14, 46] (fun nw tk i wr => ∃ (k : Nat) (now taken level : Int), k ≤ n ∧ i = .int .i64 k ∧ nw = .int .i64 now ∧ tk = .int .i64 taken ∧ (0 ≤ level ∧ level ≤ b * 1048576) ∧ (0 ≤ now ∧ now ≤ (k : Int) * 4194240) ∧ (0 ≤ taken ∧ level + taken * 1048576 ≤ b * 1048576 + r * now) ∧ Obj1 wr B (tok r (b * 1048576) level now) 73 ∧ Below w.heap.size w wr) (fun _ _ i _ => n - (intOf i).toNat)
    case atStart => exact ⟨0, 0, 0, _, Nat.zero_le _, rfl, rfl, rfl, by omega, by omega, by omega, HO0.out, HB0.out⟩
    case round =>
      obtain ⟨k, now, taken, level, hk, rfl, rfl, rfl, hl, hnw, htk, hobj, hbel⟩ := hrel
      by_cases hlt : k < n
      · obtain ⟨sb, so, x, rfl, c0, wx⟩ := (HS.out.below hbel).one k hlt
        obtain ⟨sb2, so2, m, rfl, c1, wm⟩ := (HS2.out.below hbel).one k (by omega)
        have hx := u16_range wx
        have hm := u16_range wm
        clear wx wm
        have hk0 : (0 : Int) ≤ (k : Int) := Int.natCast_nonneg k
        have hk1 : (k : Int) < (n : Int) := by omega
        have hk2 : (k : Int) < (n2 : Int) := by omega
        have hk80 : (k : Int) ≤ 80 := by omega
        have HO := Lib.hid hobj
        have HW := Lib.hid hbel
        clear hobj hbel
        obtain ⟨N, hN⟩ : ∃ N, N = now + 64 * x := ⟨_, rfl⟩
        have hNr : now ≤ N ∧ N ≤ ((k + 1 : Nat) : Int) * 4194240 ∧ N ≤ 400000000 := by omega
        have hle := tokAt_le r (b * 1048576) level now N (by omega) (by omega) (by omega) hNr.1
        have hat := tokAt_range r (b * 1048576) level now N (b * 1048576) hl ⟨by omega, by omega⟩
        have hP := tok_mul_le r N hrr (by omega)
        have hP1 := tok_mul_le r now hrr (by omega)
        rw [Int.mul_sub] at hle
        have hnow2 : tokNow now N = N := by unfold tokNow; split <;> omega
        obtain ⟨P, hPd⟩ : ∃ P, r * N = P := ⟨_, rfl⟩
        obtain ⟨P1, hP1d⟩ : ∃ P1, r * now = P1 := ⟨_, rfl⟩
        rw [hPd] at hP hle
        rw [hP1d] at hP1 hle htk
        obtain ⟨L, hL⟩ : ∃ L, tokAt r (b * 1048576) level now N = L := ⟨_, rfl⟩
        rw [hL] at hle hat
        have hNm : IntKind.i64.wrap (now + 64 * x) = N := by rw [hN]; exact IntWalk.i64_in _ (by omega)
        have HL := Lib.hid hL
        have HN := Lib.hid hN
        have HN2 := Lib.hid hnow2
        have HPD := Lib.hid hPd
        clear hN hL hnow2 hPd hP1d hP1
        have hold : ∀ L', tokAt r (b * 1048576) L' N N = L' := fun L' => by unfold tokAt; rw [if_pos (Int.le_refl _)]
        have HOLD := Lib.hid hold
        clear hold
        go_wp2_with fail
        refine (TokTake_w B r (b * 1048576) level now N m _ (by exact HO.out) hnw.1 (by omega) (by omega) (by omega)).mono ?_
        rw [HL.out, HN2.out]
        rintro e w7 ⟨rfl, ho7, hu7⟩
        have HW7 := Lib.hid (bl_upd HW.out hu7 HBw)
        have hc1 : w7.cell? ⟨sb2, so2 + k, none⟩ = some (.int .u16 m) := keep_upd hu7 c1 (by
          obtain ⟨_, _, _, e, c0', _⟩ := HS2.out.one k (by omega)
          cases e
          have := cell_lt c0'
          show sb2 ≠ B
          simp at this
          omega)
        clear hu7 c0 c1
        rcases tokLeft_cases L m with ⟨hok, hm1, hm2, hleft⟩ | ⟨hok, hleft⟩
        · rw [hok]
          rw [hleft] at ho7
          obtain ⟨T, hTd⟩ : ∃ T, taken + m = T := ⟨_, rfl⟩
          obtain ⟨L', hL'⟩ : ∃ L', L - m * 1048576 = L' := ⟨_, rfl⟩
          rw [hL'] at ho7
          have hL2 : 0 ≤ L' ∧ L' ≤ b * 1048576 := by omega
          have hT : 0 ≤ T ∧ L' + T * 1048576 ≤ b * 1048576 + P := by omega
          have HO7 := Lib.hid ho7
          have hTw : IntKind.i64.wrap (taken + m) = T := by rw [hTd]; exact IntWalk.i64_in _ (by omega)
          have hPw : IntKind.i64.wrap (r * N) = P := by rw [HPD.out]; exact IntWalk.i64_in _ (by omega)
          clear hok hleft ho7 hL' hTd
          go_wp2_with fail
          refine (TokLevel_w B r (b * 1048576) L' N N _ HO7.out (by omega) (by omega) (by omega) (by omega)).mono ?_
          rw [HOLD.out L']
          rintro e w8 ⟨rfl, hb8⟩
          have HO8 := Lib.hid (HO7.out.below hb8)
          have HW8 := Lib.hid (bl_next HW7.out hb8)
          clear hb8
          go_wp2_with fail
          go_roundw
          case rel => exact ⟨k + 1, N, T, L', by omega, by go_num, rfl, rfl, hL2, by omega, by rw [HPD.out]; exact hT, HO8.out, HW8.out⟩
          case measure => simp [intOf]; omega
        · rw [hok]
          rw [hleft] at ho7
          have HO7 := Lib.hid ho7
          have hT : 0 ≤ taken ∧ L + taken * 1048576 ≤ b * 1048576 + P := by omega
          have hPw : IntKind.i64.wrap (r * N) = P := by rw [HPD.out]; exact IntWalk.i64_in _ (by omega)
          clear hok hleft ho7
          go_wp2_with fail
          refine (TokLevel_w B r (b * 1048576) L N N _ HO7.out (by omega) (by omega) (by omega) (by omega)).mono ?_
          rw [HOLD.out L]
          rintro e w8 ⟨rfl, hb8⟩
          have HO8 := Lib.hid (HO7.out.below hb8)
          have HW8 := Lib.hid (bl_next HW7.out hb8)
          clear hb8
          go_wp2_with fail
          go_roundw
          case rel => exact ⟨k + 1, N, taken, L, by omega, by go_num, rfl, rfl, hat, by omega, by rw [HPD.out]; exact hT, HO8.out, HW8.out⟩
          case measure => simp [intOf]; omega
      · obtain rfl : k = n := by omega
        have HW := Lib.hid hbel
        clear hobj hbel
        go_wp2
        go_ret
        exact ⟨rfl, HW.out⟩
end Go.Proofs.Ytcgabjjdffcjbaa
