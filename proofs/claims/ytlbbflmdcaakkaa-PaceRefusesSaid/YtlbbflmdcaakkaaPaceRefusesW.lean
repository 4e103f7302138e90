/- The walk of PaceRefuses: it answers true. -/
import Derived.Test.YtlbbflmdcaakkaaPaceApartW
namespace Go.Proofs.Ytlbbflmdcaakkaa
open Go.RowKit
set_option linter.unusedVariables false
set_option linter.unusedSimpArgs false

set_option maxRecDepth 100000 in
set_option maxHeartbeats 4000000 in
theorem PaceRefuses_w (ns m0 : Int) (A : Option Addr) (n c : Nat) (rows : List (List Value)) (w : World) (wn : (Lit.int .u16 ns).wf = true) (wm : (Lit.int .u16 m0).wf = true)
    (hs : SlP [.i .i64, .i .i64] w A n c rows) :
    Calls Try.prog 10 #[.int .u16 ns, .int .u16 m0, .slice A n c] w fun e w' => e = .returned (.bool true) ∧ Below w.heap.size w w' := by
  have hn : n ≤ 9223372036854775807 := Nat.le_trans hs.2.1 hs.2.2.1
  have hns := u16_range wn
  have hm0 := u16_range wm
  clear wn wm
  have HS := Lib.hid hs
  clear hs
  by_cases hbig : 40 < n
  · go_enter Try.func10, Try.ntmps10
    go_wp2_with fail
    refine (awake16_w _).mono ?_
    rintro e w1 ⟨rfl, hb1⟩
    have H1 := Lib.hid hb1
    clear hb1
    go_wp2_with fail
    refine (awake16_w _).mono ?_
    rintro e w2 ⟨rfl, hb2⟩
    have H2 := Lib.hid (bl_next H1.out hb2)
    clear hb2
    go_wp2
    go_ret
    exact ⟨rfl, H2.out⟩
  · have hp := mul_bound (1 + m0 % 9216) (1 + ns) 9216 65536 (by omega) (by omega)
    have hlen : 1 ≤ 1 + m0 % 9216 ∧ 1 + m0 % 9216 ≤ 9216 := by omega
    obtain ⟨L, hL⟩ : ∃ L, L = 1 + m0 % 9216 := ⟨_, rfl⟩
    rw [← hL] at hp hlen
    have hmul : mulC L (1 + ns) = L * (1 + ns) := by
      unfold mulC
      rw [cnt_id L (by omega) (by omega), cnt_id (1 + ns) (by omega) (by omega), if_neg (by omega)]
    obtain ⟨E, hE⟩ : ∃ E, E = 1000 + L * (1 + ns) := ⟨_, rfl⟩
    have hfin : plus (cnt 1000) (mulC L (1 + ns)) = E := by
      rw [hmul, hE]
      unfold plus
      rw [cnt_id 1000 (by omega) (by omega), cnt_id _ hp.1 (by omega), if_neg (by omega)]
    have hse1 : paceSend (1 + ns) 0 1000 L = (1000, E, 0, E) := by
      unfold paceSend
      rw [if_neg (by omega), if_neg (by omega), if_neg (by omega), hfin]
    have hE2 : 1000 ≤ E ∧ E ≤ 700000000 := by omega
    have hf1 : paceFree E E = true := by unfold paceFree; simp; omega
    have hf2 : paceFree E (E - 1) = false := by unfold paceFree; simp; omega
    have HL := Lib.hid hL
    have HS1 := Lib.hid hse1
    clear hfin hse1 hL hmul hE
    go_enter Try.func10, Try.ntmps10
    go_wp2_with fail
    refine (awake16_w _).mono ?_
    rintro e w1 ⟨rfl, hb1⟩
    have H1 := Lib.hid hb1
    clear hb1
    go_wp2_with fail
    refine (PaceNew_w (1 + ns) _ (by omega) (by omega)).mono ?_
    rintro e w' ⟨rfl, rfl⟩
    obtain ⟨B, hB⟩ : ∃ B, B = w1.heap.size := ⟨_, rfl⟩
    have HB := Lib.hid hB
    have HO0 := Lib.hid (Obj1.new w1 (pcr (1 + ns) 0) 51)
    have HB0 := Lib.hid (bl_alloc H1.out (.cells (pcr (1 + ns) 0) 51))
    rw [← hB] at HO0
    rw [← hB]
    clear hB
    go_wp2_with fail
    rw [← HL.out]
    refine (PaceSend_e B (1 + ns) 0 1000 L _ _ _ _ _ HO0.out HS1.out).mono ?_
    rintro e w2 ⟨rfl, ho2, hu2⟩
    have HO2 := Lib.hid ho2
    have HW2 := Lib.hid (bl_upd HB0.out hu2 (by have := HB.out; have := H1.out.size; omega))
    clear ho2 hu2
    go_wp2_with fail
    go_loopw [43] (fun i wr => ∃ (k : Nat), k ≤ n ∧ i = .int .i64 k ∧ Obj1 wr B (pcr (1 + ns) E) 51 ∧ Below w.heap.size w wr) (fun i _ => n - (intOf i).toNat)
    case atStart => exact ⟨0, Nat.zero_le _, rfl, HO2.out, HW2.out⟩
    case round =>
      obtain ⟨k, hk, rfl, hobj, hbel⟩ := hrel
      have HO := Lib.hid hobj
      have HW := Lib.hid hbel
      clear hobj hbel
      by_cases hlt : k < n
      · obtain ⟨b1, o1, now, m, rfl, c0, c1, _, _⟩ := (HS.out.below HW.out).two k hlt
        have hk0 : (0 : Int) ≤ (k : Int) := Int.natCast_nonneg k
        have hk1 : (k : Int) < (n : Int) := by omega
        by_cases hgo : E ≤ now ∧ now ≤ 4611686018427387903 ∧ 1 ≤ m ∧ m ≤ 9216
        · obtain ⟨g1, g2, g3, g4⟩ := hgo
          go_wp2_with fail
          go_roundw
          case rel => exact ⟨k + 1, by omega, by go_num, HO.out, HW.out⟩
          case measure => simp [intOf]; omega
        · obtain ⟨code, hcode, href⟩ := pace_refused (1 + ns) E now m hgo
          have HR := Lib.hid href
          clear href
          have hg : now < E ∨ (E ≤ now ∧ 4611686018427387903 < now) ∨ ((E ≤ now ∧ now ≤ 4611686018427387903) ∧ m < 1) ∨ ((E ≤ now ∧ now ≤ 4611686018427387903) ∧ 1 ≤ m ∧ 9216 < m) := by omega
          clear hgo
          rcases hg with g1 | ⟨g1, g2⟩ | ⟨⟨g1, g2⟩, g3⟩ | ⟨⟨g1, g2⟩, g3, g4⟩
          all_goals
            go_wp2_with fail
            go_quiet ((go_at_call 27; exact quiet_left (PaceSend_no B (1 + ns) E now m code _ (HO.out.drewN _) HR.out (beq_eq_false_iff_ne.1 hcode))))
            go_wp2_with fail
            refine (PaceNext_w B (1 + ns) E _ (HO.out.drewN _)).mono ?_
            rintro e w' ⟨rfl, rfl⟩
            go_wp2_with fail
            go_roundw
            case rel => exact ⟨k + 1, by omega, by go_num, HO.out.drewN _, bl_drewN HW.out _⟩
            case measure => simp [intOf]; omega
      · obtain rfl : k = n := by omega
        go_wp2_with fail
        refine (PaceFree_w B (1 + ns) E E _ HO.out).mono ?_
        rintro e w' ⟨rfl, rfl⟩
        go_wp2_with fail
        refine (PaceFree_w B (1 + ns) E (E - 1) _ HO.out).mono ?_
        rintro e w' ⟨rfl, rfl⟩
        go_wp2
        go_ret
        exact ⟨rfl, HW.out⟩
end Go.Proofs.Ytlbbflmdcaakkaa
