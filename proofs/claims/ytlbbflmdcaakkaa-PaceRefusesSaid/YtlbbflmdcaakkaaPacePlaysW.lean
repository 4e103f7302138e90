/- The walk of PacePlays: it answers true. -/
import Derived.Test.YtlbbflmdcaakkaaPaceA
import Derived.Test.YtlbbflmdcaakkaaNumB
import Derived.Test.YtlbbflmdcaakkaaOpen
namespace Go.Proofs.Ytlbbflmdcaakkaa
open Go.RowKit
set_option linter.unusedVariables false
set_option linter.unusedSimpArgs false

/-- What Send does at a moment and a length, case by case, beside whether the wire is free. -/
theorem pace_cases (ns next now n : Int) :
    ∃ s f e nx, paceSend ns next now n = (s, f, e, nx) ∧
      ((n < 1 ∨ 9216 < n) ∧ 0 = s ∧ 0 = f ∧ 1 = e ∧ next = nx ∨
       (1 ≤ n ∧ n ≤ 9216) ∧ (now < 0 ∨ 4611686018427387903 < now) ∧ 0 = s ∧ 0 = f ∧ 3 = e ∧ next = nx ∨
       (1 ≤ n ∧ n ≤ 9216) ∧ (0 ≤ now ∧ now ≤ 4611686018427387903) ∧ now < next ∧ 0 = s ∧ 0 = f ∧ 4 = e ∧ next = nx ∨
       (1 ≤ n ∧ n ≤ 9216) ∧ (0 ≤ now ∧ now ≤ 4611686018427387903) ∧ next ≤ now ∧ now = s ∧ plus (cnt now) (mulC n ns) = f ∧ 0 = e ∧ plus (cnt now) (mulC n ns) = nx) := by
  by_cases h1 : n < 1 ∨ 9216 < n
  · exact ⟨_, _, _, _, by unfold paceSend; rw [if_pos h1], .inl ⟨h1, rfl, rfl, rfl, rfl⟩⟩
  · by_cases h2 : now < 0 ∨ 4611686018427387903 < now
    · exact ⟨_, _, _, _, by unfold paceSend; rw [if_neg h1, if_pos h2], .inr (.inl ⟨by omega, h2, rfl, rfl, rfl, rfl⟩)⟩
    · by_cases h3 : now < next
      · exact ⟨_, _, _, _, by unfold paceSend; rw [if_neg h1, if_neg h2, if_pos h3], .inr (.inr (.inl ⟨by omega, by omega, h3, rfl, rfl, rfl, rfl⟩))⟩
      · exact ⟨_, _, _, _, by unfold paceSend; rw [if_neg h1, if_neg h2, if_neg h3], .inr (.inr (.inr ⟨by omega, by omega, by omega, rfl, rfl, rfl, rfl⟩))⟩

theorem free_cases (next now : Int) : (now < 0 ∧ paceFree next now = false) ∨ ((0 ≤ now ∧ 4611686018427387903 < now) ∧ paceFree next now = false) ∨ ((0 ≤ now ∧ now ≤ 4611686018427387903) ∧ now < next ∧ paceFree next now = false) ∨
    ((0 ≤ now ∧ now ≤ 4611686018427387903) ∧ next ≤ now ∧ paceFree next now = true) := by
  unfold paceFree
  simp
  omega

set_option maxRecDepth 100000 in
set_option maxHeartbeats 8000000 in
theorem PacePlays_w (ns : Int) (A : Option Addr) (n c : Nat) (rows : List (List Value)) (w : World) (_ : (Lit.int .i64 ns).wf = true) (hs : SlP [.i .i64, .i .i64] w A n c rows) :
    Calls Try.prog 8 #[.int .i64 ns, .slice A n c] w fun e w' => e = .returned (.bool true) ∧ Below w.heap.size w w' := by
  have hn : n ≤ 9223372036854775807 := Nat.le_trans hs.2.1 hs.2.2.1
  have HS := Lib.hid hs
  clear hs
  by_cases hbig : 60 < n
  · go_enter Try.func8, Try.ntmps8
    go_wp2_with fail
    refine (awake16_w _).mono ?_
    rintro e w1 ⟨rfl, hb1⟩
    have H1 := Lib.hid hb1
    clear hb1
    go_wp2_with fail
    refine (awake16_w _).mono ?_
    rintro e w2 ⟨rfl, hb2⟩
    have H2 := Lib.hid (bl_next H1.out hb2)
    clear hb2
    go_wp2
    go_ret
    exact ⟨rfl, H2.out⟩
  · by_cases hns : ns < 1 ∨ 1000000 < ns
    · have hns' := Lib.hid hns
      rcases hns with hns | hns
      all_goals
        go_enter Try.func8, Try.ntmps8
        go_wp2_with fail
        refine (awake16_w _).mono ?_
        rintro e w1 ⟨rfl, hb1⟩
        have H1 := Lib.hid hb1
        clear hb1
        go_wp2_with fail
        refine (PaceNew_no_w ns _ hns'.out).mono ?_
        rintro e w' ⟨rfl, rfl⟩
        go_wp2_with fail
        refine (PaceNil_Free_w _ _).mono ?_
        rintro e w' ⟨rfl, rfl⟩
        go_wp2_with fail
        refine (PaceNil_Next_w _).mono ?_
        rintro e w' ⟨rfl, rfl⟩
        go_wp2
        go_ret
        exact ⟨rfl, H1.out⟩
    · obtain ⟨hns1, hns2⟩ : 1 ≤ ns ∧ ns ≤ 1000000 := by omega
      clear hns
      go_enter Try.func8, Try.ntmps8
      go_wp2_with fail
      refine (awake16_w _).mono ?_
      rintro e w1 ⟨rfl, hb1⟩
      have H1 := Lib.hid hb1
      clear hb1
      go_wp2_with fail
      refine (PaceNew_w ns _ (by omega) (by omega)).mono ?_
      rintro e w' ⟨rfl, rfl⟩
      obtain ⟨B, hB⟩ : ∃ B, B = w1.heap.size := ⟨_, rfl⟩
      have HB := Lib.hid hB
      have HO0 := Lib.hid (Obj1.new w1 (pcr ns 0) 51)
      have HB0 := Lib.hid (bl_alloc H1.out (.cells (pcr ns 0) 51))
      rw [← hB] at HO0
      rw [← hB]
      clear hB
      go_wp2_with fail
      go_loopw [7, 53] (fun nx i wr => ∃ (k : Nat) (next : Int), k ≤ n ∧ i = .int .i64 k ∧ nx = .int .i64 next ∧ Obj1 wr B (pcr ns next) 51 ∧ Below w.heap.size w wr) (fun _ i _ => n - (intOf i).toNat)
      case atStart => exact ⟨0, 0, Nat.zero_le _, rfl, rfl, HO0.out, HB0.out⟩
      case round =>
        obtain ⟨k, next, hk, rfl, rfl, hobj, hbel⟩ := hrel
        have HO := Lib.hid hobj
        have HW := Lib.hid hbel
        clear hobj hbel
        by_cases hlt : k < n
        · obtain ⟨sb, so, now, m, rfl, c0, c1, _, _⟩ := (HS.out.below HW.out).two k hlt
          have hk0 : (0 : Int) ≤ (k : Int) := Int.natCast_nonneg k
          have hk1 : (k : Int) < (n : Int) := by omega
          have hfree := free_cases next now
          obtain ⟨s, f, e, nx, hse, hsend⟩ := pace_cases ns next now m
          have HSE := Lib.hid hse
          clear hse
          rcases hfree with ⟨f1, hf⟩ | ⟨⟨f1, f2⟩, hf⟩ | ⟨⟨f1, f2⟩, f3, hf⟩ | ⟨⟨f1, f2⟩, f3, hf⟩
          all_goals rcases hsend with ⟨g1 | g1, rfl, rfl, rfl, rfl⟩ | ⟨⟨g1, g2⟩, g3 | g3, rfl, rfl, rfl, rfl⟩ | ⟨⟨g1, g2⟩, ⟨g3, g4⟩, g5, rfl, rfl, rfl, rfl⟩ | ⟨⟨g1, g2⟩, ⟨g3, g4⟩, g5, rfl, rfl, rfl, rfl⟩
          all_goals first | (exfalso; omega) | skip
          all_goals
            go_wp2_with fail
            go_quiet (fail)
            go_wp2_with fail
            refine (PaceFree_w B ns next now _ (HO.out.drewN _)).mono ?_
            rintro e w' ⟨rfl, rfl⟩
            go_wp2_with fail
            refine (PaceSend_e B ns next now m _ _ _ _ _ (HO.out.drewN _) HSE.out).mono ?_
            rintro e w2 ⟨rfl, ho2, hu2⟩
            have HO2 := Lib.hid ho2
            have HW2 := Lib.hid (bl_upd (bl_drewN HW.out _) hu2 (by have := HB.out; have := H1.out.size; omega))
            clear ho2 hu2
            go_wp2_with (first | (go_at_call 21; refine (rMul_w _ _ _).mono ?_; rintro e w' ⟨rfl, rfl⟩) | (go_at_call 19; refine (rAdd_w _ _ _).mono ?_; rintro e w' ⟨rfl, rfl⟩) | (go_at_call 26; refine (PaceNext_w _ _ _ _ HO2.out).mono ?_; rintro e w' ⟨rfl, rfl⟩))
            go_roundw
            case rel => exact ⟨k + 1, _, by omega, by go_num, rfl, HO2.out, HW2.out⟩
            case measure => simp [intOf]; omega
        · obtain rfl : k = n := by omega
          go_wp2
          go_ret
          exact ⟨rfl, HW.out⟩
end Go.Proofs.Ytlbbflmdcaakkaa
