/- The walk of TokenPlays: it answers true. -/
import Derived.Test.YtcgabjjdffcjbaaTokB
namespace Go.Proofs.Ytcgabjjdffcjbaa
open Go.RowKit
set_option linter.unusedVariables false
set_option linter.unusedSimpArgs false

/-- A reference's tokens, in a block. -/
def rtokC (rate burst level now : Int) : Array Value := #[.int .i64 rate, .int .i64 burst, .int .i64 level, .int .i64 now]

theorem tokLeft_range (L n M : Int) (h : 0 ≤ L ∧ L ≤ M) : 0 ≤ tokLeft L n ∧ tokLeft L n ≤ M := by
  unfold tokLeft
  split
  · rename_i hk
    unfold tokOk at hk
    simp at hk
    omega
  · exact h
theorem tokNow_range (tnow now : Int) (h : 0 ≤ tnow) : 0 ≤ tokNow tnow now := by unfold tokNow; split <;> omega

theorem rtok_set4 {w : World} {D : Nat} {r b l t : Int} (h : Obj1 w D (rtokC r b l t) 31) (l' t' : Int) :
    Obj1 ((((w.setCell ⟨D, 0, none⟩ (.int .i64 r)).setCell ⟨D, 1, none⟩ (.int .i64 b)).setCell ⟨D, 2, none⟩ (.int .i64 l')).setCell ⟨D, 3, none⟩ (.int .i64 t')) D (rtokC r b l' t') 31 :=
  (((h.set 0 _).set 1 _).set 2 _).set 3 _

set_option maxRecDepth 100000 in
set_option maxHeartbeats 8000000 in
theorem TokenPlays_w (rate burst : Int) (A : Option Addr) (n c : Nat) (rows : List (List Value)) (w : World) (_ : (Lit.int .i64 rate).wf = true) (_ : (Lit.int .i64 burst).wf = true) (hs : SlP [.i .i64, .i .i64] w A n c rows) :
    Calls Try.prog 3 #[.int .i64 rate, .int .i64 burst, .slice A n c] w fun e w' => e = .returned (.bool true) ∧ Below w.heap.size w w' := by
  have hn : n ≤ 9223372036854775807 := Nat.le_trans hs.2.1 hs.2.2.1
  have HS := Lib.hid hs
  clear hs
  by_cases hbig : 80 < n
  · go_enter Try.func3, Try.ntmps3
    go_wp2_with fail
    refine (awake17_w _).mono ?_
    rintro e w1 ⟨rfl, hb1⟩
    have H1 := Lib.hid hb1
    clear hb1
    go_wp2_with fail
    refine (awake17_w _).mono ?_
    rintro e w2 ⟨rfl, hb2⟩
    have H2 := Lib.hid (bl_next H1.out hb2)
    clear hb2
    go_wp2
    go_ret
    exact ⟨rfl, H2.out⟩
  · by_cases hns : rate < 0 ∨ 1073741824 < rate ∨ burst < 1 ∨ 1073741824 < burst
    · have hns' := Lib.hid hns
      have h' : rate < 0 ∨ (0 ≤ rate ∧ 1073741824 < rate) ∨ ((0 ≤ rate ∧ rate ≤ 1073741824) ∧ burst < 1) ∨ ((0 ≤ rate ∧ rate ≤ 1073741824) ∧ 1 ≤ burst ∧ 1073741824 < burst) := by omega
      clear hns
      rcases h' with h | ⟨h, h1⟩ | ⟨⟨h, h1⟩, h2⟩ | ⟨⟨h, h1⟩, h2, h3⟩
      all_goals
        go_enter Try.func3, Try.ntmps3
        go_wp2_with fail
        refine (awake17_w _).mono ?_
        rintro e w1 ⟨rfl, hb1⟩
        have H1 := Lib.hid hb1
        clear hb1
        go_wp2_with fail
        refine (TokNew_no_w rate burst _ hns'.out).mono ?_
        rintro e w' ⟨rfl, rfl⟩
        go_wp2_with fail
        refine (TokNil_Take_w _ _ _).mono ?_
        rintro e w' ⟨rfl, rfl⟩
        go_wp2_with fail
        refine (TokNil_Level_w _ _).mono ?_
        rintro e w' ⟨rfl, rfl⟩
        go_wp2
        go_ret
        exact ⟨rfl, H1.out⟩
    · obtain ⟨hr0, hr1, hb0, hb1⟩ : 0 ≤ rate ∧ rate ≤ 1073741824 ∧ 1 ≤ burst ∧ burst ≤ 1073741824 := by omega
      clear hns
      go_enter Try.func3, Try.ntmps3
      go_wp2_with fail
      refine (awake17_w _).mono ?_
      rintro e w1 ⟨rfl, hb1⟩
      have H1 := Lib.hid hb1
      clear hb1
      go_wp2_with fail
      refine (TokNew_w rate burst _ (by omega) (by omega)).mono ?_
      rintro e w' ⟨rfl, rfl⟩
      obtain ⟨B, hB⟩ : ∃ B, B = w1.heap.size := ⟨_, rfl⟩
      have HB := Lib.hid hB
      have HO0 := Lib.hid (Obj1.new w1 (tok rate (burst * 1048576) (burst * 1048576) 0) 73)
      have HB0 := Lib.hid (bl_alloc H1.out (.cells (tok rate (burst * 1048576) (burst * 1048576) 0) 73))
      rw [← hB] at HO0
      rw [← hB]
      clear hB
      obtain ⟨w2, hw2⟩ : ∃ w2, w2 = w1.alloc (.cells (tok rate (burst * 1048576) (burst * 1048576) 0) 73) := ⟨_, rfl⟩
      rw [← hw2] at HO0 HB0
      rw [← hw2]
      clear hw2
      go_wp2_with fail
      refine (rTokNew_w rate burst _ (by omega)).mono ?_
      unfold rtok
      rintro e w3 ⟨rfl, hb3⟩
      have HO3 := Lib.hid (HO0.out.below hb3)
      have HB3 := Lib.hid (bl_next HB0.out hb3)
      clear hb3
      go_wp2_with fail
      obtain ⟨D, hD⟩ : ∃ D, D = w3.heap.size := ⟨_, rfl⟩
      have HDB : B < D := by rw [hD]; exact HO3.out.lt
      have HD : w.heap.size ≤ D := by rw [hD]; exact HB3.out.size
      have HBw : w.heap.size ≤ B := by have := HB.out; have := H1.out.size; omega
      have HO4 := Lib.hid (HO3.out.alloc (.cells (rtokC rate burst (burst * 1048576) 0) 31))
      have HR4 := Lib.hid (Obj1.new w3 (rtokC rate burst (burst * 1048576) 0) 31)
      have HB4 := Lib.hid (bl_alloc HB3.out (.cells (rtokC rate burst (burst * 1048576) 0) 31))
      rw [← hD] at HR4
      rw [← hD]
      clear hD
      go_loopw [62] (fun i wr => ∃ (k : Nat) (level tnow : Int), k ≤ n ∧ i = .int .i64 k ∧ (0 ≤ level ∧ level ≤ burst * 1048576) ∧ 0 ≤ tnow ∧ Obj1 wr B (tok rate (burst * 1048576) level tnow) 73 ∧ Obj1 wr D (rtokC rate burst level tnow) 31 ∧ Below w.heap.size w wr) (fun i _ => n - (intOf i).toNat)
      case atStart => exact ⟨0, _, 0, Nat.zero_le _, rfl, ⟨by omega, by omega⟩, by omega, HO4.out, HR4.out, HB4.out⟩
      case round =>
        obtain ⟨k, level, tnow, hk, rfl, hl, ht, hobj, href, hbel⟩ := hrel
        by_cases hlt : k < n
        · obtain ⟨sb, so, now, m, rfl, c0, c1, wnow, wm⟩ := (HS.out.below hbel).two k hlt
          have hsb : sb < w.heap.size := by
            obtain ⟨_, _, _, _, e, c0', _⟩ := HS.out.two k hlt
            cases e
            exact cell_lt c0'
          have hnow := i64_range wnow
          have hm := i64_range wm
          clear wnow wm
          have hk0 : (0 : Int) ≤ (k : Int) := Int.natCast_nonneg k
          have hk1 : (k : Int) < (n : Int) := by omega
          have d0 : wr.cell? ⟨D, 0, none⟩ = some (.int .i64 rate) := href.cell 0
          have d1 : wr.cell? ⟨D, 1, none⟩ = some (.int .i64 burst) := href.cell 1
          have d2 : wr.cell? ⟨D, 2, none⟩ = some (.int .i64 level) := href.cell 2
          have d3 : wr.cell? ⟨D, 3, none⟩ = some (.int .i64 tnow) := href.cell 3
          have HO := Lib.hid hobj
          have HR := Lib.hid href
          have HW := Lib.hid hbel
          clear hobj href hbel
          have hat := tokAt_range rate (burst * 1048576) level tnow now (burst * 1048576) hl ⟨by omega, by omega⟩
          obtain ⟨L, hL⟩ : ∃ L, tokAt rate (burst * 1048576) level tnow now = L := ⟨_, rfl⟩
          rw [hL] at hat
          have HL := Lib.hid hL
          clear hL
          have hfield : ∀ (W : World) (x0 x1 x2 x3 : Value), (Instr.field 31 (.agg #[x0, x1, x2, x3]) 2).run Try.prog W = .ok x2 W := fun _ _ _ _ _ => by kernel_rfl
          have hquo : IntKind.i64.wrap (L.tdiv 1048576) = L / 1048576 := by
            rw [Int.tdiv_eq_ediv_of_nonneg hat.1]
            exact IntWalk.i64_in _ (by omega)
          go_wp2_with fail
          go_region_held3 (fun w' => w'.cell? ⟨sb, so + k * 2, none⟩ = some (.int .i64 now) ∧ w'.cell? ⟨D, 0, none⟩ = some (.int .i64 rate) ∧ w'.cell? ⟨D, 1, none⟩ = some (.int .i64 burst) ∧ w'.cell? ⟨D, 2, none⟩ = some (.int .i64 level) ∧ w'.cell? ⟨D, 3, none⟩ = some (.int .i64 tnow))
            (first | exact hS1 | exact hS2 | go_keep)
            (first
              | (go_at_call 14; refine (TokLevel_w B rate (burst * 1048576) level tnow now _ (by exact HO.out) ht hnow (by omega) (by omega)).mono ?_; rw [HL.out]; rintro e w5 ⟨rfl, hb5⟩; have hS1 := And.intro (bl_keeps hb5 c0) (And.intro (bl_keeps hb5 d0) (And.intro (bl_keeps hb5 d1) (And.intro (bl_keeps hb5 d2) (bl_keeps hb5 d3)))); have hS1c := bl_keeps hb5 c1)
              | (go_at_call 16; refine (rTokAt_w rate burst level tnow now _ ht hnow (by omega)).mono ?_; rw [HL.out]; simp only [rtok]; rintro e w6 ⟨rfl, hb6⟩; have hS2 := And.intro (bl_keeps hb6 hS1.1) (And.intro (bl_keeps hb6 hS1.2.1) (And.intro (bl_keeps hb6 hS1.2.2.1) (And.intro (bl_keeps hb6 hS1.2.2.2.1) (bl_keeps hb6 hS1.2.2.2.2)))); have hS2c := bl_keeps hb6 hS1c))
          have HO6 := Lib.hid (((show Obj1 wr.drew B _ _ from HO.out).below hb5).below hb6)
          have HR6 := Lib.hid (((show Obj1 wr.drew D _ _ from HR.out).below hb5).below hb6)
          have HW6 := Lib.hid (bl_next (bl_next (show Below w.heap.size w wr.drew from HW.out.drew) hb5) hb6)
          clear hb5 hb6
          obtain ⟨c0, d0, d1, d2, d3⟩ := hS2
          have c1 : w6.cell? ⟨sb, so + k * 2 + 1, none⟩ = some (.int .i64 m) := hS2c
          clear hS1 hquo
          go_wp2_with fail
          refine wp_region_still_tail 11 (by kernel_rfl) (by kernel_rfl) ?_
          change wpStill _ _ (World.drew _) (fun a' => wpList _ _ _ _ a' (World.drew _)) _ _
          simp only [List.take_succ_cons, List.take_zero, List.drop_succ_cons, List.drop_zero]
          repeat still_step
          refine wpStill_nil ?_
          go_wp2_with fail
          refine (TokTake_w B rate (burst * 1048576) level tnow now m _ (by exact HO6.out) ht hnow (by omega) (by omega)).mono ?_
          rw [HL.out]
          rintro e w7 ⟨rfl, ho7, hu7⟩
          have hHR7 : Obj1 w7 D (rtokC rate burst level tnow) 31 := Obj1.of_grown (w := w6.drew) HR6.out hu7 (by simp; omega)
          have c0' : w7.cell? ⟨sb, so + k * 2, none⟩ = some (.int .i64 now) := keep_upd (w := w6.drew) hu7 c0 (by show sb ≠ B; omega)
          have c1' : w7.cell? ⟨sb, so + k * 2 + 1, none⟩ = some (.int .i64 m) := keep_upd (w := w6.drew) hu7 c1 (by show sb ≠ B; omega)
          have HO7 := Lib.hid ho7
          have HR7 := Lib.hid hHR7
          have HW7 := Lib.hid (bl_upd (show Below w.heap.size w w6.drew from HW6.out.drew) hu7 HBw)
          have e0 : w7.cell? ⟨D, 0, none⟩ = some (.int .i64 rate) := hHR7.cell 0
          have e1 : w7.cell? ⟨D, 1, none⟩ = some (.int .i64 burst) := hHR7.cell 1
          have e2 : w7.cell? ⟨D, 2, none⟩ = some (.int .i64 level) := hHR7.cell 2
          have e3 : w7.cell? ⟨D, 3, none⟩ = some (.int .i64 tnow) := hHR7.cell 3
          clear ho7 hu7 hHR7 c0 c1 d0 d1 d2 d3
          go_wp2_with fail
          have hsD : sb ≠ D := by omega
          refine wp_region_held_drew (S := (fun w' => w'.cell? ⟨sb, so + k * 2, none⟩ = some (.int .i64 now) ∧ w'.cell? ⟨sb, so + k * 2 + 1, none⟩ = some (.int .i64 m))) (by kernel_rfl) (⟨c0', c1'⟩) (fun hHeld => ?_)
          refine wpAnyH_take (i := 1) (v := ?_) rfl (by kernel_rfl) (by kernel_rfl) (by kernel_rfl) (fun _ _ _ h => h) (Or.inl ⟨by rfl, ?_⟩) (by assumption) ?_
          rotate_left
          · intro w hSw; (try dsimp only at hSw); go_simp
            try with_reducible rfl
          refine wpAnyH_take (i := 2) (v := ?_) rfl (by kernel_rfl) (by kernel_rfl) (by kernel_rfl) (fun _ _ _ h => h) (Or.inl ⟨by rfl, ?_⟩) (by assumption) ?_
          rotate_left
          · intro w hSw; (try dsimp only at hSw); go_simp
            try with_reducible rfl
          go_simp
          refine wpAnyH_take (i := 3) (v := ?_) rfl (by kernel_rfl) (by kernel_rfl) (by kernel_rfl) (fun _ _ _ h => h) (Or.inl ⟨by rfl, ?_⟩) (by assumption) ?_
          rotate_left
          · intro w hSw; (try dsimp only at hSw); go_simp
            try with_reducible rfl
          refine wpAnyH_take (i := 4) (v := ?_) rfl (by kernel_rfl) (by kernel_rfl) (by kernel_rfl) (fun _ _ _ h => h) (Or.inl ⟨by rfl, ?_⟩) (by assumption) ?_
          rotate_left
          · intro w hSw; (try dsimp only at hSw); go_simp
            try with_reducible rfl
          go_simp
          refine wpAnyH_take (i := 5) (v := ?_) rfl (by kernel_rfl) (by kernel_rfl) (by kernel_rfl) (fun _ _ _ h => h) (Or.inl ⟨by rfl, ?_⟩) (by assumption) ?_
          rotate_left
          · intro w hSw; (try dsimp only at hSw); go_simp
            try with_reducible rfl
          refine wpAnyH_take (i := 6) (v := ?_) rfl (by kernel_rfl) (by kernel_rfl) (by kernel_rfl) (fun _ _ _ h => h) (Or.inl ⟨by rfl, ?_⟩) (by assumption) ?_
          rotate_left
          · intro w hSw; (try dsimp only at hSw); go_simp
            try with_reducible rfl
          go_simp
          refine wpAnyH_take (i := 7) (v := ?_) rfl (by kernel_rfl) (by kernel_rfl) (by kernel_rfl) (fun _ _ _ h => h) (Or.inl ⟨by rfl, ?_⟩) (by assumption) ?_
          rotate_left
          · intro w hSw; (try dsimp only at hSw); go_simp
            try with_reducible rfl
          refine wpAnyH_take (i := 8) (v := ?_) rfl (by kernel_rfl) (by kernel_rfl) (by kernel_rfl) (fun _ _ _ h => h) (Or.inl ⟨by rfl, ?_⟩) (by assumption) ?_
          rotate_left
          · intro w hSw; (try dsimp only at hSw); go_simp
            try with_reducible rfl
          go_simp
          refine wpAnyH_take (i := 9) (v := ?_) rfl (by kernel_rfl) (by kernel_rfl) (by kernel_rfl) (fun _ _ _ h => h) (Or.inl ⟨by rfl, ?_⟩) (by assumption) ?_
          rotate_left
          · intro w hSw; (try dsimp only at hSw); go_simp
            try with_reducible rfl
          refine wpAnyH_take (i := 10) (v := ?_) rfl (by kernel_rfl) (by kernel_rfl) (by kernel_rfl) (fun _ _ _ h => h) (Or.inl ⟨by rfl, ?_⟩) (by assumption) ?_
          rotate_left
          · intro w hSw; (try dsimp only at hSw); go_simp
            try with_reducible rfl
          go_simp
          refine wpAnyH_ready (rs := [0]) (by kernel_rfl) (by simp) ?_
          refine AllReadyH.cons rfl (fun K hK => ?_) ?_
          rotate_left
          · exact AllReadyH.nil
          go_simp
          refine hK.out _ _ (⟨c0', c1'⟩) (fun hHeld => ?_)
          clear hK K
          refine wpAnyH_ready (rs := [11]) (by kernel_rfl) (by simp) ?_
          refine AllReadyH.cons rfl (fun K hK => ?_) ?_
          rotate_left
          · exact AllReadyH.nil
          go_simp
          go_wp2_with ((go_at_call 17; refine (rTokTake_w rate burst level tnow now m _ ht hnow (by omega) (by omega)).mono ?_; rw [HL.out]; simp only [rtok]; rintro e w8 ⟨rfl, hb8⟩))
          refine hK.out _ _ (⟨bl_keeps hb8 c0', bl_keeps hb8 c1'⟩) (fun hHeld => ?_)
          clear hK K
          have HR8 := Lib.hid ((show Obj1 w7.drew D _ _ from HR7.out).below hb8)
          have HO8 := Lib.hid ((show Obj1 w7.drew B _ _ from HO7.out).below hb8)
          have HW8 := Lib.hid (bl_next (show Below w.heap.size w w7.drew from HW7.out.drew) hb8)
          clear e0 e1 e2 e3
          have g0 := HR8.out.cell 0
          have g1 := HR8.out.cell 1
          have g2 := HR8.out.cell 2
          have g3 := HR8.out.cell 3
          have k0 := HR8.out.free 0
          have k1 := HR8.out.free 1
          have k2 := HR8.out.free 2
          have k3 := HR8.out.free 3
          simp [rtokC] at g0 g1 g2 g3
          have g4 := (bl_keeps (show Below w7.drew.heap.size w7.drew w8 from hb8) c0')
          have g5 := (bl_keeps (show Below w7.drew.heap.size w7.drew w8 from hb8) c1')
          clear hb8 c0' c1'
          refine wpAnyH_take (i := 12) (v := ?_) rfl (by kernel_rfl) (by kernel_rfl) (by kernel_rfl) (fun _ _ _ h => h) (Or.inl ⟨by rfl, ?_⟩) (by assumption) ?_
          rotate_left
          · intro w hSw; (try dsimp only at hSw); go_simp
            try with_reducible rfl
          refine wpAnyH_take (i := 13) (v := ?_) rfl (by kernel_rfl) (by kernel_rfl) (by kernel_rfl) (fun _ _ _ h => h) (Or.inl ⟨by rfl, ?_⟩) (by assumption) ?_
          rotate_left
          · intro w hSw; (try dsimp only at hSw); go_simp
            try with_reducible rfl
          go_simp
          refine wpAnyH_take (i := 14) (v := ?_) rfl (by kernel_rfl) (by kernel_rfl) (by kernel_rfl) (fun _ _ _ h => h) (Or.inl ⟨by rfl, ?_⟩) (by assumption) ?_
          rotate_left
          · intro w hSw; (try dsimp only at hSw); go_simp
            try with_reducible rfl
          go_simp
          refine wpAnyH_ready (rs := [15]) (by kernel_rfl) (by simp) ?_
          refine AllReadyH.cons rfl (fun K hK => ?_) ?_
          rotate_left
          · exact AllReadyH.nil
          go_simp
          refine hK.out _ _ (by constructor <;> go_simp) (fun hHeld => ?_)
          clear hK K
          refine wpAnyH_take (i := 16) (v := ?_) rfl (by kernel_rfl) (by kernel_rfl) (by kernel_rfl) (fun _ _ _ h => h) (Or.inl ⟨by rfl, ?_⟩) (by assumption) ?_
          rotate_left
          · intro w hSw; (try dsimp only at hSw); go_simp
            try with_reducible rfl
          go_simp
          refine wpAnyH_done (by kernel_rfl) ?_ _
          have HR9 := Lib.hid (rtok_set4 HR8.out (tokLeft L m) (tokNow tnow now))
          have HW9 := Lib.hid (bl_upd HW8.out (((((Upd.refl D w8).set 0 (.int .i64 rate)).set 1 (.int .i64 burst)).set 2 (.int .i64 (tokLeft L m))).set 3 (.int .i64 (tokNow tnow now))) HD)
          have HO9 := Lib.hid (Obj1.of_grown HO8.out (((((Upd.refl D w8).set 0 (.int .i64 rate)).set 1 (.int .i64 burst)).set 2 (.int .i64 (tokLeft L m))).set 3 (.int .i64 (tokNow tnow now))) (by simp; omega))
          clear g0 g1 g2 g3 g4 g5 k0 k1 k2 k3 hHeld
          generalize (((w8.setCell ⟨D, 0, none⟩ (.int .i64 rate)).setCell ⟨D, 1, none⟩ (.int .i64 burst)).setCell ⟨D, 2, none⟩ (.int .i64 (tokLeft L m))).setCell ⟨D, 3, none⟩ (.int .i64 (tokNow tnow now)) = w9 at *
          have hl2 := tokLeft_range L m (burst * 1048576) hat
          have ht2 := tokNow_range tnow now ht
          have e2 : w9.cell? ⟨D, 2, none⟩ = some (.int .i64 (tokLeft L m)) := HR9.out.cell 2
          have hold : tokAt rate (burst * 1048576) (tokLeft L m) (tokNow tnow now) 0 = tokLeft L m := by unfold tokAt; rw [if_pos ht2]
          have hquo2 : IntKind.i64.wrap ((tokLeft L m).tdiv 1048576) = tokLeft L m / 1048576 := by
            rw [Int.tdiv_eq_ediv_of_nonneg hl2.1]
            exact IntWalk.i64_in _ (by omega)
          have HOLD := Lib.hid hold
          clear hold
          go_wp2_with fail
          go_region_held3 (fun w' => w'.cell? ⟨D, 2, none⟩ = some (.int .i64 (tokLeft L m)))
            (first | exact hS9 | go_keep)
            (first
              | (go_at_call 14; refine (TokLevel_w B rate (burst * 1048576) (tokLeft L m) (tokNow tnow now) 0 _ (by exact HO9.out) ht2 (by omega) (by omega) (by omega)).mono ?_; rw [HOLD.out]; rintro e w10 ⟨rfl, hb10⟩; have hS9 := bl_keeps hb10 e2))
          have HO10 := Lib.hid ((show Obj1 w9.drew B _ _ from HO9.out).below hb10)
          have HR10 := Lib.hid ((show Obj1 w9.drew D _ _ from HR9.out).below hb10)
          have HW10 := Lib.hid (bl_next (show Below w.heap.size w w9.drew from HW9.out.drew) hb10)
          clear hb10 hquo2 hS9 e2
          go_wp2_with fail
          go_roundw
          case rel => exact ⟨k + 1, tokLeft L m, tokNow tnow now, by omega, by go_num, hl2, ht2, HO10.out, HR10.out, HW10.out⟩
          case measure => simp [intOf]; omega
        · obtain rfl : k = n := by omega
          have HW := Lib.hid hbel
          clear hobj href hbel
          go_wp2
          go_ret
          exact ⟨rfl, HW.out⟩
end Go.Proofs.Ytcgabjjdffcjbaa
