/- The walks of package token and of its reference. -/
import Derived.Test.YtcgabjjdffcjbaaNumB
import Derived.Test.YtcgabjjdffcjbaaOpen
import Derived.StillTailTactics
namespace Go.Proofs.Ytcgabjjdffcjbaa
open Go.RowKit
set_option linter.unusedVariables false
set_option linter.unusedSimpArgs false

/-- Tokens' cells. -/
def tok (rate most level now : Int) : Array Value := #[.int .i64 rate, .int .i64 most, .int .i64 level, .int .i64 now]
/-- How many parts there are at a moment. -/
def tokAt (rate most level tnow now : Int) : Int :=
  if now ≤ tnow then level else if plus (cnt level) (mulC (now - tnow) rate) < most then plus (cnt level) (mulC (now - tnow) rate) else most
/-- The moment behind a taking. -/
def tokNow (tnow now : Int) : Int := if tnow < now then now else tnow
/-- Are there n, of so many parts? -/
def tokOk (level n : Int) : Bool := decide (0 ≤ n) && decide (n ≤ 1073741824) && decide (n * 1048576 ≤ level)

theorem mulC_range (a b : Int) : 0 ≤ mulC a b ∧ mulC a b ≤ 4611686018427387904 := by
  have ha := cnt_range a
  have hb := cnt_range b
  have := Int.mul_nonneg ha.1 hb.1
  unfold mulC
  split <;> omega

theorem tokAt_range (rate most level tnow now M : Int) (hl : 0 ≤ level ∧ level ≤ M) (hm : 0 ≤ most ∧ most ≤ M) : 0 ≤ tokAt rate most level tnow now ∧ tokAt rate most level tnow now ≤ M := by
  have hp := plus_range (cnt level) (mulC (now - tnow) rate) (cnt_range level)
  unfold tokAt
  split
  · exact hl
  · split <;> omega

set_option maxHeartbeats 400000 in
theorem TokNew_no_w (rate burst : Int) (w : World) (h : rate < 0 ∨ 1073741824 < rate ∨ burst < 1 ∨ 1073741824 < burst) :
    Calls Try.prog 12 #[.int .i64 rate, .int .i64 burst] w fun e w' => e = .returned (.tuple #[.pointer none, .int .i64 1]) ∧ w = w' := by
  have h' : rate < 0 ∨ (0 ≤ rate ∧ 1073741824 < rate) ∨ ((0 ≤ rate ∧ rate ≤ 1073741824) ∧ burst < 1) ∨ ((0 ≤ rate ∧ rate ≤ 1073741824) ∧ 1 ≤ burst ∧ 1073741824 < burst) := by omega
  clear h
  rcases h' with h | ⟨h, h1⟩ | ⟨⟨h, h1⟩, h2⟩ | ⟨⟨h, h1⟩, h2, h3⟩
  all_goals
    go_enter Try.func12, Try.ntmps12
    go_wp2
    go_ret2
    exact ⟨rfl, rfl⟩

set_option maxHeartbeats 400000 in
theorem TokNew_w (rate burst : Int) (w : World) (h0 : 0 ≤ rate ∧ rate ≤ 1073741824) (h1 : 1 ≤ burst ∧ burst ≤ 1073741824) :
    Calls Try.prog 12 #[.int .i64 rate, .int .i64 burst] w fun e w' => e = .returned (.tuple #[.pointer (some ⟨w.heap.size, 0, none⟩), .int .i64 0]) ∧ w.alloc (.cells (tok rate (burst * 1048576) (burst * 1048576) 0) 73) = w' := by
  unfold tok
  go_enter Try.func12, Try.ntmps12
  go_wp2
  go_ret2
  exact ⟨rfl, rfl⟩

set_option maxHeartbeats 1000000 in
theorem TokAt_w (B : Nat) (rate most level tnow now : Int) (w : World) (h : Obj1 w B (tok rate most level tnow) 73) (hn : 0 ≤ tnow) (hi : -9223372036854775808 ≤ now ∧ now ≤ 9223372036854775807) :
    Calls Try.prog 36 #[.pointer (some ⟨B, 0, none⟩), .int .i64 now] w fun e w' => e = .returned (.int .i64 (tokAt rate most level tnow now)) ∧ Below w.heap.size w w' := by
  have c0 : w.cell? ⟨B, 0, none⟩ = some (.int .i64 rate) := h.cell 0
  have c1 : w.cell? ⟨B, 1, none⟩ = some (.int .i64 most) := h.cell 1
  have c2 : w.cell? ⟨B, 2, none⟩ = some (.int .i64 level) := h.cell 2
  have c3 : w.cell? ⟨B, 3, none⟩ = some (.int .i64 tnow) := h.cell 3
  have hB := h.lt
  have H := Lib.hid h
  clear h
  by_cases h1 : now ≤ tnow
  · have hr : tokAt rate most level tnow now = level := by unfold tokAt; rw [if_pos h1]
    rw [hr]
    clear hr
    go_enter Try.func36, Try.ntmps36
    go_wp2
    go_ret
    exact ⟨rfl, Below.refl _ _⟩
  · have hr : tokAt rate most level tnow now = if plus (cnt level) (mulC (now - tnow) rate) < most then plus (cnt level) (mulC (now - tnow) rate) else most := by unfold tokAt; rw [if_neg h1]
    rw [hr]
    clear hr
    have hw : IntKind.i64.wrap (now - tnow) = now - tnow := IntWalk.i64_in _ (by omega)
    by_cases h2 : plus (cnt level) (mulC (now - tnow) rate) < most
    · rw [if_pos h2]
      go_enter Try.func36, Try.ntmps36
      go_wp2_with fail
      go_region_held3 (fun w' => w'.cell? ⟨B, 0, none⟩ = some (.int .i64 rate) ∧ w'.cell? ⟨B, 1, none⟩ = some (.int .i64 most) ∧ w'.cell? ⟨B, 2, none⟩ = some (.int .i64 level) ∧ w'.cell? ⟨B, 3, none⟩ = some (.int .i64 tnow)) (go_keep)
        (first | (go_at_call 49; refine (Mul_w _ _ _).mono ?_; rintro e w' ⟨rfl, rfl⟩) | (go_at_call 42; refine (Add2_w level (mulC (now - tnow) rate) _ _ (new_atd (by simp) rfl) (new_atd (by simp) rfl)).mono ?_; rintro e w' ⟨rfl, rfl⟩))
      all_goals
        go_wp2
        go_ret
        exact ⟨rfl, (bl_alloc (Below.refl _ _) _).drew⟩
    · rw [if_neg h2]
      go_enter Try.func36, Try.ntmps36
      go_wp2_with fail
      go_region_held3 (fun w' => w'.cell? ⟨B, 0, none⟩ = some (.int .i64 rate) ∧ w'.cell? ⟨B, 1, none⟩ = some (.int .i64 most) ∧ w'.cell? ⟨B, 2, none⟩ = some (.int .i64 level) ∧ w'.cell? ⟨B, 3, none⟩ = some (.int .i64 tnow)) (go_keep)
        (first | (go_at_call 49; refine (Mul_w _ _ _).mono ?_; rintro e w' ⟨rfl, rfl⟩) | (go_at_call 42; refine (Add2_w level (mulC (now - tnow) rate) _ _ (new_atd (by simp) rfl) (new_atd (by simp) rfl)).mono ?_; rintro e w' ⟨rfl, rfl⟩))
      all_goals
        go_wp2
        go_ret
        exact ⟨rfl, (bl_alloc (Below.refl _ _) _).drew⟩

theorem TokNil_Take_w (now n : Int) (w : World) : Calls Try.prog 13 #[.pointer none, .int .i64 now, .int .i64 n] w fun e w' => e = .returned (.bool false) ∧ w = w' := by
  go_enter Try.func13, Try.ntmps13
  go_wp2
  go_ret
  exact ⟨rfl, rfl⟩

theorem TokNil_Level_w (now : Int) (w : World) : Calls Try.prog 14 #[.pointer none, .int .i64 now] w fun e w' => e = .returned (.int .i64 0) ∧ w = w' := by
  go_enter Try.func14, Try.ntmps14
  go_wp2
  go_ret
  exact ⟨rfl, rfl⟩

set_option maxHeartbeats 1000000 in
theorem TokLevel_w (B : Nat) (rate most level tnow now : Int) (w : World) (h : Obj1 w B (tok rate most level tnow) 73) (hn : 0 ≤ tnow) (hi : -9223372036854775808 ≤ now ∧ now ≤ 9223372036854775807)
    (hl : 0 ≤ level ∧ level ≤ 4611686018427387904) (hm : 0 ≤ most ∧ most ≤ 4611686018427387904) :
    Calls Try.prog 14 #[.pointer (some ⟨B, 0, none⟩), .int .i64 now] w fun e w' => e = .returned (.int .i64 (tokAt rate most level tnow now / 1048576)) ∧ Below w.heap.size w w' := by
  have hr := tokAt_range rate most level tnow now 4611686018427387904 hl hm
  have hB := h.lt
  have H := Lib.hid h
  clear h
  go_enter Try.func14, Try.ntmps14
  go_wp2_with fail
  refine (TokAt_w B rate most level tnow now _ H.out hn hi).mono ?_
  rintro e w1 ⟨rfl, hb1⟩
  have H1 := Lib.hid hb1
  clear hb1
  go_wp2
  go_ret
  exact ⟨rfl, H1.out⟩

theorem tok_set2 {w : World} {B : Nat} {r m l t : Int} (h : Obj1 w B (tok r m l t) 73) (x : Int) : Obj1 (w.setCell ⟨B, 2, none⟩ (.int .i64 x)) B (tok r m x t) 73 := h.set 2 _
theorem tok_set3 {w : World} {B : Nat} {r m l t : Int} (h : Obj1 w B (tok r m l t) 73) (x : Int) : Obj1 (w.setCell ⟨B, 3, none⟩ (.int .i64 x)) B (tok r m l x) 73 := h.set 3 _

/-- What a taking leaves of the level. -/
def tokLeft (level n : Int) : Int := if tokOk level n = true then level - n * 1048576 else level

set_option maxHeartbeats 2000000 in
theorem TokTake_w (B : Nat) (rate most level tnow now n : Int) (w : World) (h : Obj1 w B (tok rate most level tnow) 73) (hn : 0 ≤ tnow) (hi : -9223372036854775808 ≤ now ∧ now ≤ 9223372036854775807)
    (hl : 0 ≤ level ∧ level ≤ 4611686018427387904) (hm : 0 ≤ most ∧ most ≤ 4611686018427387904) :
    Calls Try.prog 13 #[.pointer (some ⟨B, 0, none⟩), .int .i64 now, .int .i64 n] w fun e w' =>
      e = .returned (.bool (tokOk (tokAt rate most level tnow now) n)) ∧ Obj1 w' B (tok rate most (tokLeft (tokAt rate most level tnow now) n) (tokNow tnow now)) 73 ∧ Upd B w w' := by
  have hr := tokAt_range rate most level tnow now 4611686018427387904 hl hm
  have hB := h.lt
  have H := Lib.hid h
  clear h
  obtain ⟨L, hL⟩ : ∃ L, tokAt rate most level tnow now = L := ⟨_, rfl⟩
  rw [hL] at hr ⊢
  have HL := Lib.hid hL
  clear hL
  have hnow : (tnow < now ∧ tokNow tnow now = now) ∨ (now ≤ tnow ∧ tokNow tnow now = tnow) := by
    unfold tokNow
    by_cases h : tnow < now
    · exact .inl ⟨h, by rw [if_pos h]⟩
    · exact .inr ⟨by omega, by rw [if_neg h]⟩
  have hok : (n < 0 ∧ tokOk L n = false) ∨ ((0 ≤ n ∧ 1073741824 < n) ∧ tokOk L n = false) ∨ ((0 ≤ n ∧ n ≤ 1073741824) ∧ L < n * 1048576 ∧ tokOk L n = false) ∨ ((0 ≤ n ∧ n ≤ 1073741824) ∧ n * 1048576 ≤ L ∧ tokOk L n = true) := by
    unfold tokOk
    simp
    omega
  rcases hnow with ⟨hx, hnow⟩ | ⟨hx, hnow⟩
  all_goals
    rw [hnow]
    clear hnow
    rcases hok with ⟨g1, hok⟩ | ⟨⟨g1, g2⟩, hok⟩ | ⟨⟨g1, g2⟩, g3, hok⟩ | ⟨⟨g1, g2⟩, g3, hok⟩
    all_goals
      have hleft : tokLeft L n = if tokOk L n = true then L - n * 1048576 else L := rfl
      simp only [hok, if_true, Bool.false_eq_true, if_false] at hleft
      rw [hleft, hok]
      clear hleft hok
      go_enter Try.func13, Try.ntmps13
      go_wp2_with fail
      refine (TokAt_w B rate most level tnow now _ H.out hn hi).mono ?_
      rw [HL.out]
      rintro e w1 ⟨rfl, hb1⟩
      have H1 := Lib.hid (H.out.below hb1)
      have HB1 := Lib.hid hb1
      clear hb1
      have c0 : w1.cell? ⟨B, 0, none⟩ = some (.int .i64 rate) := H1.out.cell 0
      have c1 : w1.cell? ⟨B, 1, none⟩ = some (.int .i64 most) := H1.out.cell 1
      have c2 : w1.cell? ⟨B, 2, none⟩ = some (.int .i64 level) := H1.out.cell 2
      have c3 : w1.cell? ⟨B, 3, none⟩ = some (.int .i64 tnow) := H1.out.cell 3
      have f2 : w1.frozen? ⟨B, 2, none⟩ = false := H1.out.free 2
      have f3 : w1.frozen? ⟨B, 3, none⟩ = false := H1.out.free 3
      go_wp2
      go_ret
      refine ⟨rfl, ?_, ?_⟩
      · first
          | with_reducible exact tok_set3 (tok_set2 H1.out _) _
          | with_reducible exact tok_set2 (tok_set3 (tok_set2 H1.out _) _) _
      · first
          | with_reducible exact ((Upd.of_below HB1.out).set 2 _).set 3 _
          | with_reducible exact (((Upd.of_below HB1.out).set 2 _).set 3 _).set 2 _

/-- A reference's tokens, as a value. -/
def rtok (rate burst level now : Int) : Value := .agg #[.int .i64 rate, .int .i64 burst, .int .i64 level, .int .i64 now]

set_option maxHeartbeats 1000000 in
theorem rTokNew_w (rate burst : Int) (w : World) (h1 : 1 ≤ burst ∧ burst ≤ 1073741824) :
    Calls Try.prog 15 #[.int .i64 rate, .int .i64 burst] w fun e w' => e = .returned (rtok rate burst (burst * 1048576) 0) ∧ Below w.heap.size w w' := by
  go_enter Try.func15, Try.ntmps15
  go_wp2
  exact bodyPost_ret (v := rtok rate burst (burst * 1048576) 0) (by simp [results, rtok, Try.results15, go_sem]) rfl ⟨rfl, bl_alloc (Below.refl _ _) _⟩

set_option maxHeartbeats 1000000 in
theorem rTokAt_x (rate burst level tnow now : Int) (w : World) (hn : 0 ≤ tnow) (hi : -9223372036854775808 ≤ now ∧ now ≤ 9223372036854775807) (hb : 0 ≤ burst ∧ burst ≤ 1073741824) :
    Calls Try.prog 16 #[rtok rate burst level tnow, .int .i64 now] w fun e w' => e = .returned (rtok rate burst (tokAt rate (burst * 1048576) level tnow now) (tokNow tnow now)) ∧ ∃ o1 o2 n, w' = ((w.alloc o1).alloc o2).drewN n := by
  by_cases h1 : now ≤ tnow
  · have hr : tokAt rate (burst * 1048576) level tnow now = level := by unfold tokAt; rw [if_pos h1]
    have hr2 : tokNow tnow now = tnow := by unfold tokNow; rw [if_neg (by omega)]
    rw [hr, hr2]
    clear hr hr2
    unfold rtok
    go_enter Try.func16, Try.ntmps16
    go_wp2
    exact bodyPost_ret (v := rtok rate burst level tnow) (by simp [results, rtok, Try.results16, go_sem]) rfl ⟨rfl, _, _, 0, rfl⟩
  · have hr2 : tokNow tnow now = now := by unfold tokNow; rw [if_pos (by omega)]
    rw [hr2]
    clear hr2
    have hw : IntKind.i64.wrap (now - tnow) = now - tnow := IntWalk.i64_in _ (by omega)
    obtain ⟨X, hX⟩ : ∃ X, plus (cnt level) (mulC (now - tnow) rate) = X := ⟨_, rfl⟩
    have HX := Lib.hid hX
    by_cases h2 : burst * 1048576 < X
    · have hr : tokAt rate (burst * 1048576) level tnow now = burst * 1048576 := by unfold tokAt; rw [if_neg h1, hX, if_neg (by omega)]
      rw [hr]
      clear hr hX
      unfold rtok
      go_enter Try.func16, Try.ntmps16
      go_wp2_with fail
      refine wp_region_still_tail 11 (by kernel_rfl) (by kernel_rfl) ?_
      change wpStill _ _ (World.drew _) (fun a' => wpList _ _ _ _ a' (World.drew _)) _ _
      simp only [List.take_succ_cons, List.take_zero, List.drop_succ_cons, List.drop_zero]
      repeat still_step
      still_call (same_left (rMul_w _ _ _))
      repeat still_step
      still_call (same_left (rAdd_w _ _ _))
      repeat still_step
      refine wpStill_nil ?_
      rw [HX.out]
      clear hw
      go_wp2
      exact bodyPost_ret (v := rtok rate burst (burst * 1048576) now) (by simp [results, rtok, Try.results16, go_sem]) rfl ⟨rfl, _, _, 1, rfl⟩
    · have hr : tokAt rate (burst * 1048576) level tnow now = X := by
        unfold tokAt
        rw [if_neg h1, hX]
        split <;> omega
      rw [hr]
      clear hr hX
      unfold rtok
      go_enter Try.func16, Try.ntmps16
      go_wp2_with fail
      refine wp_region_still_tail 11 (by kernel_rfl) (by kernel_rfl) ?_
      change wpStill _ _ (World.drew _) (fun a' => wpList _ _ _ _ a' (World.drew _)) _ _
      simp only [List.take_succ_cons, List.take_zero, List.drop_succ_cons, List.drop_zero]
      repeat still_step
      still_call (same_left (rMul_w _ _ _))
      repeat still_step
      still_call (same_left (rAdd_w _ _ _))
      repeat still_step
      refine wpStill_nil ?_
      rw [HX.out]
      clear hw
      go_wp2
      exact bodyPost_ret (v := rtok rate burst X now) (by simp [results, rtok, Try.results16, go_sem]) rfl ⟨rfl, _, _, 1, rfl⟩

theorem rTokAt_w (rate burst level tnow now : Int) (w : World) (hn : 0 ≤ tnow) (hi : -9223372036854775808 ≤ now ∧ now ≤ 9223372036854775807) (hb : 0 ≤ burst ∧ burst ≤ 1073741824) :
    Calls Try.prog 16 #[rtok rate burst level tnow, .int .i64 now] w fun e w' => e = .returned (rtok rate burst (tokAt rate (burst * 1048576) level tnow now) (tokNow tnow now)) ∧ Below w.heap.size w w' := by
  refine (rTokAt_x rate burst level tnow now w hn hi hb).mono ?_
  rintro e w' ⟨rfl, o1, o2, n, rfl⟩
  exact ⟨rfl, bl_drewN (bl_alloc (bl_alloc (Below.refl _ _) _) _) _⟩

set_option maxHeartbeats 2000000 in
theorem rTokTake_w (rate burst level tnow now n : Int) (w : World) (hn : 0 ≤ tnow) (hi : -9223372036854775808 ≤ now ∧ now ≤ 9223372036854775807) (hb : 0 ≤ burst ∧ burst ≤ 1073741824) (hl : 0 ≤ level ∧ level ≤ 4611686018427387904) :
    Calls Try.prog 17 #[rtok rate burst level tnow, .int .i64 now, .int .i64 n] w fun e w' =>
      e = .returned (.tuple #[rtok rate burst (tokLeft (tokAt rate (burst * 1048576) level tnow now) n) (tokNow tnow now), .bool (tokOk (tokAt rate (burst * 1048576) level tnow now) n)]) ∧ Below w.heap.size w w' := by
  have hr := tokAt_range rate (burst * 1048576) level tnow now 4611686018427387904 hl (by omega)
  obtain ⟨L, hL⟩ : ∃ L, tokAt rate (burst * 1048576) level tnow now = L := ⟨_, rfl⟩
  rw [hL] at hr ⊢
  have HL := Lib.hid hL
  clear hL
  obtain ⟨T, hT⟩ : ∃ T, tokNow tnow now = T := ⟨_, rfl⟩
  rw [hT]
  have HT := Lib.hid hT
  clear hT
  have hok : (n < 0 ∧ tokOk L n = false) ∨ ((0 ≤ n ∧ 1073741824 < n) ∧ tokOk L n = false) ∨ ((0 ≤ n ∧ n ≤ 1073741824) ∧ L / 1048576 < n ∧ tokOk L n = false) ∨ ((0 ≤ n ∧ n ≤ 1073741824) ∧ (n ≤ L / 1048576 ∧ n * 1048576 ≤ L) ∧ tokOk L n = true) := by
    unfold tokOk
    simp
    omega
  rcases hok with ⟨g1, hok⟩ | ⟨⟨g1, g2⟩, hok⟩ | ⟨⟨g1, g2⟩, g3, hok⟩ | ⟨⟨g1, g2⟩, g3, hok⟩
  all_goals
    have hleft : tokLeft L n = if tokOk L n = true then L - n * 1048576 else L := rfl
    simp only [hok, if_true, Bool.false_eq_true, if_false] at hleft
    rw [hleft, hok]
    clear hleft hok
    unfold rtok
    go_enter Try.func17, Try.ntmps17
    go_wp2_with fail
    refine (rTokAt_w rate burst level tnow now _ hn hi hb).mono ?_
    rw [HL.out, HT.out]
    unfold rtok
    rintro e w1 ⟨rfl, hb1⟩
    have O1 := Lib.hid ((((Obj1.new w #[.int .i64 rate, .int .i64 burst, .int .i64 level, .int .i64 tnow] 31).alloc (.cells #[.int .i64 0, .int .i64 0, .int .i64 0, .int .i64 0] 31))).below hb1)
    have O2 := Lib.hid ((Obj1.new (w.alloc (.cells #[.int .i64 rate, .int .i64 burst, .int .i64 level, .int .i64 tnow] 31)) #[.int .i64 0, .int .i64 0, .int .i64 0, .int .i64 0] 31).below hb1)
    have HB1 := Lib.hid (bl_next (bl_alloc (bl_alloc (Below.refl w.heap.size w) _) _) hb1)
    clear hb1
    rw [show (w.alloc (.cells #[.int .i64 rate, .int .i64 burst, .int .i64 level, .int .i64 tnow] 31)).heap.size = w.heap.size + 1 by simp] at O2
    go_wp2_with (first
      | (refine store_obj rfl 31 (.tmp 3) (.tmp 10) rfl w.heap.size _ _ #[.int .i64 rate, .int .i64 burst, .int .i64 L, .int .i64 T] rfl rfl O1.out rfl (by kernel_rfl) (by simp [Value.oneCell']) ?_; intro w2 ho2 hu2; have P1 := Lib.hid ho2; have P2 := Lib.hid (O2.out.of_grown hu2 (by simp)); have HB2 := Lib.hid (bl_upd HB1.out hu2 (Nat.le_refl _)); clear ho2 hu2 O1 O2 HB1; have c2 : w2.cell? ⟨w.heap.size, 2, none⟩ = some (.int .i64 L) := P1.out.cell 2; have f2 : w2.frozen? ⟨w.heap.size, 2, none⟩ = false := P1.out.free 2)
      | (refine load_obj rfl 31 (.tmp 3) rfl w.heap.size _ _ _ rfl P1.out Try.underlying31 rfl (by kernel_rfl) ?_)
      | (refine load_obj rfl 31 (.tmp 3) rfl w.heap.size _ _ _ rfl (P1.out.set 2 _) Try.underlying31 rfl (by kernel_rfl) ?_)
      | (refine store_obj rfl 31 (.tmp 6) (.tmp 24) rfl (w.heap.size + 1) _ _ #[.int .i64 rate, .int .i64 burst, .int .i64 L, .int .i64 T] rfl rfl P2.out rfl (by kernel_rfl) (by simp [Value.oneCell']) ?_; intro w3 ho3 hu3; have P3 := Lib.hid ho3; have HB3 := Lib.hid (bl_upd HB2.out hu3 (by omega)); clear ho3 hu3)
      | (refine store_obj rfl 31 (.tmp 6) (.tmp 31) rfl (w.heap.size + 1) _ _ #[.int .i64 rate, .int .i64 burst, .int .i64 (L - n * 1048576), .int .i64 T] rfl rfl (P2.out.of_grown ((Upd.refl w.heap.size _).set 2 _) (by simp)) rfl (by kernel_rfl) (by simp [Value.oneCell']) ?_; intro w3 ho3 hu3; have P3 := Lib.hid ho3; have HB3 := Lib.hid (bl_upd (bl_upd HB2.out ((Upd.refl w.heap.size _).set 2 _) (Nat.le_refl _)) hu3 (by omega)); clear ho3 hu3))
    have d0 := P3.out.cell 0
    have d1 := P3.out.cell 1
    have d2 := P3.out.cell 2
    have d3 := P3.out.cell 3
    simp at d0 d1 d2 d3
    refine bodyPost_ret (v := .tuple #[rtok rate burst _ T, .bool _]) (by simp [results, rtok, d0, d1, d2, d3, Try.results17, go_sem]) rfl ⟨rfl, HB3.out⟩

end Go.Proofs.Ytcgabjjdffcjbaa
