/- The document's SipHash, walked: a turn, a word, a round. -/
import Derived.Test.YtgbdkleckmilkaaRefA
import Derived.StillTailTactics
namespace Go.Proofs.Ytgbdkleckmilkaa
open Go.RowKit
set_option linter.unusedVariables false
set_option linter.unusedSimpArgs false

theorem s4_one (a b c d : BitVec 64) : (s4 a b c d).all (·.oneCell') = true := by simp [s4, Value.oneCell']

set_option maxHeartbeats 1000000 in
theorem turn_w (x : BitVec 64) (kI : Int) (k : Nat) (e : kI = (k : Int)) (h0 : 0 < k) (h1 : k < 64) (w : World) :
    Calls Try.prog 40 #[.int .u64 (uv x), .int .u64 kI] w fun e w' => e = .returned (.int .u64 (uv (rotL x k))) ∧ w = w' := by
  subst e
  have a3 : IntKind.u64.wrap (64 - (k : Int)) = ((64 - k : Nat) : Int) := by rw [wrap_u64]; omega
  go_enter Try.func40, Try.ntmps40
  go_wp2
  go_ret
  exact ⟨by rw [shl_uv, shrd_uv, or_uv]; rfl, rfl⟩

set_option maxHeartbeats 1000000 in
theorem rword_w (A : Option Addr) (c : Nat) (l : List Int) (w : World) (h : SlI .u8 w A 8 c l) :
    Calls Try.prog 31 #[.slice A 8 c] w fun e w' => e = .returned (.int .u64 (uv (numU l 8))) ∧ w = w' := by
  have hh := hornU_all h.1 (fun x hx => u8_range (h.2.2.2.2 x hx))
  have HH := Lib.hid hh
  have H := Lib.hid h
  clear h hh
  go_enter Try.func31, Try.ntmps31
  go_wp2_with fail
  go_loop [3, 4] (fun v i => ∃ k : Nat, k ≤ 8 ∧ i = .int .i64 (7 - (k : Int)) ∧ v = .int .u64 (uv (hornU l k))) (fun _ i => (intOf i + 1).toNat)
  case atStart => exact ⟨0, by omega, rfl, rfl⟩
  case round =>
    obtain ⟨k, hk, rfl, rfl⟩ := hrel
    by_cases hlt : k < 8
    · obtain ⟨i, hi⟩ : ∃ i : Nat, i = 7 - k := ⟨_, rfl⟩
      have hki : (7 : Int) - (k : Int) = (i : Int) := by omega
      have hi0 : (0 : Int) ≤ (i : Int) := Int.natCast_nonneg i
      have hi1 : (i : Int) < 8 := by omega
      obtain ⟨ad, rfl, hc, _⟩ := H.out.at i (by omega)
      have hb := H.out.byte i
      have a1 : IntKind.u64.wrap (nth l i) = uv (byt (nth l i)) := by rw [byt_uv hb, wrap_u64]; omega
      have a2 : IntKind.u64.wrap (uv (hornU l k) * 256) = uv (hornU l k <<< 8) := shl_uv _ 8
      have a3 : IntKind.u64.wrap (uv (hornU l k <<< 8) + uv (byt (nth l i))) = uv (hornU l (k + 1)) := by rw [add_uv, hi]; rfl
      have a4 : IntKind.i64.wrap ((i : Int) - 1) = 7 - ((k + 1 : Nat) : Int) := by rw [show (i : Int) - 1 = 7 - ((k + 1 : Nat) : Int) by omega]; exact IntWalk.i64_in _ (by omega)
      have HI := Lib.hid hi
      have HKI := Lib.hid hki
      rw [hki]
      clear hi hki
      go_wp2_with fail
      go_round
      case rel => exact ⟨k + 1, by omega, v_i64 (by omega), rfl⟩
      case measure => have := HKI.out; simp [intOf]; omega
    · obtain rfl : k = 8 := by omega
      go_wp2
      go_ret
      exact ⟨by rw [HH.out]; rfl, rfl⟩

set_option maxRecDepth 100000 in
set_option maxHeartbeats 3000000 in
theorem rround_w (s : SS) (w : World) :
    Calls Try.prog 32 #[.agg (ssC s)] w fun e w' => e = .returned (.agg (ssC (rnd s))) ∧ Below w.heap.size w w' := by
  obtain ⟨a, b, c, d⟩ := s
  have hO := (Obj1.new w (s4 a b c d) 62).alloc (.cells #[.int .u64 0, .int .u64 0, .int .u64 0, .int .u64 0] 62)
  have hR := Obj1.new (w.alloc (.cells (s4 a b c d) 62)) #[.int .u64 0, .int .u64 0, .int .u64 0, .int .u64 0] 62
  have e1 : (w.alloc (.cells (s4 a b c d) 62)).heap.size = w.heap.size + 1 := by simp
  rw [e1] at hR
  have HB0 := Lib.hid (bl_alloc (bl_alloc (Below.refl w.heap.size w) (.cells (s4 a b c d) 62)) (.cells #[.int .u64 0, .int .u64 0, .int .u64 0, .int .u64 0] 62))
  have q0 : ((w.alloc (.cells (s4 a b c d) 62)).alloc (.cells #[.int .u64 0, .int .u64 0, .int .u64 0, .int .u64 0] 62)).cell? ⟨w.heap.size, 0, none⟩ = some (.int .u64 (uv a)) := hO.cell 0
  have q1 : ((w.alloc (.cells (s4 a b c d) 62)).alloc (.cells #[.int .u64 0, .int .u64 0, .int .u64 0, .int .u64 0] 62)).cell? ⟨w.heap.size, 1, none⟩ = some (.int .u64 (uv b)) := hO.cell 1
  have q4 : ((w.alloc (.cells (s4 a b c d) 62)).alloc (.cells #[.int .u64 0, .int .u64 0, .int .u64 0, .int .u64 0] 62)).frozen? ⟨w.heap.size, 0, none⟩ = false := hO.free 0
  have HO := Lib.hid hO
  have HR := Lib.hid hR
  clear hO hR e1
  unfold ssC
  dsimp only
  go_enter Try.func32, Try.ntmps32
  go_wp2_with fail
  generalize hW1 : World.alloc (World.alloc w _) _ = W1
  have e0 : (s4 a b c d).setIfInBounds 0 (.int .u64 (IntKind.u64.wrap (uv a + uv b))) = s4 (a + b) b c d := by rw [add_uv]; rfl
  have hO : Obj1 W1 w.heap.size (s4 (a + b) b c d) 62 := by rw [← hW1, ← e0]; exact (Obj1.new w _ _).alloc _
  have hR1 : Obj1 W1 (w.heap.size + 1) #[.int .u64 0, .int .u64 0, .int .u64 0, .int .u64 0] 62 := by
    rw [← hW1]
    have h := Obj1.new (w.alloc (.cells ((s4 a b c d).setIfInBounds 0 (.int .u64 (IntKind.u64.wrap (uv a + uv b)))) 62)) #[.int .u64 0, .int .u64 0, .int .u64 0, .int .u64 0] 62
    have e1 : (w.alloc (.cells ((s4 a b c d).setIfInBounds 0 (.int .u64 (IntKind.u64.wrap (uv a + uv b)))) 62)).heap.size = w.heap.size + 1 := by simp
    rw [e1] at h
    exact h
  have hB1 : Below w.heap.size w W1 := by rw [← hW1]; exact bl_alloc (bl_alloc (Below.refl _ _) _) _
  obtain ⟨S, hS⟩ : ∃ S, S = w.heap.size := ⟨_, rfl⟩
  obtain ⟨a1, ha1⟩ : ∃ a1, a + b = a1 := ⟨_, rfl⟩
  rw [ha1] at hO
  rw [← hS] at hO hR1 ⊢
  have HE0 := Lib.hid ha1
  have HO1 := Lib.hid hO
  have HR1 := Lib.hid hR1
  have HB1 := Lib.hid hB1
  have HU1 := Lib.hid (Upd.refl S W1)
  have hSw : w.heap.size ≤ S := by omega
  clear hW1 e0 hO hR1 hB1 hS ha1 q0 q1 q4 HO HR HB0
  have q0 : W1.cell? ⟨S, 0, none⟩ = some (.int .u64 (uv a1)) := HO1.out.cell 0
  have q1 : W1.cell? ⟨S, 1, none⟩ = some (.int .u64 (uv b)) := HO1.out.cell 1
  have q2 : W1.cell? ⟨S, 2, none⟩ = some (.int .u64 (uv c)) := HO1.out.cell 2
  have q3 : W1.cell? ⟨S, 3, none⟩ = some (.int .u64 (uv d)) := HO1.out.cell 3
  have f0 : W1.frozen? ⟨S, 0, none⟩ = false := HO1.out.free 0
  have f1 : W1.frozen? ⟨S, 1, none⟩ = false := HO1.out.free 1
  have f2 : W1.frozen? ⟨S, 2, none⟩ = false := HO1.out.free 2
  have f3 : W1.frozen? ⟨S, 3, none⟩ = false := HO1.out.free 3
  obtain ⟨b1, hb1⟩ : ∃ b1, rotL b 13 ^^^ a1 = b1 := ⟨_, rfl⟩
  have xb1 := xor_uv (rotL b 13) a1
  rw [hb1] at xb1
  have HE1 := Lib.hid hb1
  clear hb1
  refine wp_region_still_tail 7 (by kernel_rfl) (by kernel_rfl) ?_
  change wpStill _ _ (World.drew _) (fun a' => wpList _ _ _ _ a' (World.drew _)) _ _
  simp only [List.take_succ_cons, List.take_zero, List.drop_succ_cons, List.drop_zero]
  repeat still_step
  still_call (same_left (turn_w b 13 13 rfl (by omega) (by omega) _))
  repeat still_step
  refine wpStill_nil ?_
  go_wp2_with fail
  obtain ⟨W2, hW2⟩ : ∃ W2, W2 = World.drew (World.setCell (W1) ⟨S, 1, none⟩ (.int .u64 (uv b1))) := ⟨_, rfl⟩
  have hU : Upd S W1 W2 := by rw [hW2]; exact ((HU1.out).set 1 (.int .u64 (uv b1))).drewN 1
  have hO : Obj1 W2 S (s4 a1 b1 c d) 62 := by rw [hW2]; exact ((HO1.out).set 1 (.int .u64 (uv b1))).drewN 1
  rw [← hW2]
  have HO2 := Lib.hid hO
  have HU2 := Lib.hid hU
  clear hO hU hW2 HO1 q0 q1 q2 q3 f0 f1 f2 f3 xb1
  have q0 : W2.cell? ⟨S, 0, none⟩ = some (.int .u64 (uv a1)) := HO2.out.cell 0
  have q1 : W2.cell? ⟨S, 1, none⟩ = some (.int .u64 (uv b1)) := HO2.out.cell 1
  have q2 : W2.cell? ⟨S, 2, none⟩ = some (.int .u64 (uv c)) := HO2.out.cell 2
  have q3 : W2.cell? ⟨S, 3, none⟩ = some (.int .u64 (uv d)) := HO2.out.cell 3
  have f0 : W2.frozen? ⟨S, 0, none⟩ = false := HO2.out.free 0
  have f1 : W2.frozen? ⟨S, 1, none⟩ = false := HO2.out.free 1
  have f2 : W2.frozen? ⟨S, 2, none⟩ = false := HO2.out.free 2
  have f3 : W2.frozen? ⟨S, 3, none⟩ = false := HO2.out.free 3
  obtain ⟨a2, ha2⟩ : ∃ a2, rotL a1 32 = a2 := ⟨_, rfl⟩
  have HE2 := Lib.hid ha2
  obtain ⟨c1, hc1⟩ : ∃ c1, c + d = c1 := ⟨_, rfl⟩
  have xc1 := add_uv c d
  rw [hc1] at xc1
  have HE3 := Lib.hid hc1
  clear hc1
  refine (turn_w a1 32 32 rfl (by omega) (by omega) _).mono ?_
  rintro e w' ⟨rfl, rfl⟩
  rw [ha2]
  clear ha2
  go_wp2_with fail
  obtain ⟨W3, hW3⟩ : ∃ W3, W3 = World.setCell (World.setCell (W2) ⟨S, 0, none⟩ (.int .u64 (uv a2))) ⟨S, 2, none⟩ (.int .u64 (uv c1)) := ⟨_, rfl⟩
  have hU : Upd S W1 W3 := by rw [hW3]; exact ((HU2.out).set 0 (.int .u64 (uv a2))).set 2 (.int .u64 (uv c1))
  have hO : Obj1 W3 S (s4 a2 b1 c1 d) 62 := by rw [hW3]; exact ((HO2.out).set 0 (.int .u64 (uv a2))).set 2 (.int .u64 (uv c1))
  rw [← hW3]
  have HO3 := Lib.hid hO
  have HU3 := Lib.hid hU
  clear hO hU hW3 HO2 q0 q1 q2 q3 f0 f1 f2 f3 xc1 HU2
  have q0 : W3.cell? ⟨S, 0, none⟩ = some (.int .u64 (uv a2)) := HO3.out.cell 0
  have q1 : W3.cell? ⟨S, 1, none⟩ = some (.int .u64 (uv b1)) := HO3.out.cell 1
  have q2 : W3.cell? ⟨S, 2, none⟩ = some (.int .u64 (uv c1)) := HO3.out.cell 2
  have q3 : W3.cell? ⟨S, 3, none⟩ = some (.int .u64 (uv d)) := HO3.out.cell 3
  have f0 : W3.frozen? ⟨S, 0, none⟩ = false := HO3.out.free 0
  have f1 : W3.frozen? ⟨S, 1, none⟩ = false := HO3.out.free 1
  have f2 : W3.frozen? ⟨S, 2, none⟩ = false := HO3.out.free 2
  have f3 : W3.frozen? ⟨S, 3, none⟩ = false := HO3.out.free 3
  obtain ⟨d1, hd1⟩ : ∃ d1, rotL d 16 ^^^ c1 = d1 := ⟨_, rfl⟩
  have xd1 := xor_uv (rotL d 16) c1
  rw [hd1] at xd1
  have HE4 := Lib.hid hd1
  clear hd1
  obtain ⟨a3, ha3⟩ : ∃ a3, a2 + d1 = a3 := ⟨_, rfl⟩
  have xa3 := add_uv a2 d1
  rw [ha3] at xa3
  have HE5 := Lib.hid ha3
  clear ha3
  refine wp_region_still_tail 7 (by kernel_rfl) (by kernel_rfl) ?_
  change wpStill _ _ (World.drew _) (fun a' => wpList _ _ _ _ a' (World.drew _)) _ _
  simp only [List.take_succ_cons, List.take_zero, List.drop_succ_cons, List.drop_zero]
  repeat still_step
  still_call (same_left (turn_w d 16 16 rfl (by omega) (by omega) _))
  repeat still_step
  refine wpStill_nil ?_
  go_wp2_with fail
  obtain ⟨W4, hW4⟩ : ∃ W4, W4 = World.drew (World.setCell (World.setCell (W3) ⟨S, 3, none⟩ (.int .u64 (uv d1))) ⟨S, 0, none⟩ (.int .u64 (uv a3))) := ⟨_, rfl⟩
  have hU : Upd S W1 W4 := by rw [hW4]; exact (((HU3.out).set 3 (.int .u64 (uv d1))).set 0 (.int .u64 (uv a3))).drewN 1
  have hO : Obj1 W4 S (s4 a3 b1 c1 d1) 62 := by rw [hW4]; exact (((HO3.out).set 3 (.int .u64 (uv d1))).set 0 (.int .u64 (uv a3))).drewN 1
  rw [← hW4]
  have HO4 := Lib.hid hO
  have HU4 := Lib.hid hU
  clear hO hU hW4 HO3 q0 q1 q2 q3 f0 f1 f2 f3 xd1 xa3 HU3
  have q0 : W4.cell? ⟨S, 0, none⟩ = some (.int .u64 (uv a3)) := HO4.out.cell 0
  have q1 : W4.cell? ⟨S, 1, none⟩ = some (.int .u64 (uv b1)) := HO4.out.cell 1
  have q2 : W4.cell? ⟨S, 2, none⟩ = some (.int .u64 (uv c1)) := HO4.out.cell 2
  have q3 : W4.cell? ⟨S, 3, none⟩ = some (.int .u64 (uv d1)) := HO4.out.cell 3
  have f0 : W4.frozen? ⟨S, 0, none⟩ = false := HO4.out.free 0
  have f1 : W4.frozen? ⟨S, 1, none⟩ = false := HO4.out.free 1
  have f2 : W4.frozen? ⟨S, 2, none⟩ = false := HO4.out.free 2
  have f3 : W4.frozen? ⟨S, 3, none⟩ = false := HO4.out.free 3
  obtain ⟨d2, hd2⟩ : ∃ d2, rotL d1 21 ^^^ a3 = d2 := ⟨_, rfl⟩
  have xd2 := xor_uv (rotL d1 21) a3
  rw [hd2] at xd2
  have HE6 := Lib.hid hd2
  clear hd2
  obtain ⟨c2, hc2⟩ : ∃ c2, c1 + b1 = c2 := ⟨_, rfl⟩
  have xc2 := add_uv c1 b1
  rw [hc2] at xc2
  have HE7 := Lib.hid hc2
  clear hc2
  refine wp_region_still_tail 7 (by kernel_rfl) (by kernel_rfl) ?_
  change wpStill _ _ (World.drew _) (fun a' => wpList _ _ _ _ a' (World.drew _)) _ _
  simp only [List.take_succ_cons, List.take_zero, List.drop_succ_cons, List.drop_zero]
  repeat still_step
  still_call (same_left (turn_w d1 21 21 rfl (by omega) (by omega) _))
  repeat still_step
  refine wpStill_nil ?_
  go_wp2_with fail
  obtain ⟨W5, hW5⟩ : ∃ W5, W5 = World.drew (World.setCell (World.setCell (W4) ⟨S, 3, none⟩ (.int .u64 (uv d2))) ⟨S, 2, none⟩ (.int .u64 (uv c2))) := ⟨_, rfl⟩
  have hU : Upd S W1 W5 := by rw [hW5]; exact (((HU4.out).set 3 (.int .u64 (uv d2))).set 2 (.int .u64 (uv c2))).drewN 1
  have hO : Obj1 W5 S (s4 a3 b1 c2 d2) 62 := by rw [hW5]; exact (((HO4.out).set 3 (.int .u64 (uv d2))).set 2 (.int .u64 (uv c2))).drewN 1
  rw [← hW5]
  have HO5 := Lib.hid hO
  have HU5 := Lib.hid hU
  clear hO hU hW5 HO4 q0 q1 q2 q3 f0 f1 f2 f3 xd2 xc2 HU4
  have q0 : W5.cell? ⟨S, 0, none⟩ = some (.int .u64 (uv a3)) := HO5.out.cell 0
  have q1 : W5.cell? ⟨S, 1, none⟩ = some (.int .u64 (uv b1)) := HO5.out.cell 1
  have q2 : W5.cell? ⟨S, 2, none⟩ = some (.int .u64 (uv c2)) := HO5.out.cell 2
  have q3 : W5.cell? ⟨S, 3, none⟩ = some (.int .u64 (uv d2)) := HO5.out.cell 3
  have f0 : W5.frozen? ⟨S, 0, none⟩ = false := HO5.out.free 0
  have f1 : W5.frozen? ⟨S, 1, none⟩ = false := HO5.out.free 1
  have f2 : W5.frozen? ⟨S, 2, none⟩ = false := HO5.out.free 2
  have f3 : W5.frozen? ⟨S, 3, none⟩ = false := HO5.out.free 3
  obtain ⟨b2, hb2⟩ : ∃ b2, rotL b1 17 ^^^ c2 = b2 := ⟨_, rfl⟩
  have xb2 := xor_uv (rotL b1 17) c2
  rw [hb2] at xb2
  have HE8 := Lib.hid hb2
  clear hb2
  refine wp_region_still_tail 7 (by kernel_rfl) (by kernel_rfl) ?_
  change wpStill _ _ (World.drew _) (fun a' => wpList _ _ _ _ a' (World.drew _)) _ _
  simp only [List.take_succ_cons, List.take_zero, List.drop_succ_cons, List.drop_zero]
  repeat still_step
  still_call (same_left (turn_w b1 17 17 rfl (by omega) (by omega) _))
  repeat still_step
  refine wpStill_nil ?_
  go_wp2_with fail
  obtain ⟨W6, hW6⟩ : ∃ W6, W6 = World.drew (World.setCell (W5) ⟨S, 1, none⟩ (.int .u64 (uv b2))) := ⟨_, rfl⟩
  have hU : Upd S W1 W6 := by rw [hW6]; exact ((HU5.out).set 1 (.int .u64 (uv b2))).drewN 1
  have hO : Obj1 W6 S (s4 a3 b2 c2 d2) 62 := by rw [hW6]; exact ((HO5.out).set 1 (.int .u64 (uv b2))).drewN 1
  rw [← hW6]
  have HO6 := Lib.hid hO
  have HU6 := Lib.hid hU
  clear hO hU hW6 HO5 q0 q1 q2 q3 f0 f1 f2 f3 xb2 HU5
  have q0 : W6.cell? ⟨S, 0, none⟩ = some (.int .u64 (uv a3)) := HO6.out.cell 0
  have q1 : W6.cell? ⟨S, 1, none⟩ = some (.int .u64 (uv b2)) := HO6.out.cell 1
  have q2 : W6.cell? ⟨S, 2, none⟩ = some (.int .u64 (uv c2)) := HO6.out.cell 2
  have q3 : W6.cell? ⟨S, 3, none⟩ = some (.int .u64 (uv d2)) := HO6.out.cell 3
  have f0 : W6.frozen? ⟨S, 0, none⟩ = false := HO6.out.free 0
  have f1 : W6.frozen? ⟨S, 1, none⟩ = false := HO6.out.free 1
  have f2 : W6.frozen? ⟨S, 2, none⟩ = false := HO6.out.free 2
  have f3 : W6.frozen? ⟨S, 3, none⟩ = false := HO6.out.free 3
  obtain ⟨c3, hc3⟩ : ∃ c3, rotL c2 32 = c3 := ⟨_, rfl⟩
  have HE9 := Lib.hid hc3
  refine (turn_w c2 32 32 rfl (by omega) (by omega) _).mono ?_
  rintro e w' ⟨rfl, rfl⟩
  rw [hc3]
  clear hc3
  have hO : Obj1 (World.setCell (W6) ⟨S, 2, none⟩ (.int .u64 (uv c3))) S (s4 a3 b2 c3 d2) 62 := (HO6.out).set 2 (.int .u64 (uv c3))
  have HO9 := Lib.hid hO
  have HU9 := Lib.hid ((HU6.out).set 2 (.int .u64 (uv c3)))
  have HR9 := Lib.hid (Obj1.of_grown HR1.out HU9.out (by simp))
  clear hO
  go_wp2_with (first
    | (refine load_obj rfl 62 (.tmp 1) rfl S 62 (s4 a3 b2 c3 d2) _ rfl HO9.out Try.underlying62 rfl rfl ?_)
    | (refine store_obj rfl 62 (.tmp 2) (.tmp 63) rfl (S + 1) 62 #[.int .u64 0, .int .u64 0, .int .u64 0, .int .u64 0] (s4 a3 b2 c3 d2) rfl rfl HR9.out rfl rfl (s4_one _ _ _ _) ?_; intro wf hof huf; have HOF := Lib.hid hof; have HUF := Lib.hid huf; clear hof huf))
  refine bodyPost_ret (results_cell_row rfl _ _ (S + 1) 62 (s4 a3 b2 c3 d2) (0, 0) _ rfl HOF.out Try.underlying62 rfl rfl) rfl ?_
  have e : rnd ⟨a, b, c, d⟩ = ⟨a3, b2, c3, d2⟩ := by
    rw [← HE9.out, ← HE8.out, ← HE7.out, ← HE6.out, ← HE5.out, ← HE4.out, ← HE3.out, ← HE2.out, ← HE1.out, ← HE0.out]
    rfl
  refine ⟨by rw [e], bl_upd (bl_upd HB1.out HU9.out hSw) HUF.out (by omega)⟩
end Go.Proofs.Ytgbdkleckmilkaa
