/- SipHash, walked: a turn to the left, rounds, a word. -/
import Derived.Test.YtgbdkleckmilkaaOpenA
import Derived.Test.YtgbdkleckmilkaaSipA
import Derived.StillTailTactics
namespace Go.Proofs.Ytgbdkleckmilkaa
open Go.RowKit
set_option linter.unusedVariables false
set_option linter.unusedSimpArgs false

theorem and63 : ∀ k : Fin 64, bits .and .u64 (k.val : Int) 63 = (k.val : Int) := by decide +kernel
theorem shrd_uv (x : BitVec 64) (k : Nat) : uv x / 2 ^ k = uv (x >>> k) := by
  unfold uv
  rw [BitVec.toNat_ushiftRight, Nat.shiftRight_eq_div_pow, Int.natCast_ediv, Int.natCast_pow]
  rfl

set_option maxHeartbeats 1000000 in
theorem rotl_w (x : BitVec 64) (kI : Int) (k : Nat) (e : kI = (k : Int)) (h0 : 0 < k) (h1 : k < 64) (w : World) :
    Calls Try.prog 42 #[.int .u64 (uv x), .int .i64 kI] w fun e w' => e = .returned (.int .u64 (uv (rotL x k))) ∧ w = w' := by
  subst e
  have a1 : IntKind.u64.wrap (k : Int) = (k : Int) := by rw [wrap_u64]; omega
  have a2 : bits .and .u64 (k : Int) 63 = (k : Int) := and63 ⟨k, h1⟩
  have a3 : IntKind.u64.wrap (64 - (k : Int)) = ((64 - k : Nat) : Int) := by rw [wrap_u64]; omega
  go_enter Try.func42, Try.ntmps42
  go_wp2
  go_ret
  exact ⟨by rw [shl_uv, shrd_uv, or_uv]; rfl, rfl⟩

/-- The state's cells. -/
def s4 (a b c d : BitVec 64) : Array Value := #[.int .u64 (uv a), .int .u64 (uv b), .int .u64 (uv c), .int .u64 (uv d)]
def ssC (s : SS) : Array Value := s4 s.a s.b s.c s.d

set_option maxRecDepth 100000 in
set_option maxHeartbeats 3000000 in
theorem round_w (S : Nat) (s : SS) (nI : Int) (n : Nat) (e : nI = (n : Int)) (hn : n ≤ 1000) (w : World) (h : Obj1 w S (ssC s) 66) :
    Calls Try.prog 36 #[.pointer (some ⟨S, 0, none⟩), .int .i64 nI] w fun e w' => e = .returned (.tuple #[]) ∧ Obj1 w' S (ssC (rnds n s)) 66 ∧ Upd S w w' := by
  subst e
  have H := Lib.hid h
  clear h
  go_enter Try.func36, Try.ntmps36
  go_wp2_with fail
  go_loopw [5] (fun i wr => ∃ k : Nat, k ≤ n ∧ i = .int .i64 k ∧ Obj1 wr S (ssC (rnds k s)) 66 ∧ Upd S w wr) (fun i _ => n - (intOf i).toNat)
  case atStart => exact ⟨0, Nat.zero_le _, rfl, H.out, Upd.refl _ _⟩
  case round =>
    obtain ⟨k, hk, rfl, hobj, hupd⟩ := hrel
    by_cases hlt : k < n
    · have hk0 : (0 : Int) ≤ (k : Int) := Int.natCast_nonneg k
      have hk1 : (k : Int) < (n : Int) := by omega
      obtain ⟨t, ht⟩ : ∃ t, rnds k s = t := ⟨_, rfl⟩
      rw [ht] at hobj
      obtain ⟨a, b, c, d⟩ := t
      have HT := Lib.hid ht
      have HU0 := Lib.hid hupd
      have HO0 := Lib.hid (show Obj1 wr S (s4 a b c d) 66 from hobj)
      clear hobj hupd ht
      have q0 : wr.cell? ⟨S, 0, none⟩ = some (.int .u64 (uv a)) := HO0.out.cell 0
      have q1 : wr.cell? ⟨S, 1, none⟩ = some (.int .u64 (uv b)) := HO0.out.cell 1
      have q2 : wr.cell? ⟨S, 2, none⟩ = some (.int .u64 (uv c)) := HO0.out.cell 2
      have q3 : wr.cell? ⟨S, 3, none⟩ = some (.int .u64 (uv d)) := HO0.out.cell 3
      have q4 : wr.frozen? ⟨S, 0, none⟩ = false := HO0.out.free 0
      go_wp2_with fail
      refine wp_region_still_tail 11 (by kernel_rfl) (by kernel_rfl) ?_
      change wpStill _ _ (World.drew _) (fun a' => wpList _ _ _ _ a' (World.drew _)) _ _
      simp only [List.take_succ_cons, List.take_zero, List.drop_succ_cons, List.drop_zero]
      repeat still_step
      refine wpStill_nil ?_
      go_wp2_with fail
      obtain ⟨W0, hW0⟩ : ∃ W0, W0 = World.drew (World.setCell wr ⟨S, 0, none⟩ (.int .u64 (IntKind.u64.wrap (uv a + uv b)))) := ⟨_, rfl⟩
      have hU : Upd S w W0 := by rw [hW0]; exact (HU0.out.set 0 (.int .u64 (IntKind.u64.wrap (uv a + uv b)))).drewN 1
      have hO : Obj1 W0 S ((s4 a b c d).setIfInBounds 0 (.int .u64 (IntKind.u64.wrap (uv a + uv b)))) 66 := by rw [hW0]; exact (HO0.out.set 0 (.int .u64 (IntKind.u64.wrap (uv a + uv b)))).drewN 1
      rw [← hW0]
      rw [add_uv] at hO
      obtain ⟨a1, ha1⟩ : ∃ a1, a + b = a1 := ⟨_, rfl⟩
      rw [ha1] at hO
      have HE0 := Lib.hid ha1
      have HO1 := Lib.hid (show Obj1 W0 S (s4 a1 b c d) 66 from hO)
      have HU1 := Lib.hid hU
      clear hO hU hW0 ha1 HO0 HU0 q0 q1 q2 q3 q4
      have q0 : W0.cell? ⟨S, 0, none⟩ = some (.int .u64 (uv a1)) := HO1.out.cell 0
      have q1 : W0.cell? ⟨S, 1, none⟩ = some (.int .u64 (uv b)) := HO1.out.cell 1
      have q2 : W0.cell? ⟨S, 2, none⟩ = some (.int .u64 (uv c)) := HO1.out.cell 2
      have q3 : W0.cell? ⟨S, 3, none⟩ = some (.int .u64 (uv d)) := HO1.out.cell 3
      have q4 : W0.frozen? ⟨S, 1, none⟩ = false := HO1.out.free 1
      refine wp_region_still_tail 13 (by kernel_rfl) (by kernel_rfl) ?_
      change wpStill _ _ (World.drew _) (fun a' => wpList _ _ _ _ a' (World.drew _)) _ _
      simp only [List.take_succ_cons, List.take_zero, List.drop_succ_cons, List.drop_zero]
      repeat still_step
      still_call (same_left (rotl_w b 13 13 rfl (by omega) (by omega) _))
      repeat still_step
      refine wpStill_nil ?_
      go_wp2_with fail
      obtain ⟨W1, hW1⟩ : ∃ W1, W1 = World.drew (World.setCell W0 ⟨S, 1, none⟩ (.int .u64 (bits .xor .u64 (uv (rotL b 13)) (uv a1)))) := ⟨_, rfl⟩
      have hU : Upd S w W1 := by rw [hW1]; exact (HU1.out.set 1 (.int .u64 (bits .xor .u64 (uv (rotL b 13)) (uv a1)))).drewN 1
      have hO : Obj1 W1 S ((s4 a1 b c d).setIfInBounds 1 (.int .u64 (bits .xor .u64 (uv (rotL b 13)) (uv a1)))) 66 := by rw [hW1]; exact (HO1.out.set 1 (.int .u64 (bits .xor .u64 (uv (rotL b 13)) (uv a1)))).drewN 1
      rw [← hW1]
      rw [xor_uv] at hO
      obtain ⟨b1, hb1⟩ : ∃ b1, rotL b 13 ^^^ a1 = b1 := ⟨_, rfl⟩
      rw [hb1] at hO
      have HE1 := Lib.hid hb1
      have HO2 := Lib.hid (show Obj1 W1 S (s4 a1 b1 c d) 66 from hO)
      have HU2 := Lib.hid hU
      clear hO hU hW1 hb1 HO1 HU1 q0 q1 q2 q3 q4
      have q0 : W1.cell? ⟨S, 0, none⟩ = some (.int .u64 (uv a1)) := HO2.out.cell 0
      have q1 : W1.cell? ⟨S, 1, none⟩ = some (.int .u64 (uv b1)) := HO2.out.cell 1
      have q2 : W1.cell? ⟨S, 2, none⟩ = some (.int .u64 (uv c)) := HO2.out.cell 2
      have q3 : W1.cell? ⟨S, 3, none⟩ = some (.int .u64 (uv d)) := HO2.out.cell 3
      have q4 : W1.frozen? ⟨S, 0, none⟩ = false := HO2.out.free 0
      refine (rotl_w a1 32 32 rfl (by omega) (by omega) _).mono ?_
      rintro e w' ⟨rfl, rfl⟩
      go_wp2_with fail
      obtain ⟨W2, hW2⟩ : ∃ W2, W2 = World.setCell W1 ⟨S, 0, none⟩ (.int .u64 (uv (rotL a1 32))) := ⟨_, rfl⟩
      have hU : Upd S w W2 := by rw [hW2]; exact HU2.out.set 0 (.int .u64 (uv (rotL a1 32)))
      have hO : Obj1 W2 S ((s4 a1 b1 c d).setIfInBounds 0 (.int .u64 (uv (rotL a1 32)))) 66 := by rw [hW2]; exact HO2.out.set 0 (.int .u64 (uv (rotL a1 32)))
      rw [← hW2]
      obtain ⟨a2, ha2⟩ : ∃ a2, rotL a1 32 = a2 := ⟨_, rfl⟩
      rw [ha2] at hO
      have HE2 := Lib.hid ha2
      have HO3 := Lib.hid (show Obj1 W2 S (s4 a2 b1 c d) 66 from hO)
      have HU3 := Lib.hid hU
      clear hO hU hW2 ha2 HO2 HU2 q0 q1 q2 q3 q4
      have q0 : W2.cell? ⟨S, 0, none⟩ = some (.int .u64 (uv a2)) := HO3.out.cell 0
      have q1 : W2.cell? ⟨S, 1, none⟩ = some (.int .u64 (uv b1)) := HO3.out.cell 1
      have q2 : W2.cell? ⟨S, 2, none⟩ = some (.int .u64 (uv c)) := HO3.out.cell 2
      have q3 : W2.cell? ⟨S, 3, none⟩ = some (.int .u64 (uv d)) := HO3.out.cell 3
      have q4 : W2.frozen? ⟨S, 2, none⟩ = false := HO3.out.free 2
      refine wp_region_still_tail 11 (by kernel_rfl) (by kernel_rfl) ?_
      change wpStill _ _ (World.drew _) (fun a' => wpList _ _ _ _ a' (World.drew _)) _ _
      simp only [List.take_succ_cons, List.take_zero, List.drop_succ_cons, List.drop_zero]
      repeat still_step
      refine wpStill_nil ?_
      go_wp2_with fail
      obtain ⟨W3, hW3⟩ : ∃ W3, W3 = World.drew (World.setCell W2 ⟨S, 2, none⟩ (.int .u64 (IntKind.u64.wrap (uv c + uv d)))) := ⟨_, rfl⟩
      have hU : Upd S w W3 := by rw [hW3]; exact (HU3.out.set 2 (.int .u64 (IntKind.u64.wrap (uv c + uv d)))).drewN 1
      have hO : Obj1 W3 S ((s4 a2 b1 c d).setIfInBounds 2 (.int .u64 (IntKind.u64.wrap (uv c + uv d)))) 66 := by rw [hW3]; exact (HO3.out.set 2 (.int .u64 (IntKind.u64.wrap (uv c + uv d)))).drewN 1
      rw [← hW3]
      rw [add_uv] at hO
      obtain ⟨c1, hc1⟩ : ∃ c1, c + d = c1 := ⟨_, rfl⟩
      rw [hc1] at hO
      have HE3 := Lib.hid hc1
      have HO4 := Lib.hid (show Obj1 W3 S (s4 a2 b1 c1 d) 66 from hO)
      have HU4 := Lib.hid hU
      clear hO hU hW3 hc1 HO3 HU3 q0 q1 q2 q3 q4
      have q0 : W3.cell? ⟨S, 0, none⟩ = some (.int .u64 (uv a2)) := HO4.out.cell 0
      have q1 : W3.cell? ⟨S, 1, none⟩ = some (.int .u64 (uv b1)) := HO4.out.cell 1
      have q2 : W3.cell? ⟨S, 2, none⟩ = some (.int .u64 (uv c1)) := HO4.out.cell 2
      have q3 : W3.cell? ⟨S, 3, none⟩ = some (.int .u64 (uv d)) := HO4.out.cell 3
      have q4 : W3.frozen? ⟨S, 3, none⟩ = false := HO4.out.free 3
      refine wp_region_still_tail 13 (by kernel_rfl) (by kernel_rfl) ?_
      change wpStill _ _ (World.drew _) (fun a' => wpList _ _ _ _ a' (World.drew _)) _ _
      simp only [List.take_succ_cons, List.take_zero, List.drop_succ_cons, List.drop_zero]
      repeat still_step
      still_call (same_left (rotl_w d 16 16 rfl (by omega) (by omega) _))
      repeat still_step
      refine wpStill_nil ?_
      go_wp2_with fail
      obtain ⟨W4, hW4⟩ : ∃ W4, W4 = World.drew (World.setCell W3 ⟨S, 3, none⟩ (.int .u64 (bits .xor .u64 (uv (rotL d 16)) (uv c1)))) := ⟨_, rfl⟩
      have hU : Upd S w W4 := by rw [hW4]; exact (HU4.out.set 3 (.int .u64 (bits .xor .u64 (uv (rotL d 16)) (uv c1)))).drewN 1
      have hO : Obj1 W4 S ((s4 a2 b1 c1 d).setIfInBounds 3 (.int .u64 (bits .xor .u64 (uv (rotL d 16)) (uv c1)))) 66 := by rw [hW4]; exact (HO4.out.set 3 (.int .u64 (bits .xor .u64 (uv (rotL d 16)) (uv c1)))).drewN 1
      rw [← hW4]
      rw [xor_uv] at hO
      obtain ⟨d1, hd1⟩ : ∃ d1, rotL d 16 ^^^ c1 = d1 := ⟨_, rfl⟩
      rw [hd1] at hO
      have HE4 := Lib.hid hd1
      have HO5 := Lib.hid (show Obj1 W4 S (s4 a2 b1 c1 d1) 66 from hO)
      have HU5 := Lib.hid hU
      clear hO hU hW4 hd1 HO4 HU4 q0 q1 q2 q3 q4
      have q0 : W4.cell? ⟨S, 0, none⟩ = some (.int .u64 (uv a2)) := HO5.out.cell 0
      have q1 : W4.cell? ⟨S, 1, none⟩ = some (.int .u64 (uv b1)) := HO5.out.cell 1
      have q2 : W4.cell? ⟨S, 2, none⟩ = some (.int .u64 (uv c1)) := HO5.out.cell 2
      have q3 : W4.cell? ⟨S, 3, none⟩ = some (.int .u64 (uv d1)) := HO5.out.cell 3
      have q4 : W4.frozen? ⟨S, 0, none⟩ = false := HO5.out.free 0
      refine wp_region_still_tail 11 (by kernel_rfl) (by kernel_rfl) ?_
      change wpStill _ _ (World.drew _) (fun a' => wpList _ _ _ _ a' (World.drew _)) _ _
      simp only [List.take_succ_cons, List.take_zero, List.drop_succ_cons, List.drop_zero]
      repeat still_step
      refine wpStill_nil ?_
      go_wp2_with fail
      obtain ⟨W5, hW5⟩ : ∃ W5, W5 = World.drew (World.setCell W4 ⟨S, 0, none⟩ (.int .u64 (IntKind.u64.wrap (uv a2 + uv d1)))) := ⟨_, rfl⟩
      have hU : Upd S w W5 := by rw [hW5]; exact (HU5.out.set 0 (.int .u64 (IntKind.u64.wrap (uv a2 + uv d1)))).drewN 1
      have hO : Obj1 W5 S ((s4 a2 b1 c1 d1).setIfInBounds 0 (.int .u64 (IntKind.u64.wrap (uv a2 + uv d1)))) 66 := by rw [hW5]; exact (HO5.out.set 0 (.int .u64 (IntKind.u64.wrap (uv a2 + uv d1)))).drewN 1
      rw [← hW5]
      rw [add_uv] at hO
      obtain ⟨a3, ha3⟩ : ∃ a3, a2 + d1 = a3 := ⟨_, rfl⟩
      rw [ha3] at hO
      have HE5 := Lib.hid ha3
      have HO6 := Lib.hid (show Obj1 W5 S (s4 a3 b1 c1 d1) 66 from hO)
      have HU6 := Lib.hid hU
      clear hO hU hW5 ha3 HO5 HU5 q0 q1 q2 q3 q4
      have q0 : W5.cell? ⟨S, 0, none⟩ = some (.int .u64 (uv a3)) := HO6.out.cell 0
      have q1 : W5.cell? ⟨S, 1, none⟩ = some (.int .u64 (uv b1)) := HO6.out.cell 1
      have q2 : W5.cell? ⟨S, 2, none⟩ = some (.int .u64 (uv c1)) := HO6.out.cell 2
      have q3 : W5.cell? ⟨S, 3, none⟩ = some (.int .u64 (uv d1)) := HO6.out.cell 3
      have q4 : W5.frozen? ⟨S, 3, none⟩ = false := HO6.out.free 3
      refine wp_region_still_tail 13 (by kernel_rfl) (by kernel_rfl) ?_
      change wpStill _ _ (World.drew _) (fun a' => wpList _ _ _ _ a' (World.drew _)) _ _
      simp only [List.take_succ_cons, List.take_zero, List.drop_succ_cons, List.drop_zero]
      repeat still_step
      still_call (same_left (rotl_w d1 21 21 rfl (by omega) (by omega) _))
      repeat still_step
      refine wpStill_nil ?_
      go_wp2_with fail
      obtain ⟨W6, hW6⟩ : ∃ W6, W6 = World.drew (World.setCell W5 ⟨S, 3, none⟩ (.int .u64 (bits .xor .u64 (uv (rotL d1 21)) (uv a3)))) := ⟨_, rfl⟩
      have hU : Upd S w W6 := by rw [hW6]; exact (HU6.out.set 3 (.int .u64 (bits .xor .u64 (uv (rotL d1 21)) (uv a3)))).drewN 1
      have hO : Obj1 W6 S ((s4 a3 b1 c1 d1).setIfInBounds 3 (.int .u64 (bits .xor .u64 (uv (rotL d1 21)) (uv a3)))) 66 := by rw [hW6]; exact (HO6.out.set 3 (.int .u64 (bits .xor .u64 (uv (rotL d1 21)) (uv a3)))).drewN 1
      rw [← hW6]
      rw [xor_uv] at hO
      obtain ⟨d2, hd2⟩ : ∃ d2, rotL d1 21 ^^^ a3 = d2 := ⟨_, rfl⟩
      rw [hd2] at hO
      have HE6 := Lib.hid hd2
      have HO7 := Lib.hid (show Obj1 W6 S (s4 a3 b1 c1 d2) 66 from hO)
      have HU7 := Lib.hid hU
      clear hO hU hW6 hd2 HO6 HU6 q0 q1 q2 q3 q4
      have q0 : W6.cell? ⟨S, 0, none⟩ = some (.int .u64 (uv a3)) := HO7.out.cell 0
      have q1 : W6.cell? ⟨S, 1, none⟩ = some (.int .u64 (uv b1)) := HO7.out.cell 1
      have q2 : W6.cell? ⟨S, 2, none⟩ = some (.int .u64 (uv c1)) := HO7.out.cell 2
      have q3 : W6.cell? ⟨S, 3, none⟩ = some (.int .u64 (uv d2)) := HO7.out.cell 3
      have q4 : W6.frozen? ⟨S, 2, none⟩ = false := HO7.out.free 2
      refine wp_region_still_tail 11 (by kernel_rfl) (by kernel_rfl) ?_
      change wpStill _ _ (World.drew _) (fun a' => wpList _ _ _ _ a' (World.drew _)) _ _
      simp only [List.take_succ_cons, List.take_zero, List.drop_succ_cons, List.drop_zero]
      repeat still_step
      refine wpStill_nil ?_
      go_wp2_with fail
      obtain ⟨W7, hW7⟩ : ∃ W7, W7 = World.drew (World.setCell W6 ⟨S, 2, none⟩ (.int .u64 (IntKind.u64.wrap (uv c1 + uv b1)))) := ⟨_, rfl⟩
      have hU : Upd S w W7 := by rw [hW7]; exact (HU7.out.set 2 (.int .u64 (IntKind.u64.wrap (uv c1 + uv b1)))).drewN 1
      have hO : Obj1 W7 S ((s4 a3 b1 c1 d2).setIfInBounds 2 (.int .u64 (IntKind.u64.wrap (uv c1 + uv b1)))) 66 := by rw [hW7]; exact (HO7.out.set 2 (.int .u64 (IntKind.u64.wrap (uv c1 + uv b1)))).drewN 1
      rw [← hW7]
      rw [add_uv] at hO
      obtain ⟨c2, hc2⟩ : ∃ c2, c1 + b1 = c2 := ⟨_, rfl⟩
      rw [hc2] at hO
      have HE7 := Lib.hid hc2
      have HO8 := Lib.hid (show Obj1 W7 S (s4 a3 b1 c2 d2) 66 from hO)
      have HU8 := Lib.hid hU
      clear hO hU hW7 hc2 HO7 HU7 q0 q1 q2 q3 q4
      have q0 : W7.cell? ⟨S, 0, none⟩ = some (.int .u64 (uv a3)) := HO8.out.cell 0
      have q1 : W7.cell? ⟨S, 1, none⟩ = some (.int .u64 (uv b1)) := HO8.out.cell 1
      have q2 : W7.cell? ⟨S, 2, none⟩ = some (.int .u64 (uv c2)) := HO8.out.cell 2
      have q3 : W7.cell? ⟨S, 3, none⟩ = some (.int .u64 (uv d2)) := HO8.out.cell 3
      have q4 : W7.frozen? ⟨S, 1, none⟩ = false := HO8.out.free 1
      refine wp_region_still_tail 13 (by kernel_rfl) (by kernel_rfl) ?_
      change wpStill _ _ (World.drew _) (fun a' => wpList _ _ _ _ a' (World.drew _)) _ _
      simp only [List.take_succ_cons, List.take_zero, List.drop_succ_cons, List.drop_zero]
      repeat still_step
      still_call (same_left (rotl_w b1 17 17 rfl (by omega) (by omega) _))
      repeat still_step
      refine wpStill_nil ?_
      go_wp2_with fail
      obtain ⟨W8, hW8⟩ : ∃ W8, W8 = World.drew (World.setCell W7 ⟨S, 1, none⟩ (.int .u64 (bits .xor .u64 (uv (rotL b1 17)) (uv c2)))) := ⟨_, rfl⟩
      have hU : Upd S w W8 := by rw [hW8]; exact (HU8.out.set 1 (.int .u64 (bits .xor .u64 (uv (rotL b1 17)) (uv c2)))).drewN 1
      have hO : Obj1 W8 S ((s4 a3 b1 c2 d2).setIfInBounds 1 (.int .u64 (bits .xor .u64 (uv (rotL b1 17)) (uv c2)))) 66 := by rw [hW8]; exact (HO8.out.set 1 (.int .u64 (bits .xor .u64 (uv (rotL b1 17)) (uv c2)))).drewN 1
      rw [← hW8]
      rw [xor_uv] at hO
      obtain ⟨b2, hb2⟩ : ∃ b2, rotL b1 17 ^^^ c2 = b2 := ⟨_, rfl⟩
      rw [hb2] at hO
      have HE8 := Lib.hid hb2
      have HO9 := Lib.hid (show Obj1 W8 S (s4 a3 b2 c2 d2) 66 from hO)
      have HU9 := Lib.hid hU
      clear hO hU hW8 hb2 HO8 HU8 q0 q1 q2 q3 q4
      have q0 : W8.cell? ⟨S, 0, none⟩ = some (.int .u64 (uv a3)) := HO9.out.cell 0
      have q1 : W8.cell? ⟨S, 1, none⟩ = some (.int .u64 (uv b2)) := HO9.out.cell 1
      have q2 : W8.cell? ⟨S, 2, none⟩ = some (.int .u64 (uv c2)) := HO9.out.cell 2
      have q3 : W8.cell? ⟨S, 3, none⟩ = some (.int .u64 (uv d2)) := HO9.out.cell 3
      have q4 : W8.frozen? ⟨S, 2, none⟩ = false := HO9.out.free 2
      refine (rotl_w c2 32 32 rfl (by omega) (by omega) _).mono ?_
      rintro e w' ⟨rfl, rfl⟩
      go_wp2_with fail
      obtain ⟨W9, hW9⟩ : ∃ W9, W9 = World.setCell W8 ⟨S, 2, none⟩ (.int .u64 (uv (rotL c2 32))) := ⟨_, rfl⟩
      have hU : Upd S w W9 := by rw [hW9]; exact HU9.out.set 2 (.int .u64 (uv (rotL c2 32)))
      have hO : Obj1 W9 S ((s4 a3 b2 c2 d2).setIfInBounds 2 (.int .u64 (uv (rotL c2 32)))) 66 := by rw [hW9]; exact HO9.out.set 2 (.int .u64 (uv (rotL c2 32)))
      rw [← hW9]
      obtain ⟨c3, hc3⟩ : ∃ c3, rotL c2 32 = c3 := ⟨_, rfl⟩
      rw [hc3] at hO
      have HE9 := Lib.hid hc3
      have HO10 := Lib.hid (show Obj1 W9 S (s4 a3 b2 c3 d2) 66 from hO)
      have HU10 := Lib.hid hU
      clear hO hU hW9 hc3 HO9 HU9 q0 q1 q2 q3 q4
      go_wp2_with fail
      go_roundw
      case rel =>
        refine ⟨k + 1, by omega, by go_num, ?_, HU10.out⟩
        have e : rnds (k + 1) s = ⟨a3, b2, c3, d2⟩ := by
          show rnd (rnds k s) = _
          rw [HT.out, ← HE9.out, ← HE8.out, ← HE7.out, ← HE6.out, ← HE5.out, ← HE4.out, ← HE3.out, ← HE2.out, ← HE1.out, ← HE0.out]
          rfl
        rw [e]
        exact HO10.out
      case measure => simp [intOf]; omega
    · obtain rfl : k = n := by omega
      go_wp2
      go_end0
      exact ⟨rfl, hobj, hupd⟩

set_option maxHeartbeats 1000000 in
theorem word_w (S : Nat) (s : SS) (m : BitVec 64) (w : World) (h : Obj1 w S (ssC s) 66) :
    Calls Try.prog 35 #[.pointer (some ⟨S, 0, none⟩), .int .u64 (uv m)] w fun e w' => e = .returned (.tuple #[]) ∧ Obj1 w' S (ssC (wordS m s)) 66 ∧ Upd S w w' := by
  obtain ⟨a, b, c, d⟩ := s
  have q3 : w.cell? ⟨S, 3, none⟩ = some (.int .u64 (uv d)) := h.cell 3
  have q4 : w.frozen? ⟨S, 3, none⟩ = false := h.free 3
  have H := Lib.hid h
  clear h
  go_enter Try.func35, Try.ntmps35
  go_wp2_with fail
  have hO := H.out.set 3 (.int .u64 (bits .xor .u64 (uv d) (uv m)))
  rw [xor_uv] at hO
  refine (round_w S ⟨a, b, c, d ^^^ m⟩ 2 2 rfl (by omega) _ (by rw [xor_uv]; exact hO)).mono ?_
  rintro e w2 ⟨rfl, ho2, hu2⟩
  have HU := Lib.hid ((Upd.refl S w).set 3 (.int .u64 (bits .xor .u64 (uv d) (uv m))) |>.trans hu2)
  have hw : wordS m ⟨a, b, c, d⟩ = { rnds 2 ⟨a, b, c, d ^^^ m⟩ with a := (rnds 2 ⟨a, b, c, d ^^^ m⟩).a ^^^ m } := rfl
  obtain ⟨t, ht⟩ : ∃ t, rnds 2 (SS.mk a b c (d ^^^ m)) = t := ⟨_, rfl⟩
  rw [ht] at ho2 hw
  have HWW := Lib.hid hw
  obtain ⟨a2, b2, c2, d2⟩ := t
  have p0 : w2.cell? ⟨S, 0, none⟩ = some (.int .u64 (uv a2)) := ho2.cell 0
  have p4 : w2.frozen? ⟨S, 0, none⟩ = false := ho2.free 0
  have H2 := Lib.hid ho2
  clear ho2 hu2 hO ht hw q3 q4
  go_wp2
  go_end0
  refine ⟨rfl, ?_, HU.out.set _ _⟩
  rw [HWW.out]
  have hO := H2.out.set 0 (.int .u64 (bits .xor .u64 (uv a2) (uv m)))
  rw [xor_uv] at hO
  rw [xor_uv]
  exact hO

/-- What is read as bytes. -/
theorem byt_uv {x : Int} (h : 0 ≤ x ∧ x ≤ 255) : uv (byt x) = x := by
  unfold byt uv
  rw [BitVec.toNat_ofInt]
  omega
theorem SlI.byte {w : World} {A : Option Addr} {n c : Nat} {l : List Int} (h : SlI .u8 w A n c l) (k : Nat) : 0 ≤ nth l k ∧ nth l k ≤ 255 := nth_byte (fun x hx => u8_range (h.2.2.2.2 x hx)) k

set_option maxHeartbeats 1000000 in
theorem number_w (A : Option Addr) (n c : Nat) (l : List Int) (hn : n ≤ 8) (w : World) (h : SlI .u8 w A n c l) :
    Calls Try.prog 33 #[.slice A n c] w fun e w' => e = .returned (.int .u64 (uv (numU l n))) ∧ w = w' := by
  have H := Lib.hid h
  clear h
  go_enter Try.func33, Try.ntmps33
  go_wp2_with fail
  go_loop [3, 8] (fun v i => ∃ k : Nat, k ≤ n ∧ i = .int .i64 k ∧ v = .int .u64 (uv (numU l k))) (fun _ i => n - (intOf i).toNat)
  case atStart => exact ⟨0, Nat.zero_le _, rfl, rfl⟩
  case round =>
    obtain ⟨k, hk, rfl, rfl⟩ := hrel
    by_cases hlt : k < n
    · have hk0 : (0 : Int) ≤ (k : Int) := Int.natCast_nonneg k
      have hk1 : (k : Int) < (n : Int) := by omega
      obtain ⟨ad, rfl, hc, _⟩ := H.out.at k hlt
      have hb := H.out.byte k
      have a1 : IntKind.u64.wrap (nth l k) = uv (byt (nth l k)) := by rw [byt_uv hb, wrap_u64]; omega
      have a2 : IntKind.i64.wrap (8 * (k : Int)) = ((8 * k : Nat) : Int) := by rw [show 8 * (k : Int) = ((8 * k : Nat) : Int) by omega]; exact IntWalk.i64_in _ (by omega)
      obtain ⟨K, hK⟩ : ∃ K, K = 8 * k := ⟨_, rfl⟩
      rw [← hK] at a2
      have HK := Lib.hid hK
      clear hK
      go_wp2_with fail
      go_round
      case rel => exact ⟨k + 1, by omega, by go_num, by rw [shl_uv, or_uv, HK.out, Nat.min_eq_left (by omega)]; rfl⟩
      case measure => simp [intOf]; omega
    · obtain rfl : k = n := by omega
      go_wp2
      go_ret
      exact ⟨rfl, rfl⟩
end Go.Proofs.Ytgbdkleckmilkaa
