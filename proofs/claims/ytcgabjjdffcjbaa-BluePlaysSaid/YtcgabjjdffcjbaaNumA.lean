/- The walks of package num and of its reference: each Go function answers what a plain Lean function answers. -/
import Derived.Test.YtcgabjjdffcjbaaKit
namespace Go.Proofs.Ytcgabjjdffcjbaa
open Go.RowKit
set_option linter.unusedVariables false
set_option linter.unusedSimpArgs false

/-- A number as a count. -/
def cnt (n : Int) : Int := if n < 0 then 0 else if 4611686018427387904 < n then 4611686018427387904 else n

theorem cnt_range (n : Int) : 0 ≤ cnt n ∧ cnt n ≤ 4611686018427387904 := by unfold cnt; split <;> (try split) <;> omega

theorem cnt_id (n : Int) (h0 : 0 ≤ n) (h1 : n ≤ 4611686018427387904) : cnt n = n := by
  unfold cnt
  rw [if_neg (by omega), if_neg (by omega)]

/-- The sum of two counts. -/
def plus (s c : Int) : Int := if 4611686018427387904 < s + cnt c then 4611686018427387904 else s + cnt c

theorem plus_range (s c : Int) (h : 0 ≤ s ∧ s ≤ 4611686018427387904) : 0 ≤ plus s c ∧ plus s c ≤ 4611686018427387904 := by
  have := cnt_range c
  unfold plus; split <;> omega

/-- The sum of all. -/
def sumL (l : List Int) : Int := l.foldl plus 0

theorem sumL_range (l : List Int) : 0 ≤ sumL l ∧ sumL l ≤ 4611686018427387904 := by
  unfold sumL
  have : ∀ (l : List Int) (s : Int), (0 ≤ s ∧ s ≤ 4611686018427387904) → 0 ≤ l.foldl plus s ∧ l.foldl plus s ≤ 4611686018427387904 := by
    intro l
    induction l with
    | nil => intro s h; exact h
    | cons x l ih => intro s h; exact ih _ (plus_range s x h)
  exact this l 0 (by omega)

theorem sumL_take (l : List Int) (k : Nat) (h : k < l.length) : sumL (l.take (k + 1)) = plus (sumL (l.take k)) (nth l k) := by
  unfold sumL nth
  rw [List.take_succ_eq_append_getElem h, List.foldl_append]
  simp [List.getD_eq_getElem?_getD, List.getElem?_eq_getElem h]

/-- The product. -/
def mulC (a b : Int) : Int := if 4611686018427387904 < cnt a * cnt b then 4611686018427387904 else cnt a * cnt b
/-- The difference. -/
def subC (a b : Int) : Int := if cnt b < cnt a then cnt a - cnt b else 0
/-- The part, rounded up. -/
def upC (a b : Int) : Int := if cnt b = 0 then 0 else cnt a / cnt b + if cnt a % cnt b = 0 then 0 else 1

theorem up_yes (a b : Int) (ha : 0 ≤ a) (hb : 0 < b) : a / b * b < a ↔ ¬ a % b = 0 := by
  have := Int.emod_nonneg a (show b ≠ 0 by omega)
  have := Int.ediv_mul_add_emod a b
  omega
theorem upC_no (a b : Int) (h : cnt b = 0) : upC a b = 0 := by unfold upC; rw [if_pos h]
theorem upC_more (a b : Int) (h : ¬ cnt b = 0) (hc : cnt a / cnt b * cnt b < cnt a) : upC a b = cnt a / cnt b + 1 := by
  have ha := cnt_range a
  have hb := cnt_range b
  unfold upC
  rw [if_neg h, if_neg ((up_yes (cnt a) (cnt b) ha.1 (by omega)).1 hc)]
theorem upC_even (a b : Int) (h : ¬ cnt b = 0) (hc : ¬ cnt a / cnt b * cnt b < cnt a) : upC a b = cnt a / cnt b := by
  have ha := cnt_range a
  have hb := cnt_range b
  unfold upC
  rw [if_neg h, if_pos (Decidable.byContradiction fun h => hc ((up_yes (cnt a) (cnt b) ha.1 (by omega)).2 h))]
  omega

theorem cnt_cnt (n : Int) : cnt (cnt n) = cnt n := by
  have h := cnt_range n
  exact cnt_id _ h.1 h.2
theorem mulC_cnt (a b : Int) : mulC a (cnt b) = mulC a b := by unfold mulC; rw [cnt_cnt]

/-- One half of the product by halves. -/
def half (A B a b o : Int) : Prop := 0 ≤ a ∧ a ≤ 4611686018427387904 ∧ 0 ≤ b ∧ b ≤ 4611686018427387904 ∧ 0 ≤ o ∧ o ≤ 4611686018427387904 ∧
  (o + a * b = A * B ∨ (4611686018427387904 ≤ o + a * b ∧ 4611686018427387904 ≤ A * B))

theorem half_start (A B : Int) (ha : 0 ≤ A ∧ A ≤ 4611686018427387904) (hb : 0 ≤ B ∧ B ≤ 4611686018427387904) : half A B A B 0 :=
  ⟨ha.1, ha.2, hb.1, hb.2, by omega, by omega, .inl (by omega)⟩

theorem big_mul (M q : Int) (hM : 0 ≤ M) (hq : 1 ≤ q) : M ≤ M * q := by
  have := Int.mul_le_mul_of_nonneg_left hq hM
  omega

theorem half_even (A B a b o : Int) (h : half A B a b o) (hb : 0 < b) (he : b % 2 = 0) : half A B (plus a a) (b / 2) o := by
  obtain ⟨a0, a1, b0, b1, o0, o1, hs⟩ := h
  have hp := plus_range a a ⟨a0, a1⟩
  have hb2 : b = 2 * (b / 2) := by omega
  have hk : 1 ≤ b / 2 := by omega
  refine ⟨hp.1, hp.2, by omega, by omega, o0, o1, ?_⟩
  generalize b / 2 = k at *
  subst hb2
  have e : a * (2 * k) = (a + a) * k := by rw [← Int.mul_assoc]; congr 1; omega
  rw [e] at hs
  unfold plus
  rw [cnt_id a a0 a1]
  split
  · rename_i hbig
    have h1 := big_mul 4611686018427387904 k (by omega) hk
    have h2 : 4611686018427387904 * k ≤ (a + a) * k := Int.mul_le_mul_of_nonneg_right (by omega) (by omega)
    right
    constructor
    · omega
    · rcases hs with hs | hs
      · omega
      · exact hs.2
  · exact hs

theorem half_odd (A B a b o : Int) (h : half A B a b o) (hb : 0 < b) (ho : b % 2 = 1) : half A B (plus a a) (b / 2) (plus o a) := by
  obtain ⟨a0, a1, b0, b1, o0, o1, hs⟩ := h
  have hp := plus_range a a ⟨a0, a1⟩
  have hq := plus_range o a ⟨o0, o1⟩
  have hb2 : b = 2 * (b / 2) + 1 := by omega
  have hk : 0 ≤ b / 2 := by omega
  refine ⟨hp.1, hp.2, by omega, by omega, hq.1, hq.2, ?_⟩
  generalize b / 2 = k at *
  subst hb2
  have e : a * (2 * k + 1) = (a + a) * k + a := by rw [Int.mul_add, ← Int.mul_assoc, Int.mul_one]; congr 2; omega
  rw [e] at hs
  have hm : 0 ≤ (a + a) * k := Int.mul_nonneg (by omega) hk
  unfold plus
  rw [cnt_id a a0 a1]
  by_cases hbig : 4611686018427387904 < o + a
  · rw [if_pos hbig]
    have hn : 0 ≤ (if 4611686018427387904 < a + a then 4611686018427387904 else a + a) * k := by
      split
      · exact Int.mul_nonneg (by omega) hk
      · exact hm
    right
    constructor
    · omega
    · rcases hs with hs | hs
      · omega
      · exact hs.2
  · rw [if_neg hbig]
    by_cases h2 : 4611686018427387904 < a + a
    · rw [if_pos h2]
      rcases (show 0 < k ∨ k ≤ 0 by omega) with hk1 | hk1
      · have h1 := big_mul 4611686018427387904 k (by omega) hk1
        have h2 : 4611686018427387904 * k ≤ (a + a) * k := Int.mul_le_mul_of_nonneg_right (by omega) (by omega)
        right
        constructor
        · omega
        · rcases hs with hs | hs
          · omega
          · exact hs.2
      · obtain rfl : k = 0 := by omega
        simp only [Int.mul_zero] at hs ⊢
        rcases hs with hs | hs
        · left; omega
        · right; omega
    · rw [if_neg h2]
      rcases hs with hs | hs
      · left; omega
      · right; omega

theorem half_end (A B a o : Int) (h : half A B a 0 o) : o = if 4611686018427387904 < A * B then 4611686018427387904 else A * B := by
  obtain ⟨a0, a1, b0, b1, o0, o1, hs⟩ := h
  simp only [Int.mul_zero] at hs
  split <;> omega

set_option maxHeartbeats 400000 in
theorem Count_w (n : Int) (w : World) : Calls Try.prog 52 #[.int .i64 n] w fun e w' => e = .returned (.int .i64 (cnt n)) ∧ w = w' := by
  unfold cnt
  by_cases h1 : n < 0
  · rw [if_pos h1]
    go_enter Try.func52, Try.ntmps52
    go_wp2
    all_goals
      go_ret
      refine ⟨ret_i64 ?_, rfl⟩
      first | omega | (split at * <;> omega)
  · rw [if_neg h1]
    by_cases h2 : 4611686018427387904 < n
    · rw [if_pos h2]
      go_enter Try.func52, Try.ntmps52
      go_wp2
      all_goals
        go_ret
        refine ⟨ret_i64 ?_, rfl⟩
        first | omega | (split at * <;> omega)
    · rw [if_neg h2]
      go_enter Try.func52, Try.ntmps52
      go_wp2
      all_goals
        go_ret
        refine ⟨ret_i64 ?_, rfl⟩
        first | omega | (split at * <;> omega)

set_option maxHeartbeats 400000 in
theorem Add_w (A : Option Addr) (c : Nat) (l : List Int) (w : World) (h : RdI w A l) :
    Calls Try.prog 42 #[.slice A l.length c] w fun e w' => e = .returned (.int .i64 (sumL l)) ∧ w = w' := by
  obtain ⟨hm, hc⟩ := h
  have HC := Lib.hid hc
  clear hc
  go_enter Try.func42, Try.ntmps42
  go_wp2
  go_loop [3, 9] (fun s i => ∃ k : Nat, k ≤ l.length ∧ i = .int .i64 k ∧ s = .int .i64 (sumL (l.take k))) (fun _ i => l.length - (intOf i).toNat)
  case atStart => exact ⟨0, Nat.zero_le _, rfl, rfl⟩
  case round =>
    obtain ⟨k, hk, rfl, rfl⟩ := hrel
    have hs := sumL_range (l.take k)
    have hn := cnt_range (nth l k)
    by_cases hlt : k < l.length
    · have hst := Lib.hid (sumL_take l k hlt)
      obtain ⟨ad, rfl, hcell⟩ := HC.out k hlt
      go_wp2_with (go_at_call 52; refine (Count_w _ _).mono ?_; rintro e w' ⟨rfl, rfl⟩)
      all_goals
        go_round
        case rel =>
          refine ⟨k + 1, by omega, by go_num, ?_⟩
          rw [hst.out]
          unfold plus
          first | rw [if_pos (by omega)] | rw [if_neg (by omega)]
        case measure => simp [intOf]; omega
    · obtain rfl : k = l.length := by omega
      go_wp2
      go_ret
      exact ⟨ret_i64 (by simp), rfl⟩

/-- The same, the length by another name. -/
theorem Add_n (A : Option Addr) (n c : Nat) (l : List Int) (w : World) (hn : l.length = n) (h : RdI w A l) :
    Calls Try.prog 42 #[.slice A n c] w fun e w' => e = .returned (.int .i64 (sumL l)) ∧ w = w' := by
  subst hn
  exact Add_w A c l w h

theorem plus_cnt (a b : Int) : sumL [a, b] = plus (cnt a) b := by
  have h := cnt_range a
  unfold sumL
  simp only [List.foldl_cons, List.foldl_nil]
  congr 1
  unfold plus
  rw [if_neg (by omega)]
  omega

theorem Add2_w (a b : Int) (B : Nat) (w : World) (h0 : w.cell? ⟨B, 0, none⟩ = some (.int .i64 a)) (h1 : w.cell? ⟨B, 1, none⟩ = some (.int .i64 b)) :
    Calls Try.prog 42 #[.slice (some ⟨B, 0, none⟩) 2 2] w fun e w' => e = .returned (.int .i64 (plus (cnt a) b)) ∧ w = w' := by
  rw [← plus_cnt]
  refine Add_w (some ⟨B, 0, none⟩) 2 [a, b] w ⟨by simp, fun j hj => ⟨_, rfl, ?_⟩⟩
  match j, hj with
  | 0, _ => exact h0
  | 1, _ => exact h1

set_option maxHeartbeats 400000 in
theorem Sub_w (a b : Int) (w : World) : Calls Try.prog 44 #[.int .i64 a, .int .i64 b] w fun e w' => e = .returned (.int .i64 (subC a b)) ∧ w = w' := by
  have ha := cnt_range a
  have hb := cnt_range b
  go_enter Try.func44, Try.ntmps44
  go_wp2_with (go_at_call 52; refine (Count_w _ _).mono ?_; rintro e w' ⟨rfl, rfl⟩)
  all_goals
    go_ret
    refine ⟨ret_i64 ?_, rfl⟩
    unfold subC
    repeat' split
    all_goals omega

theorem mul_big (a b : Int) (ha : 0 ≤ a) (hb : 0 < b) (h : 4611686018427387904 / b < a) : 4611686018427387904 < a * b := by
  exact Int.lt_mul_of_ediv_lt hb h
theorem mul_small (a b : Int) (ha : 0 ≤ a) (hb : 0 < b) (h : a ≤ 4611686018427387904 / b) : a * b ≤ 4611686018427387904 :=
  Int.mul_le_of_le_ediv hb h
theorem part_range (b : Int) (hb : 0 < b) : 0 ≤ 4611686018427387904 / b ∧ 4611686018427387904 / b ≤ 4611686018427387904 :=
  ⟨Int.ediv_nonneg (by omega) (by omega), Int.ediv_le_self _ (by omega)⟩

set_option maxHeartbeats 400000 in
theorem Mul_w (a b : Int) (w : World) : Calls Try.prog 49 #[.int .i64 a, .int .i64 b] w fun e w' => e = .returned (.int .i64 (mulC a b)) ∧ w = w' := by
  have ha := cnt_range a
  have hb := cnt_range b
  unfold mulC
  by_cases a0 : cnt a = 0
  · rw [a0, Int.zero_mul, if_neg (by omega)]
    have a1 := beq_iff_eq.2 a0
    clear a0
    go_enter Try.func49, Try.ntmps49
    go_wp2_with (go_at_call 52; refine (Count_w _ _).mono ?_; rintro e w' ⟨rfl, rfl⟩)
    all_goals
      go_ret
      exact ⟨rfl, rfl⟩
  · have a1 : (cnt a == 0) = false := beq_eq_false_iff_ne.2 a0
    by_cases b0 : cnt b = 0
    · rw [b0, Int.mul_zero, if_neg (by omega)]
      have b1 := beq_iff_eq.2 b0
      clear b0
      go_enter Try.func49, Try.ntmps49
      go_wp2_with (go_at_call 52; refine (Count_w _ _).mono ?_; rintro e w' ⟨rfl, rfl⟩)
      all_goals
        go_ret
        exact ⟨rfl, rfl⟩
    · have b1 : (cnt b == 0) = false := beq_eq_false_iff_ne.2 b0
      have hb1 : 1 ≤ cnt b := by omega
      have hp := part_range (cnt b) (by omega)
      by_cases hc : 4611686018427387904 / cnt b < cnt a
      · have := mul_big (cnt a) (cnt b) (by omega) (by omega) hc
        rw [if_pos this]
        clear this
        go_enter Try.func49, Try.ntmps49
        go_wp2_with (go_at_call 52; refine (Count_w _ _).mono ?_; rintro e w' ⟨rfl, rfl⟩)
        all_goals
          go_ret
          exact ⟨rfl, rfl⟩
      · have hm := mul_small (cnt a) (cnt b) (by omega) (by omega) (by omega)
        have hm0 := Int.mul_nonneg ha.1 hb.1
        rw [if_neg (by omega)]
        go_enter Try.func49, Try.ntmps49
        go_wp2_with (go_at_call 52; refine (Count_w _ _).mono ?_; rintro e w' ⟨rfl, rfl⟩)
        all_goals
          go_ret
          exact ⟨rfl, rfl⟩

end Go.Proofs.Ytcgabjjdffcjbaa
