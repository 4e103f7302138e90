/- Bins in a block, and what a flow's bins become. -/
import Derived.Test.YtcgabjjdffcjbaaNumB
import Derived.Test.YtcgabjjdffcjbaaOpenA
import Derived.StillTailTactics
namespace Go.Proofs.Ytcgabjjdffcjbaa
open Go.RowKit
set_option linter.unusedVariables false
set_option linter.unusedSimpArgs false

/-- A bin. -/
structure Bn where
  n : Int
  c : Int
  p : Int
/-- Bins' cells, one behind the other. -/
def binsL : List Bn → List Value
  | [] => []
  | b :: l => .int .i64 b.n :: .int .i64 b.c :: .int .i64 b.p :: binsL l
def binsC (l : List Bn) : Array Value := (binsL l).toArray

theorem binsL_length : ∀ l : List Bn, (binsL l).length = l.length * 3
  | [] => rfl
  | b :: l => by simp [binsL, binsL_length l]; omega
theorem binsL_at : ∀ (l : List Bn) (i : Nat) (b : Bn), l[i]? = some b → (binsL l)[i * 3]? = some (.int .i64 b.n) ∧ (binsL l)[i * 3 + 1]? = some (.int .i64 b.c) ∧ (binsL l)[i * 3 + 2]? = some (.int .i64 b.p)
  | [], i, b, h => by simp at h
  | x :: l, 0, b, h => by simp at h; subst h; simp [binsL]
  | x :: l, i + 1, b, h => by
    have := binsL_at l i b (by simpa using h)
    rw [show (i + 1) * 3 = i * 3 + 3 by omega]
    exact this
theorem binsC_at {l : List Bn} {i : Nat} {b : Bn} (h : l[i]? = some b) : (binsC l)[i * 3]? = some (.int .i64 b.n) ∧ (binsC l)[i * 3 + 1]? = some (.int .i64 b.c) ∧ (binsC l)[i * 3 + 2]? = some (.int .i64 b.p) := by
  have := binsL_at l i b h
  simpa [binsC] using this
theorem binsL_set : ∀ (l : List Bn) (i : Nat) (b : Bn) (x : Int), l[i]? = some b →
    (binsL l).set (i * 3) (.int .i64 x) = binsL (l.set i { b with n := x }) ∧ (binsL l).set (i * 3 + 1) (.int .i64 x) = binsL (l.set i { b with c := x }) ∧ (binsL l).set (i * 3 + 2) (.int .i64 x) = binsL (l.set i { b with p := x })
  | [], i, b, x, h => by simp at h
  | y :: l, 0, b, x, h => by simp at h; subst h; simp [binsL]
  | y :: l, i + 1, b, x, h => by
    obtain ⟨h1, h2, h3⟩ := binsL_set l i b x (by simpa using h)
    rw [show (i + 1) * 3 = i * 3 + 3 by omega, show i * 3 + 3 + 1 = i * 3 + 1 + 3 by omega, show i * 3 + 3 + 2 = i * 3 + 2 + 3 by omega]
    simp [binsL, h1, h2, h3]
theorem binsC_set {l : List Bn} {i : Nat} {b : Bn} (x : Int) (h : l[i]? = some b) :
    (binsC l).setIfInBounds (i * 3) (.int .i64 x) = binsC (l.set i { b with n := x }) ∧ (binsC l).setIfInBounds (i * 3 + 1) (.int .i64 x) = binsC (l.set i { b with c := x }) ∧ (binsC l).setIfInBounds (i * 3 + 2) (.int .i64 x) = binsC (l.set i { b with p := x }) := by
  have := binsL_set l i b x h
  simp [binsC, this]

/-- Are these a flow's bins? -/
def flowsB (nl nb : Nat) (ks : List Int) : Bool := decide (ks.length = nl) && ks.all (fun k => decide (0 ≤ k) && decide (k < (nb : Int)))
/-- Behind a change of the first j of a flow's bins. -/
def updN (f : Bn → Bn) (nb : Nat) (ks : List Int) : Nat → List Bn → List Bn
  | 0, l => l
  | j + 1, l => (updN f nb ks j l).modify (j * nb + (nth ks j).toNat) f
theorem updN_length (f : Bn → Bn) (nb : Nat) (ks : List Int) : ∀ (j : Nat) (l : List Bn), (updN f nb ks j l).length = l.length
  | 0, l => rfl
  | j + 1, l => by simp [updN, updN_length f nb ks j l]

/-- Blue's cells. -/
def blueC (D N nl nb : Nat) (target hold up down : Int) : Array Value := #[.slice (some ⟨D, 0, none⟩) N N, .int .i64 nl, .int .i64 nb, .int .i64 target, .int .i64 hold, .int .i64 up, .int .i64 down]

theorem flowsB_at {nl nb : Nat} {ks : List Int} (h : flowsB nl nb ks = true) : ks.length = nl ∧ ∀ j, j < nl → 0 ≤ nth ks j ∧ nth ks j < (nb : Int) := by
  simp [flowsB] at h
  refine ⟨h.1, fun j hj => ?_⟩
  have hj' : j < ks.length := by omega
  have := h.2 (ks[j]) (List.getElem_mem hj')
  simpa [nth, List.getD_eq_getElem?_getD, List.getElem?_eq_getElem hj'] using this
theorem flowsB_no {nl nb : Nat} {ks : List Int} {j : Nat} (hj : j < ks.length) (h : ¬ (0 ≤ nth ks j ∧ nth ks j < (nb : Int))) : flowsB nl nb ks = false := by
  cases hf : flowsB nl nb ks
  · rfl
  · have := flowsB_at hf
    exact absurd (this.2 j (by omega)) h
theorem flowsB_all {nl nb : Nat} {ks : List Int} (h1 : ks.length = nl) (h : ∀ j, j < nl → 0 ≤ nth ks j ∧ nth ks j < (nb : Int)) : flowsB nl nb ks = true := by
  simp [flowsB, h1]
  intro x hx
  obtain ⟨j, hj, rfl⟩ := List.getElem_of_mem hx
  have := h j (by omega)
  simpa [nth, List.getD_eq_getElem?_getD, List.getElem?_eq_getElem hj] using this

theorem blueTuned_w (target up down : Int) (w : World) :
    Calls Try.prog 39 #[.int .i64 target, .int .i64 up, .int .i64 down] w fun e w' => e = .returned (.bool (decide (0 ≤ target ∧ target ≤ 1073741824 ∧ 0 ≤ up ∧ up ≤ 65536 ∧ 0 ≤ down ∧ down ≤ 65536))) ∧ w = w' := by
  by_cases h : 0 ≤ target ∧ target ≤ 1073741824 ∧ 0 ≤ up ∧ up ≤ 65536 ∧ 0 ≤ down ∧ down ≤ 65536
  · rw [decide_eq_true h]
    obtain ⟨h1, h2, h3, h4, h5, h6⟩ := h
    go_enter Try.func39, Try.ntmps39
    go_wp2
    go_ret
    exact ⟨rfl, rfl⟩
  · rw [decide_eq_false h]
    have h' : target < 0 ∨ (0 ≤ target ∧ 1073741824 < target) ∨ ((0 ≤ target ∧ target ≤ 1073741824) ∧ up < 0) ∨ ((0 ≤ target ∧ target ≤ 1073741824) ∧ 0 ≤ up ∧ 65536 < up) ∨ (((0 ≤ target ∧ target ≤ 1073741824) ∧ 0 ≤ up ∧ up ≤ 65536) ∧ down < 0) ∨ (((0 ≤ target ∧ target ≤ 1073741824) ∧ 0 ≤ up ∧ up ≤ 65536) ∧ 0 ≤ down ∧ 65536 < down) := by omega
    clear h
    rcases h' with h | ⟨h1, h2⟩ | ⟨⟨h1, h2⟩, h3⟩ | ⟨⟨h1, h2⟩, h3, h4⟩ | ⟨⟨⟨h1, h2⟩, h3, h4⟩, h5⟩ | ⟨⟨⟨h1, h2⟩, h3, h4⟩, h5, h6⟩
    all_goals
      go_enter Try.func39, Try.ntmps39
      go_wp2
      go_ret
      refine ⟨?_, rfl⟩
      first | rfl | (refine ret_bool ?_; simp; omega)

set_option maxHeartbeats 1000000 in
theorem blueFlows_w (B D N nl nb : Nat) (target hold up down : Int) (A : Option Addr) (n c : Nat) (ks : List Int) (w : World) (h : Obj1 w B (blueC D N nl nb target hold up down) 77) (hs : SlI .i64 w A n c ks) (hnb : nb ≤ 64) (hnl : nl ≤ 4) :
    Calls Try.prog 51 #[.pointer (some ⟨B, 0, none⟩), .slice A n c] w fun e w' => e = .returned (.bool (flowsB nl nb ks)) ∧ w = w' := by
  have c1 : w.cell? ⟨B, 1, none⟩ = some (.int .i64 nl) := h.cell 1
  have c2 : w.cell? ⟨B, 2, none⟩ = some (.int .i64 nb) := h.cell 2
  have hn : n ≤ 9223372036854775807 := Nat.le_trans hs.2.1 hs.2.2.1
  have hlen : ks.length = n := hs.1
  have HS := Lib.hid hs
  clear h hs
  by_cases hne : n = nl
  · subst hne
    go_enter Try.func51, Try.ntmps51
    go_wp2_with fail
    go_loopw [20] (fun i wr => ∃ (k : Nat), k ≤ n ∧ i = .int .i64 k ∧ (∀ j, j < k → 0 ≤ nth ks j ∧ nth ks j < (nb : Int)) ∧ w = wr) (fun i _ => n - (intOf i).toNat)
    case atStart => exact ⟨0, Nat.zero_le _, rfl, fun j hj => absurd hj (by omega), rfl⟩
    case round =>
      obtain ⟨k, hk, rfl, hall, rfl⟩ := hrel
      have HA := Lib.hid hall
      clear hall
      by_cases hlt : k < n
      · obtain ⟨ad, rfl, hc, hw⟩ := HS.out.at k hlt
        have hr := i64_range hw
        clear hw
        have hk0 : (0 : Int) ≤ (k : Int) := Int.natCast_nonneg k
        have hk1 : (k : Int) < (n : Int) := by omega
        obtain ⟨x, hx⟩ : ∃ x, nth ks k = x := ⟨_, rfl⟩
        rw [hx] at hc hr
        have HX := Lib.hid hx
        clear hx
        by_cases hlo : x < 0
        · have hno : flowsB n nb ks = false := flowsB_no (j := k) (by omega) (by rw [HX.out]; omega)
          have HNO := Lib.hid hno
          clear hno
          go_wp2
          go_ret
          exact ⟨ret_bool HNO.out.symm, rfl⟩
        · by_cases hhi : x < (nb : Int)
          · go_wp2_with fail
            go_roundw
            case rel => exact ⟨k + 1, by omega, by go_num, fun j hj => by
              rcases Nat.lt_or_ge j k with hjk | hjk
              · exact HA.out j hjk
              · obtain rfl : j = k := by omega
                rw [HX.out]; omega, trivial⟩
            case measure => simp [intOf]; omega
          · have hno : flowsB n nb ks = false := flowsB_no (j := k) (by omega) (by rw [HX.out]; omega)
            have HNO := Lib.hid hno
            clear hno
            go_wp2
            go_ret
            exact ⟨ret_bool HNO.out.symm, rfl⟩
      · obtain rfl : k = n := by omega
        go_wp2
        go_ret
        exact ⟨ret_bool (flowsB_all hlen HA.out).symm, rfl⟩
  · have hno : flowsB nl nb ks = false := by simp [flowsB, hlen, hne]
    rw [hno]
    clear hno
    go_enter Try.func51, Try.ntmps51
    go_wp2
    go_ret
    exact ⟨rfl, rfl⟩

end Go.Proofs.Ytcgabjjdffcjbaa
