/- few of bailifflaw20; the first bin under changes; nil's own. -/
import Derived.Test.YtcgabjjdffcjbaaBlueE
import Derived.Test.YtcgabjjdffcjbaaOpenS
namespace Go.Proofs.Ytcgabjjdffcjbaa
open Go.RowKit
set_option linter.unusedVariables false
set_option linter.unusedSimpArgs false

set_option maxHeartbeats 1000000 in
theorem few_w (A : Option Addr) (n c : Nat) (rows : List (List Value)) (w : World) (hs : SlQ [.i .u8, .sl .i64, .i .i64] w A n c rows) :
    Calls Try.prog 19 #[.slice A n c] w fun e w' => (∃ fw, e = .returned (.bool fw) ∧ (fw = true → n ≤ 60)) ∧ w = w' := by
  have hn : n ≤ 9223372036854775807 := Nat.le_trans hs.2.1 hs.2.2.1
  have HS := Lib.hid hs
  clear hs
  go_enter Try.func19, Try.ntmps19
  go_wp2_with fail
  go_loopw [6] (fun i wr => ∃ (k : Nat), k ≤ n ∧ i = .int .i64 k ∧ w = wr) (fun i _ => n - (intOf i).toNat)
  case atStart => exact ⟨0, Nat.zero_le _, rfl, rfl⟩
  case round =>
    obtain ⟨k, hk, rfl, rfl⟩ := hrel
    by_cases hlt : k < n
    · obtain ⟨b, off, x, a, m, d, l, y, rfl, c0, c1, c2, hsl, wx, wy⟩ := HS.out.act k hlt
      have hk0 : (0 : Int) ≤ (k : Int) := Int.natCast_nonneg k
      have hk1 : (k : Int) < (n : Int) := by omega
      clear hsl wx wy
      by_cases hm : 10 < m
      · go_wp2
        go_ret
        exact ⟨⟨false, rfl, fun h => by cases h⟩, rfl⟩
      · go_wp2_with fail
        go_roundw
        case rel => exact ⟨k + 1, by omega, by go_num, trivial⟩
        case measure => simp [intOf]; omega
    · obtain rfl : k = n := by omega
      go_wp2
      go_ret
      exact ⟨⟨_, rfl, fun h => by simp at h; omega⟩, rfl⟩

theorem updN_zero (f : Bn → Bn) (nb : Nat) (hnb : 0 < nb) (ks : List Int) (l : List Bn) : ∀ j, (updN f nb ks j l)[0]? = if 0 < j ∧ nth ks 0 ≤ 0 then (l[0]?).map f else l[0]?
  | 0 => by simp [updN]
  | j + 1 => by
    rw [updN_step, List.getElem?_modify, updN_zero f nb hnb ks l j]
    rcases Nat.eq_zero_or_pos j with h0 | h0
    · subst h0
      by_cases hk : nth ks 0 ≤ 0
      · have : (nth ks 0).toNat = 0 := by omega
        simp [this, hk]
      · have : ¬ (nth ks 0).toNat = 0 := by omega
        simp [this, hk]
    · have h1 : nb ≤ j * nb := Nat.le_mul_of_pos_left nb h0
      have h2 : ¬ (j * nb + (nth ks j).toNat = 0) := by omega
      by_cases hk : nth ks 0 ≤ 0
      · simp only [h2, if_false, if_pos (show 0 < j ∧ nth ks 0 ≤ 0 from ⟨h0, hk⟩), if_pos (show 0 < j + 1 ∧ nth ks 0 ≤ 0 from ⟨by omega, hk⟩)]
        simp
      · simp only [h2, if_false, if_neg (show ¬ (0 < j ∧ nth ks 0 ≤ 0) from fun h => hk h.2), if_neg (show ¬ (0 < j + 1 ∧ nth ks 0 ≤ 0) from fun h => hk h.2)]
        simp

theorem markN_le (nb : Nat) (hnb : 0 < nb) (ks : List Int) (l : List Bn) (hok : ∀ b ∈ l, okBn b) : ∀ j, 0 ≤ markN nb ks l j
  | 0 => by show (0 : Int) ≤ 65536; omega
  | j + 1 => by
    have ih := markN_le nb hnb ks l hok j
    unfold markN
    have hp : 0 ≤ (l[j * nb + (nth ks j).toNat]?.getD ⟨0, 0, 0⟩).p := by
      cases h : l[j * nb + (nth ks j).toNat]? with
      | none => simp
      | some b => simpa using (hok b (List.mem_of_getElem? h)).2.2.1
    split
    · exact hp
    · exact ih
theorem markN_zero (nb : Nat) (hnb : 0 < nb) (ks : List Int) (l : List Bn) (hok : ∀ b ∈ l, okBn b) (b : Bn) (hb : l[0]? = some b) (hp : b.p = 0) (hk : nth ks 0 = 0) : ∀ j, 0 < j → markN nb ks l j = 0
  | 0, h => by omega
  | 1, _ => by
    have : markN nb ks l 1 = if (l[0 * nb + (nth ks 0).toNat]?.getD ⟨0, 0, 0⟩).p < 65536 then (l[0 * nb + (nth ks 0).toNat]?.getD ⟨0, 0, 0⟩).p else 65536 := rfl
    rw [this, hk]
    simp [hb, hp]
  | j + 2, _ => by
    have ih := markN_zero nb hnb ks l hok b hb hp hk (j + 1) (by omega)
    have h0 := markN_le nb hnb ks l hok (j + 2)
    have : markN nb ks l (j + 2) = if (l[(j + 1) * nb + (nth ks (j + 1)).toNat]?.getD ⟨0, 0, 0⟩).p < markN nb ks l (j + 1) then (l[(j + 1) * nb + (nth ks (j + 1)).toNat]?.getD ⟨0, 0, 0⟩).p else markN nb ks l (j + 1) := rfl
    rw [ih] at this
    split at this <;> omega

/-- The first bin has no more than the target, and is never marked. -/
def Own0 (target : Int) (l : List Bn) : Prop := ∃ b, l[0]? = some b ∧ b.n ≤ target ∧ b.p = 0
theorem own0_others {target : Int} {l : List Bn} (h : Own0 target l) (f : Bn → Bn) (nb : Nat) (hnb : 0 < nb) (ks : List Int) (j : Nat) (hk : ¬ nth ks 0 ≤ 0) : Own0 target (updN f nb ks j l) := by
  obtain ⟨b, hb, h1, h2⟩ := h
  exact ⟨b, by rw [updN_zero f nb hnb ks l j, if_neg (fun h => hk h.2)]; exact hb, h1, h2⟩
theorem own0_touch {now target hold up down : Int} {l : List Bn} (h : Own0 target l) (hd : 0 ≤ down) (nb : Nat) (hnb : 0 < nb) (ks : List Int) (j : Nat) : Own0 target (updN (touchF now target hold up down) nb ks j l) := by
  obtain ⟨b, hb, h1, h2⟩ := h
  have ht : (touchF now target hold up down b).n ≤ target ∧ (touchF now target hold up down b).p = 0 := by
    unfold touchF
    split
    · exact ⟨h1, h2⟩
    · split
      · omega
      · split
        · refine ⟨h1, ?_⟩
          show (if 0 ≤ b.p - down then b.p - down else 0) = 0
          split <;> omega
        · exact ⟨h1, h2⟩
  rw [Own0, updN_zero _ nb hnb ks l j]
  split
  · exact ⟨_, by rw [hb]; rfl, ht⟩
  · exact ⟨b, hb, h1, h2⟩
theorem made_ints (n : Nat) : madeCells (Value.int .i64 0).cells (n * 1) = Array.replicate n (.int .i64 0) := by
  apply Array.ext
  · simp [madeCells]
  · intro i h1 h2
    simp [madeCells, Value.cells, Nat.mod_one]
theorem zeros_ints (n : Nat) : ((List.replicate n (0 : Int)).map (Value.int .i64)).toArray = Array.replicate n (Value.int .i64 0) := by simp
theorem make_ints {P : Program} {t e : TypeId} (hu : P.underlying t = some (.slice e)) (hinfo : (P.info? e).map (fun i => (i.zero, i.size, i.bytes)) = some (some (.int .i64 0), 1, 8)) (n : Nat) (hn : n ≤ 1048576) (W : World) :
    (Instr.makeSlice t (.int .i64 (n : Int)) (.int .i64 (n : Int))).run P W = .ok (.slice (some ⟨W.heap.size, 0, none⟩) n n) (W.alloc (.cells (Array.replicate n (.int .i64 0)) e)) := by
  obtain ⟨i0, hi, hzz⟩ := Option.map_eq_some_iff.1 hinfo
  simp only [Prod.mk.injEq] at hzz
  obtain ⟨hz0, hz1, hz2⟩ := hzz
  rw [run_make (P := P) W t e i0 _ hu hi hz0 .i64 .i64 n n (Int.natCast_nonneg _) (Int.le_refl _) (by rw [hz2]; omega) (by omega), hz1, Int.toNat_natCast, made_ints]
end Go.Proofs.Ytcgabjjdffcjbaa
