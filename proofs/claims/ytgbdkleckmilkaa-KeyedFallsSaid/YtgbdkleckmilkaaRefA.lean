/- The document's SipHash in plain words: its words, its padding. -/
import Derived.Test.YtgbdkleckmilkaaSipE
namespace Go.Proofs.Ytgbdkleckmilkaa
open Go.RowKit
set_option linter.unusedVariables false
set_option linter.unusedSimpArgs false

/-- The number of the last j of eight bytes, the highest first. -/
def hornU (l : List Int) : Nat → BitVec 64
  | 0 => 0
  | j + 1 => hornU l j <<< 8 + byt (nth l (7 - j))
theorem byt_toNat {x : Int} (h : isByte x) : (byt x).toNat = x.toNat := by
  unfold byt isByte at *
  rw [BitVec.toNat_ofInt]
  omega
theorem isByte_of {l : List Int} (h : ∀ x ∈ l, 0 ≤ x ∧ x ≤ 255) : ∀ x ∈ l, isByte x := h
theorem hornU_toNat {l : List Int} (hl : l.length = 8) (h : ∀ x ∈ l, isByte x) : ∀ j, j ≤ 8 → (hornU l j).toNat = numN (l.drop (8 - j)) j
  | 0, _ => rfl
  | j + 1, hj => by
    have ih := hornU_toNat hl h j (by omega)
    have hd : ∀ x ∈ l.drop (8 - j), isByte x := fun x hx => h x (List.mem_of_mem_drop hx)
    have hlt := numN_lt hd j
    have hb := nth_byte h (7 - j)
    have e : l.drop (8 - (j + 1)) = nth l (7 - j) :: l.drop (8 - j) := by
      rw [show 8 - (j + 1) = 7 - j by omega, List.drop_eq_getElem_cons (by omega), nth_of (by omega)]
      congr 2
      omega
    rw [e, numN_cons]
    show (hornU l j <<< 8 + byt (nth l (7 - j))).toNat = _
    have hp : (2 : Nat) ^ (8 * j) ≤ 2 ^ 56 := Nat.pow_le_pow_right (by omega) (by omega)
    have hp2 : (2 : Nat) ^ 56 = 72057594037927936 := by decide
    rw [BitVec.toNat_add, BitVec.toNat_shiftLeft, ih, byt_toNat hb, Nat.shiftLeft_eq]
    unfold isByte at hb
    omega
theorem hornU_all {l : List Int} (hl : l.length = 8) (h : ∀ x ∈ l, isByte x) : hornU l 8 = numU l 8 := by
  apply BitVec.eq_of_toNat_eq
  rw [hornU_toNat hl h 8 (Nat.le_refl _), numU_toNat h 8 (Nat.le_refl _)]
  rfl

/-- With zeros behind it a number stays. -/
theorem numU_zeros (l : List Int) (r : Nat) : ∀ j, (∀ i, r ≤ i → i < r + j → nth l i = 0) → numU l (r + j) = numU l r
  | 0, _ => rfl
  | j + 1, h => by
    show numU l (r + j) ||| byt (nth l (r + j)) <<< (8 * (r + j)) = _
    rw [numU_zeros l r j (fun i h1 h2 => h i h1 (by omega)), h (r + j) (by omega) (by omega)]
    have : byt 0 = 0 := by decide
    rw [this]
    simp
/-- The padded bytes. -/
def padL (l : List Int) (z : Nat) : List Int := l ++ List.replicate z 0 ++ [((l.length % 256 : Nat) : Int)]
theorem nth_append_right {l m : List Int} {k : Nat} (h : l.length ≤ k) : nth (l ++ m) k = nth m (k - l.length) := by
  simp [nth, List.getD_eq_getElem?_getD, List.getElem?_append_right h]
theorem nth_zeros (z k : Nat) : nth (List.replicate z 0) k = 0 := by
  unfold nth
  rw [List.getD_eq_getElem?_getD, List.getElem?_replicate]
  split <;> rfl
theorem padL_low (l : List Int) (z k : Nat) (h : k < l.length) : nth (padL l z) k = nth l k := by
  unfold padL
  rw [List.append_assoc, nth_append_left h]
theorem padL_mid (l : List Int) (z k : Nat) (h : l.length ≤ k) (h2 : k < l.length + z) : nth (padL l z) k = 0 := by
  unfold padL
  rw [List.append_assoc, nth_append_right h, nth_append_left (by simp; omega), nth_zeros]
theorem padL_end (l : List Int) (z : Nat) : nth (padL l z) (l.length + z) = ((l.length % 256 : Nat) : Int) := by
  unfold padL
  rw [nth_append_right (by simp)]
  simp [nth]
theorem words_low (l : List Int) (z : Nat) (s : SS) : ∀ i, 8 * i ≤ l.length → words (padL l z) i s = words l i s
  | 0, _ => rfl
  | i + 1, h => by
    unfold words
    rw [words_low l z s i (by omega)]
    congr 1
    refine numU_congr _ _ 8 fun j hj => ?_
    rw [nth_drop, nth_drop, padL_low l z _ (by omega)]
theorem byt_nat (n : Nat) (h : n < 256) : byt (n : Int) = BitVec.ofNat 64 n := by
  apply BitVec.eq_of_toNat_eq
  unfold byt
  rw [BitVec.toNat_ofInt, BitVec.toNat_ofNat]
  omega
theorem last_pad (l : List Int) (z : Nat) (hz : (l.length + z) % 8 = 7) (hz7 : z < 8) : numU ((padL l z).drop (8 * (l.length / 8))) 8 = lastU l := by
  obtain ⟨r, hr⟩ : ∃ r, r = l.length % 8 := ⟨_, rfl⟩
  obtain ⟨q, hq⟩ : ∃ q, q = l.length / 8 := ⟨_, rfl⟩
  have hlen : l.length = 8 * q + r := by omega
  have hrz : r + z = 7 := by omega
  rw [← hq]
  show numU ((padL l z).drop (8 * q)) 7 ||| byt (nth ((padL l z).drop (8 * q)) 7) <<< (8 * 7) = _
  have e1 : numU ((padL l z).drop (8 * q)) 7 = numU (l.drop (8 * q)) r := by
    have h1 := numU_zeros ((padL l z).drop (8 * q)) r z (fun i h1 h2 => by rw [nth_drop, padL_mid l z _ (by omega) (by omega)])
    rw [hrz] at h1
    rw [h1]
    refine numU_congr _ _ r fun j hj => ?_
    rw [nth_drop, nth_drop, padL_low l z _ (by omega)]
  have e2 : nth ((padL l z).drop (8 * q)) 7 = ((l.length % 256 : Nat) : Int) := by
    rw [nth_drop, show 8 * q + 7 = l.length + z by omega, padL_end]
  rw [e1, e2, byt_nat _ (Nat.mod_lt _ (by omega))]
  unfold lastU
  rw [← hq, ← hr, len_shift l.length]
theorem words_pad (l : List Int) (z : Nat) (hz : (l.length + z) % 8 = 7) (hz7 : z < 8) (s : SS) : words (padL l z) (l.length / 8 + 1) s = wordS (lastU l) (words l (l.length / 8) s) := by
  show wordS (numU ((padL l z).drop (8 * (l.length / 8))) 8) (words (padL l z) (l.length / 8) s) = _
  rw [last_pad l z hz hz7, words_low l z s _ (by omega)]
theorem padL_length (l : List Int) (z : Nat) (hz : (l.length + z) % 8 = 7) (hz7 : z < 8) : (padL l z).length = 8 * (l.length / 8 + 1) := by
  unfold padL
  simp
  omega
theorem padL_byte {l : List Int} (h : ∀ x ∈ l, 0 ≤ x ∧ x ≤ 255) (z : Nat) : ∀ x ∈ padL l z, 0 ≤ x ∧ x ≤ 255 := by
  intro x hx
  unfold padL at hx
  rcases List.mem_append.1 hx with hx | hx
  · rcases List.mem_append.1 hx with hx | hx
    · exact h x hx
    · rw [List.eq_of_mem_replicate hx]; decide
  · simp at hx
    subst hx
    omega
end Go.Proofs.Ytgbdkleckmilkaa
