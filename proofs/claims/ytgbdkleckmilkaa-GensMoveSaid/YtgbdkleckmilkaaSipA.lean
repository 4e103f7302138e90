/- SipHash in plain words: four numbers, rounds, words, sums. -/
import Derived.Test.YtgbdkleckmilkaaKit
namespace Go.Proofs.Ytgbdkleckmilkaa
open Go.RowKit
set_option linter.unusedVariables false
set_option linter.unusedSimpArgs false

/-- Four numbers of 64 bits. -/
structure SS where
  a : BitVec 64
  b : BitVec 64
  c : BitVec 64
  d : BitVec 64
def rotL (x : BitVec 64) (k : Nat) : BitVec 64 := x <<< k ||| x >>> (64 - k)
def rnd1 (s : SS) : SS := let a := s.a + s.b; let c := s.c + s.d; ⟨rotL a 32, rotL s.b 13 ^^^ a, c, rotL s.d 16 ^^^ c⟩
def rnd2 (s : SS) : SS := let a := s.a + s.d; let c := s.c + s.b; ⟨a, rotL s.b 17 ^^^ c, rotL c 32, rotL s.d 21 ^^^ a⟩
def rnd (s : SS) : SS := rnd2 (rnd1 s)
def rnds : Nat → SS → SS
  | 0, s => s
  | n + 1, s => rnd (rnds n s)
def wordS (m : BitVec 64) (s : SS) : SS := let t := rnds 2 { s with d := s.d ^^^ m }; { t with a := t.a ^^^ m }
/-- A byte as 64 bits. -/
def byt (x : Int) : BitVec 64 := BitVec.ofInt 64 x
/-- The number of the first k bytes, the lowest first. -/
def numU (l : List Int) : Nat → BitVec 64
  | 0 => 0
  | k + 1 => numU l k ||| byt (nth l k) <<< (8 * k)
/-- Behind so many words of eight bytes. -/
def words (l : List Int) : Nat → SS → SS
  | 0, s => s
  | i + 1, s => wordS (numU (l.drop (8 * i)) 8) (words l i s)
def initS (k0 k1 : BitVec 64) : SS := ⟨k0 ^^^ 0x736f6d6570736575, k1 ^^^ 0x646f72616e646f6d, k0 ^^^ 0x6c7967656e657261, k1 ^^^ 0x7465646279746573⟩
/-- The last word. -/
def lastU (l : List Int) : BitVec 64 := numU (l.drop (8 * (l.length / 8))) (l.length % 8) ||| BitVec.ofNat 64 l.length <<< 56
def endS (s : SS) : SS := rnds 4 { s with c := s.c ^^^ 0xff }
def outS (s : SS) : BitVec 64 := s.a ^^^ s.b ^^^ s.c ^^^ s.d
/-- The sum of bytes by a key. -/
def sipU (key l : List Int) : BitVec 64 := outS (endS (wordS (lastU l) (words l (l.length / 8) (initS (numU key 8) (numU (key.drop 8) 8)))))
/-- As the value that a program holds. -/
def uv (x : BitVec 64) : Int := (x.toNat : Int)
def u64 (x : BitVec 64) : Value := .int .u64 (uv x)

theorem uv_range (x : BitVec 64) : 0 ≤ uv x ∧ uv x < 18446744073709551616 := by
  have := x.isLt
  unfold uv
  omega
theorem ofInt_uv (x : BitVec 64) : BitVec.ofInt 64 (uv x) = x := by
  apply BitVec.eq_of_toNat_eq
  unfold uv
  rw [BitVec.toNat_ofInt]
  have := x.isLt
  omega
theorem uv_inj {x y : BitVec 64} : uv x = uv y ↔ x = y := by
  constructor
  · intro h
    apply BitVec.eq_of_toNat_eq
    unfold uv at h
    omega
  · rintro rfl; rfl
theorem wrap_u64 (n : Int) : IntKind.u64.wrap n = n % 18446744073709551616 := by
  simp [IntKind.wrap, IntKind.bits, IntKind.signed]
theorem xor_uv (x y : BitVec 64) : bits .xor .u64 (uv x) (uv y) = uv (x ^^^ y) := by
  have h1 := ofInt_uv x
  have h2 := ofInt_uv y
  have h3 := (x ^^^ y).isLt
  show IntKind.u64.wrap ((BitVec.ofInt 64 (uv x) ^^^ BitVec.ofInt 64 (uv y)).toNat : Int) = _
  rw [h1, h2, wrap_u64]
  unfold uv
  omega
theorem or_uv (x y : BitVec 64) : bits .or .u64 (uv x) (uv y) = uv (x ||| y) := by
  have h1 := ofInt_uv x
  have h2 := ofInt_uv y
  have h3 := (x ||| y).isLt
  show IntKind.u64.wrap ((BitVec.ofInt 64 (uv x) ||| BitVec.ofInt 64 (uv y)).toNat : Int) = _
  rw [h1, h2, wrap_u64]
  unfold uv
  omega
theorem add_uv (x y : BitVec 64) : IntKind.u64.wrap (uv x + uv y) = uv (x + y) := by
  rw [wrap_u64]
  unfold uv
  rw [BitVec.toNat_add]
  omega
theorem shl_uv (x : BitVec 64) (k : Nat) : IntKind.u64.wrap (uv x * 2 ^ k) = uv (x <<< k) := by
  rw [wrap_u64]
  unfold uv
  rw [BitVec.toNat_shiftLeft, Nat.shiftLeft_eq]
  rw [Int.natCast_emod, Int.natCast_mul, Int.natCast_pow]
  rfl
theorem shr_uv (x : BitVec 64) (k : Nat) : (uv x).fdiv (2 ^ k) = uv (x >>> k) := by
  unfold uv
  rw [BitVec.toNat_ushiftRight, Nat.shiftRight_eq_div_pow, Int.fdiv_eq_ediv_of_nonneg _ (by exact_mod_cast Nat.zero_le (2 ^ k)), Int.natCast_ediv, Int.natCast_pow]
  rfl

/-! ### Numbers of bytes -/
def isByte (x : Int) : Prop := 0 ≤ x ∧ x ≤ 255
theorem nth_of {l : List Int} {k : Nat} (h : k < l.length) : nth l k = l[k] := by
  simp [nth, List.getD_eq_getElem?_getD, List.getElem?_eq_getElem h]
theorem nth_drop (l : List Int) (j k : Nat) : nth (l.drop j) k = nth l (j + k) := by
  simp [nth, List.getD_eq_getElem?_getD, List.getElem?_drop]
theorem nth_append_left {l m : List Int} {k : Nat} (h : k < l.length) : nth (l ++ m) k = nth l k := by
  simp [nth, List.getD_eq_getElem?_getD, List.getElem?_append_left h]
theorem numU_congr (l m : List Int) : ∀ k, (∀ i, i < k → nth l i = nth m i) → numU l k = numU m k
  | 0, _ => rfl
  | k + 1, h => by
    unfold numU
    rw [numU_congr l m k (fun i hi => h i (by omega)), h k (by omega)]
theorem nth_byte {l : List Int} (h : ∀ x ∈ l, isByte x) (k : Nat) : isByte (nth l k) := by
  by_cases hk : k < l.length
  · rw [nth_of hk]; exact h _ (List.getElem_mem hk)
  · unfold nth
    rw [List.getD_eq_getElem?_getD, List.getElem?_eq_none (by omega)]
    exact ⟨by decide, by decide⟩
/-- The number of the first k bytes, as a number. -/
def numN (l : List Int) : Nat → Nat
  | 0 => 0
  | k + 1 => numN l k + (nth l k).toNat * 2 ^ (8 * k)
theorem numN_lt {l : List Int} (h : ∀ x ∈ l, isByte x) : ∀ k, numN l k < 2 ^ (8 * k)
  | 0 => by simp [numN]
  | k + 1 => by
    have h1 := numN_lt h k
    have h2 := nth_byte h k
    have h3 : (nth l k).toNat * 2 ^ (8 * k) ≤ 255 * 2 ^ (8 * k) := Nat.mul_le_mul_right _ (by unfold isByte at h2; omega)
    have h4 : 2 ^ (8 * (k + 1)) = 256 * 2 ^ (8 * k) := by rw [show 8 * (k + 1) = 8 * k + 8 by omega, Nat.pow_add]; omega
    unfold numN
    omega
theorem numU_toNat {l : List Int} (h : ∀ x ∈ l, isByte x) : ∀ k, k ≤ 8 → (numU l k).toNat = numN l k
  | 0, _ => rfl
  | k + 1, hk => by
    have h1 := numN_lt h k
    have h2 := nth_byte h k
    have ih := numU_toNat h k (by omega)
    have h3 := numN_lt h (k + 1)
    unfold numU numN
    unfold numN at h3
    rw [BitVec.toNat_or, ih, BitVec.toNat_shiftLeft]
    have h5 : (byt (nth l k)).toNat = (nth l k).toNat := by
      unfold byt isByte at *
      rw [BitVec.toNat_ofInt]
      omega
    have hle : (2 : Nat) ^ (8 * (k + 1)) ≤ 2 ^ 64 := Nat.pow_le_pow_right (by omega) (by omega)
    rw [h5, Nat.shiftLeft_eq, Nat.mod_eq_of_lt (by omega), Nat.or_comm, Nat.mul_comm, ← Nat.two_pow_add_eq_or_of_lt h1, Nat.add_comm]
theorem numN_cons (x : Int) (l : List Int) : ∀ k, numN (x :: l) (k + 1) = x.toNat + 256 * numN l k
  | 0 => by simp [numN, nth]
  | k + 1 => by
    have ih := numN_cons x l k
    have e : nth (x :: l) (k + 1) = nth l k := by simp [nth]
    rw [numN, ih, numN, e, show 8 * (k + 1) = 8 * k + 8 by omega, Nat.pow_add, Nat.mul_add, Nat.add_assoc]
    congr 1
    congr 1
    rw [show (2 : Nat) ^ 8 = 256 by decide]
    rw [← Nat.mul_assoc, Nat.mul_comm]
theorem len_shift (n : Nat) : BitVec.ofNat 64 n <<< 56 = BitVec.ofNat 64 (n % 256) <<< 56 := by
  apply BitVec.eq_of_toNat_eq
  rw [BitVec.toNat_shiftLeft, BitVec.toNat_shiftLeft, BitVec.toNat_ofNat, BitVec.toNat_ofNat, Nat.shiftLeft_eq, Nat.shiftLeft_eq]
  omega
end Go.Proofs.Ytgbdkleckmilkaa
