/- The document's Blue: Mark and Clear. -/
import Derived.Test.YtcgabjjdffcjbaaRbE
namespace Go.Proofs.Ytcgabjjdffcjbaa
open Go.RowKit
set_option linter.unusedVariables false
set_option linter.unusedSimpArgs false

theorem bin_flat {ls : List (List Bn)} {nb : Nat} (h : ∀ l ∈ ls, l.length = nb) {ks : List Int} {j : Nat} (hk : 0 ≤ nth ks j ∧ nth ks j < (nb : Int)) : (ls.flatten[j * nb + (nth ks j).toNat]?).getD ⟨0, 0, 0⟩ = binAt ls ks j := by
  rw [flat_at h (by omega)]
  rfl
theorem mark_step {ls : List (List Bn)} {nb : Nat} (h : ∀ l ∈ ls, l.length = nb) {ks : List Int} {j : Nat} (hk : 0 ≤ nth ks j ∧ nth ks j < (nb : Int)) : markN nb ks ls.flatten (j + 1) = if (binAt ls ks j).p < markN nb ks ls.flatten j then (binAt ls ks j).p else markN nb ks ls.flatten j := by
  rw [← bin_flat h hk]
  rfl
/-- The mark behind k bins, that begins with the first one's. -/
def markR (nb : Nat) (ks : List Int) (ls : List (List Bn)) : Nat → Int
  | 0 => (binAt ls ks 0).p
  | k + 1 => markN nb ks ls.flatten (k + 1)
theorem markR_step {ls : List (List Bn)} {nb : Nat} (h : ∀ l ∈ ls, l.length = nb) {ks : List Int} {j : Nat} (hk : 0 ≤ nth ks j ∧ nth ks j < (nb : Int)) (hp : (binAt ls ks j).p ≤ 65536) : markR nb ks ls (j + 1) = if (binAt ls ks j).p < markR nb ks ls j then (binAt ls ks j).p else markR nb ks ls j := by
  show markN nb ks ls.flatten (j + 1) = _
  rw [mark_step h hk]
  cases j with
  | zero =>
    show (if (binAt ls ks 0).p < 65536 then (binAt ls ks 0).p else 65536) = if (binAt ls ks 0).p < (binAt ls ks 0).p then _ else (binAt ls ks 0).p
    split <;> split <;> omega
  | succ j => rfl

set_option maxRecDepth 100000 in
set_option maxHeartbeats 4000000 in
theorem rmark_w (target hold up down : Int) (A A1 : Option Addr) (nl c n c1 nb lo : Nat) (ls : List (List Bn)) (ks : List Int) (hnl : 1 ≤ nl ∧ nl ≤ 4) (hnb : 1 ≤ nb ∧ nb ≤ 64) (w : World) (h : SlB lo w A nl c ls) (hs : SlI .i64 w A1 n c1 ks) (hr : ∀ l ∈ ls, l.length = nb) (hp : ∀ j, j < nl → (binAt ls ks j).p ≤ 65536) :
    Calls Try.prog 34 #[.agg (rbC A nl c target hold up down), .slice A1 n c1] w fun e w' => e = .returned (.int .i64 (if flowsB nl nb ks = true then markN nb ks ls.flatten nl else 0)) ∧ Below w.heap.size w w' := by
  have HS := Lib.hid h
  have HI := Lib.hid hs
  have HR := Lib.hid hr
  have HP := Lib.hid hp
  obtain ⟨W, hW⟩ : ∃ W, W = w.alloc (.cells (rbC A nl c target hold up down) 65) := ⟨_, rfl⟩
  have HB := Lib.hid (show Below w.heap.size w W by rw [hW]; exact bl_alloc (Below.refl w.heap.size w) _)
  have HO := Lib.hid (show Obj1 W w.heap.size (rbC A nl c target hold up down) 65 by rw [hW]; exact Obj1.new w _ _)
  have HW := Lib.hid hW
  clear hW h hs hr hp
  obtain ⟨R, hR⟩ : ∃ R : Int, R = (if flowsB nl nb ks = true then markN nb ks ls.flatten nl else 0) := ⟨_, rfl⟩
  rw [← hR]
  have HRR := Lib.hid hR
  clear hR
  go_enter Try.func34, Try.ntmps34
  go_upto_region 1 with (fail)
  rw [← HW.out]
  clear HW
  go_wp2_with (refine load_obj rfl 65 (.tmp 2) rfl w.heap.size 65 (rbC A nl c target hold up down) _ rfl HO.out Try.underlying65 rfl rfl ?_)
  refine (rflows_w target hold up down A A1 nl c n c1 nb lo ls ks hnl hnb _ (HS.out.below HB.out) (HI.out.below HB.out) HR.out).mono ?_
  rintro e w2 ⟨rfl, hb2⟩
  have HB2 := Lib.hid (bl_next HB.out hb2)
  have HO2 := Lib.hid (HO.out.below hb2)
  clear hb2 HB HO
  cases hf : flowsB nl nb ks with
  | false =>
    have HF := Lib.hid hf
    clear hf
    go_wp2
    go_ret
    have h0 : R = 0 := by rw [HRR.out, HF.out]; rfl
    exact ⟨by rw [h0]; rfl, HB2.out⟩
  | true =>
    have HF := Lib.hid hf
    clear hf
    have HRN := Lib.hid (show R = markN nb ks ls.flatten nl by rw [HRR.out, HF.out]; rfl)
    clear HRR
    go_wp2_with (refine load_obj rfl 65 (.tmp 2) rfl w.heap.size 65 (rbC A nl c target hold up down) _ rfl HO2.out Try.underlying65 rfl rfl ?_)
    refine (rof_w target hold up down A A1 nl c n c1 nb lo ls ks hnl hnb HF.out _ (HS.out.below HB2.out) (HI.out.below HB2.out) HR.out).mono ?_
    rintro e w3 ⟨v, rfl, hown, hb3⟩
    obtain ⟨A3, c3, rfl, hs3⟩ := SlR.of_own hown (ofN_length ls ks nl)
    have HS3 := Lib.hid hs3
    have HB3 := Lib.hid (bl_next HB2.out hb3)
    clear hown hb3 hs3 HO2
    obtain ⟨b3, o3, rfl, _, _, p0⟩ := HS3.out.bn (ofN_at ls ks nl 0 (by omega))
    rw [Nat.zero_mul, Nat.add_zero] at p0
    have hl0 : (0 : Int) < (nl : Int) := by omega
    go_wp2_with fail
    go_loopw [6, 21] (fun o i wr => ∃ (k : Nat), k ≤ nl ∧ i = .int .i64 k ∧ o = .int .i64 (markR nb ks ls k) ∧ w3 = wr) (fun _ i _ => nl - (intOf i).toNat)
    case atStart => exact ⟨0, Nat.zero_le _, rfl, rfl, rfl⟩
    case round =>
      obtain ⟨k, hk, rfl, rfl, rfl⟩ := hrel
      clear p0
      by_cases hlt : k < nl
      · have hk0 : (0 : Int) ≤ (k : Int) := Int.natCast_nonneg k
        have hk1 : (k : Int) < (nl : Int) := by omega
        obtain ⟨b4, o4, hA4, _, _, p1⟩ := HS3.out.bn (ofN_at ls ks nl k hlt)
        cases hA4
        have HST := Lib.hid (markR_step HR.out ((flowsB_at HF.out).2 k hlt) (HP.out k hlt))
        obtain ⟨p, hpp⟩ : ∃ p, p = (binAt ls ks k).p := ⟨_, rfl⟩
        obtain ⟨o, hoo⟩ : ∃ o, o = markR nb ks ls k := ⟨_, rfl⟩
        rw [← hpp, ← hoo] at HST
        rw [← hpp] at p1
        rw [← hoo]
        clear hpp hoo
        by_cases hlo : p < o
        · have HE := Lib.hid (HST.out.trans (if_pos hlo))
          have hle : ¬ o ≤ p := by omega
          go_wp2_with fail
          go_roundw
          case rel => exact ⟨k + 1, by omega, by go_num, by rw [HE.out], trivial⟩
          case measure => simp [intOf]; omega
        · have HE := Lib.hid (HST.out.trans (if_neg hlo))
          have hle : o ≤ p := by omega
          go_wp2_with fail
          go_roundw
          case rel => exact ⟨k + 1, by omega, by go_num, by rw [HE.out], trivial⟩
          case measure => simp [intOf]; omega
      · obtain rfl : k = nl := by omega
        obtain ⟨q, rfl⟩ : ∃ q, k = q + 1 := ⟨k - 1, by omega⟩
        rw [show markR nb ks ls (q + 1) = markN nb ks ls.flatten (q + 1) from rfl]
        go_wp2
        go_ret
        exact ⟨by rw [HRN.out]; rfl, HB3.out⟩
end Go.Proofs.Ytcgabjjdffcjbaa
