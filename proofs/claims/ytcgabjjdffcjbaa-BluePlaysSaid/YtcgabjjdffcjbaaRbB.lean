/- The document's Flows. -/
import Derived.Test.YtcgabjjdffcjbaaRbA
namespace Go.Proofs.Ytcgabjjdffcjbaa
open Go.RowKit
set_option linter.unusedVariables false
set_option linter.unusedSimpArgs false

set_option maxRecDepth 100000 in
set_option maxHeartbeats 4000000 in
theorem rflows_w (target hold up down : Int) (A A1 : Option Addr) (nl c n c1 nb lo : Nat) (ls : List (List Bn)) (ks : List Int) (hnl : 1 ≤ nl ∧ nl ≤ 4) (hnb : 1 ≤ nb ∧ nb ≤ 64) (w : World) (h : SlB lo w A nl c ls) (hs : SlI .i64 w A1 n c1 ks) (hr : ∀ l ∈ ls, l.length = nb) :
    Calls Try.prog 28 #[.agg (rbC A nl c target hold up down), .slice A1 n c1] w fun e w' => e = .returned (.bool (flowsB nl nb ks)) ∧ Below w.heap.size w w' := by
  have HL := Lib.hid (bl_alloc (Below.refl w.heap.size w) (.cells (rbC A nl c target hold up down) 65))
  have HS := Lib.hid (h.below HL.out)
  have HI := Lib.hid (hs.below HL.out)
  have HO := Lib.hid (Obj1.new w (rbC A nl c target hold up down) 65)
  have hn : n ≤ 9223372036854775807 := Nat.le_trans hs.2.1 hs.2.2.1
  have hlen : ks.length = n := hs.1
  have HR := Lib.hid hr
  clear h hs hr
  obtain ⟨W1, hW1⟩ : ∃ W1, W1 = w.alloc (.cells (rbC A nl c target hold up down) 65) := ⟨_, rfl⟩
  rw [← hW1] at HS HI HO HL
  have HW1 := Lib.hid hW1
  clear hW1
  obtain ⟨B, hB⟩ : ∃ B, B = w.heap.size := ⟨_, rfl⟩
  rw [← hB] at HO
  have HBB := Lib.hid hB
  have c0 : W1.cell? ⟨B, 0, none⟩ = some (.slice A nl c) := HO.out.cell 0
  have HFA := Lib.hid (flowsP_all (nl := nl) (nb := nb) (ks := ks) (by omega))
  have HLN := Lib.hid hlen
  clear hlen
  have hst : ((n : Int) == (nl : Int)) = decide (n = nl) := by
    by_cases he : n = nl
    · simp [he]
    · have : ¬ (n : Int) = (nl : Int) := by omega
      simp [he, this]
  have hst2 : decide ((n : Int) = (nl : Int)) = decide (n = nl) := by
    by_cases he : n = nl
    · simp [he]
    · have : ¬ (n : Int) = (nl : Int) := by omega
      simp [he, this]
  have HST := Lib.hid hst
  have HST2 := Lib.hid hst2
  clear hst hst2
  go_enter Try.func28, Try.ntmps28
  go_upto_region 1 with (fail)
  rw [← HW1.out, ← hB]
  clear hB
  go_cut [1, 2, 5] from 1 to 2 (fun s1 s2 v wx => s1 = .slice A1 n c1 ∧ s2 = .pointer (some ⟨B, 0, none⟩) ∧ v = .bool (flowsP nl nb ks n 0) ∧ W1 = wx)
  · by_cases he : n = nl
    · have hd : flowsP nl nb ks n 0 = true := by simp [flowsP, he]; omega
      have HD := Lib.hid hd
      have hp : 0 < n := by omega
      have hp2 : (0 : Int) < (n : Int) := by omega
      have d0 : decide ((0 : Int) < (n : Int)) = true := decide_eq_true hp2
      have d1 : ((n : Int) == (nl : Int)) = true := by simp [he]
      have d2 : decide ((n : Int) = (nl : Int)) = true := by simp [he]
      clear he hd
      go_wp2_with fail
      go_meet
      case rel => exact ⟨rfl, rfl, by rw [HD.out], rfl⟩
    · have hd : flowsP nl nb ks n 0 = false := by simp [flowsP, he]
      have HD := Lib.hid hd
      have hne : ¬ (n : Int) = (nl : Int) := by omega
      have d1 : ((n : Int) == (nl : Int)) = false := by simp [hne]
      have d2 : decide ((n : Int) = (nl : Int)) = false := by simp [hne]
      clear he hd
      go_wp2_with fail
      go_meet
      case rel => exact ⟨rfl, rfl, by rw [HD.out], rfl⟩
  case rest =>
  obtain ⟨rfl, rfl, rfl, rfl⟩ := hcut
  go_wp2_with fail
  go_loopw [5, 20] (fun v i wr => ∃ (k : Nat), k ≤ n ∧ i = .int .i64 k ∧ v = .bool (flowsP nl nb ks n k) ∧ Below W1.heap.size W1 wr) (fun _ i _ => n - (intOf i).toNat)
  case atStart => exact ⟨0, Nat.zero_le _, rfl, rfl, Below.refl _ _⟩
  case round =>
    obtain ⟨k, hk, rfl, rfl, hbw⟩ := hrel
    have HS2 := Lib.hid (HS.out.below hbw)
    have HI2 := Lib.hid (HI.out.below hbw)
    have HO2 := Lib.hid (HO.out.below hbw)
    have HBW := Lib.hid hbw
    clear hbw c0
    have c0 : wr.cell? ⟨B, 0, none⟩ = some (.slice A nl c) := HO2.out.cell 0
    by_cases hlt : k < n
    · have hk0 : (0 : Int) ≤ (k : Int) := Int.natCast_nonneg k
      have hk1 : (k : Int) < (n : Int) := by omega
      cases hb : flowsP nl nb ks n k with
      | false =>
        have HF := Lib.hid (flowsP_no nl nb ks n hb (k + 1) (by omega))
        clear hb
        go_wp2_with fail
        go_quiet (fail)
        go_wp2_with fail
        go_roundw
        case rel => exact ⟨k + 1, by omega, by go_num, by rw [HF.out], bl_drewN HBW.out _⟩
        case measure => simp [intOf]; omega
      | true =>
        have HN := Lib.hid (flowsP_yes hb).1.1
        have hkl : k < nl := by have := HN.out; omega
        have hkl2 : (k : Int) < (nl : Int) := by omega
        have hkd : decide ((k : Int) < (nl : Int)) = true := decide_eq_true hkl2
        have HFS := Lib.hid (show flowsP nl nb ks n (k + 1) = (decide (0 ≤ nth ks k) && decide (nth ks k < (nb : Int))) by simp [flowsP, hb, hkl])
        obtain ⟨l, hl⟩ : ∃ l, ls[k]? = some l := ⟨_, List.getElem?_eq_getElem (by rw [HS2.out.len]; exact hkl)⟩
        have hll : l.length = nb := HR.out l (List.mem_of_getElem? hl)
        obtain ⟨b0, o0, a0, m0, d0, rfl, r0, hs0⟩ := HS2.out.at hl
        obtain rfl : nb = m0 := by rw [← hll, hs0.1]
        obtain ⟨ad, rfl, hc, hw⟩ := HI2.out.at k hlt
        have hr := i64_range hw
        clear hw hs0 hll hl hb
        obtain ⟨x, hx⟩ : ∃ x, nth ks k = x := ⟨_, rfl⟩
        have HX := Lib.hid hx
        rw [hx] at hc hr
        clear hx
        by_cases hlo : 0 ≤ x
        · have e1 : decide (0 ≤ x) = true := decide_eq_true hlo
          have e1b : decide (x ≥ 0) = true := decide_eq_true hlo
          cases hhi : decide (x < (nb : Int)) with
          | false =>
            have hn1 : ¬ x < (nb : Int) := of_decide_eq_false hhi
            have HF := Lib.hid (show flowsP nl nb ks n (k + 1) = false by rw [HFS.out, HX.out]; simp [hn1])
            go_wp2_with fail
            go_quiet (fail)
            go_wp2_with fail
            go_roundw
            case rel => exact ⟨k + 1, by omega, by go_num, by rw [HF.out], bl_drewN HBW.out _⟩
            case measure => simp [intOf]; omega
          | true =>
            have hn1 : x < (nb : Int) := of_decide_eq_true hhi
            have HF := Lib.hid (show flowsP nl nb ks n (k + 1) = true by rw [HFS.out, HX.out]; simp [hn1, hlo])
            go_wp2_with fail
            go_quiet (fail)
            go_wp2_with fail
            go_roundw
            case rel => exact ⟨k + 1, by omega, by go_num, by rw [HF.out], bl_drewN HBW.out _⟩
            case measure => simp [intOf]; omega
        · have e1 : decide (0 ≤ x) = false := decide_eq_false hlo
          have e1b : decide (x ≥ 0) = false := decide_eq_false hlo
          have HF := Lib.hid (show flowsP nl nb ks n (k + 1) = false by rw [HFS.out, HX.out]; simp [hlo])
          go_wp2_with fail
          go_quiet (fail)
          go_wp2_with fail
          go_roundw
          case rel => exact ⟨k + 1, by omega, by go_num, by rw [HF.out], bl_drewN HBW.out _⟩
          case measure => simp [intOf]; omega
    · obtain rfl : k = n := by omega
      have HF := Lib.hid (show flowsP nl nb ks k k = flowsB nl nb ks by have := HFA.out; rw [HLN.out] at this; exact this)
      rw [HF.out]
      go_wp2
      go_ret
      exact ⟨rfl, bl_next HL.out HBW.out⟩
end Go.Proofs.Ytcgabjjdffcjbaa
