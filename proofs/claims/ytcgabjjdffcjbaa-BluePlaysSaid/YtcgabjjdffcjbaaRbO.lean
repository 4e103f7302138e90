/- same: all bins are what the document says. -/
import Derived.Test.YtcgabjjdffcjbaaRbN
namespace Go.Proofs.Ytcgabjjdffcjbaa
open Go.RowKit
set_option linter.unusedVariables false
set_option linter.unusedSimpArgs false

set_option maxRecDepth 100000 in
set_option maxHeartbeats 4000000 in
theorem same_w (B D N nl nb : Nat) (target hold up down target' hold' up' down' : Int) (A : Option Addr) (c lo : Nat) (ls : List (List Bn)) (hnl : 1 ≤ nl ∧ nl ≤ 4) (hnb : 1 ≤ nb ∧ nb ≤ 64) (w : World)
    (hBl : Obj1 w B (blueC D N nl nb target hold up down) 77) (hD : Obj1 w D (binsC ls.flatten) 82) (hN : N = nl * nb) (h : SlB lo w A nl c ls) (hr : ∀ l ∈ ls, l.length = nb) :
    Calls Try.prog 35 #[.pointer (some ⟨B, 0, none⟩), .agg (rbC A nl c target' hold' up' down')] w fun e w' => e = .returned (.bool true) ∧ Below w.heap.size w w' := by
  obtain ⟨W, hW⟩ : ∃ W, W = w.alloc (.cells (rbC A nl c target' hold' up' down') 65) := ⟨_, rfl⟩
  have HB := Lib.hid (show Below w.heap.size w W by rw [hW]; exact bl_alloc (Below.refl w.heap.size w) _)
  have HO := Lib.hid (show Obj1 W w.heap.size (rbC A nl c target' hold' up' down') 65 by rw [hW]; exact Obj1.new w _ _)
  have HBL := Lib.hid (hBl.below HB.out)
  have HD := Lib.hid (hD.below HB.out)
  have HS := Lib.hid (h.below HB.out)
  have HR := Lib.hid hr
  have HN := Lib.hid hN
  have hll : ls.flatten.length = N := by rw [flat_len hr, h.len, hN]
  have HLL := Lib.hid hll
  have HW := Lib.hid hW
  clear hW hBl hD h hr hN hll
  have c0 : W.cell? ⟨w.heap.size, 0, none⟩ = some (.slice A nl c) := HO.out.cell 0
  go_enter Try.func35, Try.ntmps35
  go_upto_region 1 with (fail)
  rw [← HW.out]
  clear HW
  go_wp2_with fail
  go_loopw [16] (fun i wr => ∃ (j : Nat), j ≤ nl ∧ i = .int .i64 j ∧ Below W.heap.size W wr) (fun i _ => nl - (intOf i).toNat)
  case atStart => exact ⟨0, Nat.zero_le _, rfl, Below.refl _ _⟩
  case round =>
    obtain ⟨j, hj, rfl, hb⟩ := hrel
    have HX := Lib.hid hb
    clear hb c0
    by_cases hjl : j < nl
    · have hj0 : (0 : Int) ≤ (j : Int) := Int.natCast_nonneg j
      have hj1 : (j : Int) < (nl : Int) := by omega
      obtain ⟨l, hl⟩ : ∃ l, ls[j]? = some l := ⟨_, List.getElem?_eq_getElem (by rw [HS.out.len]; exact hjl)⟩
      have hll : l.length = nb := HR.out l (List.mem_of_getElem? hl)
      obtain ⟨b0, o0, a0, m0, d0, rfl, ra, hs0⟩ := HS.out.at hl
      obtain rfl : nb = m0 := by rw [← hll, hs0.1]
      have RA := Lib.hid ra
      have RS := Lib.hid hs0
      have HL := Lib.hid hl
      have HL2 := Lib.hid hll
      clear ra hs0 hl hll
      have c0 : wr.cell? ⟨w.heap.size, 0, none⟩ = some (.slice (some ⟨b0, o0, none⟩) nl c) := (HO.out.below HX.out).cell 0
      have cr : wr.cell? ⟨b0, o0 + j, none⟩ = some (.slice a0 nb d0) := bl_keeps HX.out RA.out
      go_wp2_with fail
      go_loopw [25] (fun i wx => ∃ (q : Nat), q ≤ nb ∧ i = .int .i64 q ∧ Below W.heap.size W wx) (fun i _ => nb - (intOf i).toNat)
      case atStart => exact ⟨0, Nat.zero_le _, rfl, HX.out⟩
      case round =>
        obtain ⟨q, hq, rfl, hb2⟩ := hrel
        have HY := Lib.hid hb2
        clear hb2 c0 cr
        by_cases hql : q < nb
        · have hq0 : (0 : Int) ≤ (q : Int) := Int.natCast_nonneg q
          have hq1 : (q : Int) < (nb : Int) := by omega
          obtain ⟨x, hx⟩ : ∃ x, l[q]? = some x := ⟨_, List.getElem?_eq_getElem (by rw [HL2.out]; exact hql)⟩
          have hfl : ls.flatten[j * nb + q]? = some x := by rw [flat_at HR.out hql, HL.out]; exact hx
          go_wp2_with fail
          refine (blueBin_w B D N nl nb j q target hold up down ls.flatten x _ (HBL.out.below HY.out) (HD.out.below HY.out) HLL.out HN.out hnb.2 hnl.2 hjl hql hfl).mono ?_
          rintro e w4 ⟨rfl, hb4⟩
          have HZ := Lib.hid (bl_next HY.out hb4)
          obtain ⟨b1, o1, rfl, r0, _, r2⟩ := RS.out.bn hx
          have c0 : w4.cell? ⟨w.heap.size, 0, none⟩ = some (.slice (some ⟨b0, o0, none⟩) nl c) := (HO.out.below HZ.out).cell 0
          have cr : w4.cell? ⟨b0, o0 + j, none⟩ = some (.slice (some ⟨b1, o1, none⟩) nb d0) := bl_keeps HZ.out RA.out
          have s0 := bl_keeps HZ.out r0
          have s2 := bl_keeps HZ.out r2
          clear hb4 r0 r2 hx hfl
          go_wp2_with fail
          go_roundw
          case rel => exact ⟨q + 1, by omega, by go_num, HZ.out⟩
          case measure => simp [intOf]; omega
        · obtain rfl : q = nb := by omega
          go_wp2_with fail
          go_roundw
          case rel => exact ⟨j + 1, by omega, by go_num, HY.out⟩
          case measure => simp [intOf]; omega
    · obtain rfl : j = nl := by omega
      have c0 : wr.cell? ⟨w.heap.size, 0, none⟩ = some (.slice A j c) := (HO.out.below HX.out).cell 0
      go_wp2_with fail
      refine (blueBin_high_w B D N j nb target hold up down _ (HBL.out.below HX.out)).mono ?_
      rintro e w' ⟨rfl, rfl⟩
      go_wp2_with fail
      refine (blueBin_low_w B D N j nb target hold up down hnl.1 _ (HBL.out.below HX.out)).mono ?_
      rintro e w' ⟨rfl, rfl⟩
      go_wp2
      go_ret
      exact ⟨rfl, bl_next HB.out HX.out⟩
end Go.Proofs.Ytcgabjjdffcjbaa
