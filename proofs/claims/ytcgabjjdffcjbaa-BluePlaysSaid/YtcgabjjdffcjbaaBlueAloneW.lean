/- The walk of BlueAlone: it answers true. -/
import Derived.Test.YtcgabjjdffcjbaaBlueF
namespace Go.Proofs.Ytcgabjjdffcjbaa
open Go.RowKit
set_option linter.unusedVariables false
set_option linter.unusedSimpArgs false

/-- Setup's cells. -/
def setC (levels bins up down target hold : Int) : Array Value := #[.int .i64 levels, .int .i64 bins, .int .i64 up, .int .i64 down, .int .i64 target, .int .i64 hold]
/-- Is this setup one that may be? -/
def setOk (levels bins up down target hold : Int) : Prop := 1 ≤ levels ∧ levels ≤ 4 ∧ 1 ≤ bins ∧ bins ≤ 64 ∧ 0 ≤ hold ∧ hold ≤ 4611686018427387903 ∧ (0 ≤ target ∧ target ≤ 1073741824 ∧ 0 ≤ up ∧ up ≤ 65536 ∧ 0 ≤ down ∧ down ≤ 65536)

theorem sl_lt2 {w : World} {C : Nat} {n c : Nat} {ks : List Int} {k : IntKind} (h : SlI k w (some ⟨C, 0, none⟩) n c ks) (hn : 0 < n) : C < w.heap.size := by
  obtain ⟨ad, e, hc, _⟩ := h.at 0 hn
  cases e
  rw [add_flat] at hc
  exact cell_lt hc

theorem own_if {target : Int} {l : List Bn} {f : Bn → Bn} (hf : ∀ b, okBn b → okBn (f b)) (nb : Nat) (hnb : 0 < nb) (ks : List Int) (j : Nat) (bb : Bool) (h : Own0 target l) (hok : ∀ b ∈ l, okBn b) (hk : bb = true → ¬ nth ks 0 ≤ 0) :
    (if bb = true then updN f nb ks j l else l).length = l.length ∧ (∀ b ∈ (if bb = true then updN f nb ks j l else l), okBn b) ∧ Own0 target (if bb = true then updN f nb ks j l else l) := by
  cases bb
  · exact ⟨rfl, hok, h⟩
  · rw [if_pos rfl]
    exact ⟨updN_length f nb ks j l, ok_updN hf nb ks j l hok, own0_others h f nb hnb ks j (hk rfl)⟩

set_option maxRecDepth 100000 in
set_option maxHeartbeats 3000000 in
theorem BlueAlone_x (levels bins up down target hold : Int) (A : Option Addr) (n c : Nat) (rows : List (List Value)) (w : World)
    (r0 : -9223372036854775808 ≤ levels ∧ levels ≤ 9223372036854775807) (r1 : -9223372036854775808 ≤ bins ∧ bins ≤ 9223372036854775807) (hs : SlQ [.i .u8, .sl .i64, .i .i64] w A n c rows) :
    Calls Try.prog 7 #[.agg (setC levels bins up down target hold), .slice A n c] w fun e w' => e = .returned (.bool true) ∧ Below w.heap.size w w' := by
  have hn : n ≤ 9223372036854775807 := Nat.le_trans hs.2.1 hs.2.2.1
  have HS := Lib.hid hs
  clear hs
  unfold setC
  have hE := Lib.hid (Obj1.new w #[.int .i64 levels, .int .i64 bins, .int .i64 up, .int .i64 down, .int .i64 target, .int .i64 hold] 46)
  have hBE := Lib.hid (bl_alloc (Below.refl w.heap.size w) (.cells #[.int .i64 levels, .int .i64 bins, .int .i64 up, .int .i64 down, .int .i64 target, .int .i64 hold] 46))
  go_enter Try.func7, Try.ntmps7
  go_wp2_with fail
  refine (awake20_w _).mono ?_
  rintro e w1 ⟨rfl, hb1⟩
  have HE1 := Lib.hid (hE.out.below hb1)
  have HW1 := Lib.hid (bl_next hBE.out hb1)
  clear hb1
  go_wp2_with fail
  refine (few_w A n c rows _ (HS.out.below HW1.out)).mono ?_
  rintro e w' ⟨⟨fw, rfl, hfw⟩, rfl⟩
  have HFW := Lib.hid hfw
  clear hfw
  cases fw
  · go_wp2_with fail
    refine (awake20_w _).mono ?_
    rintro e w2 ⟨rfl, hb2⟩
    have HW2 := Lib.hid (bl_next HW1.out hb2)
    clear hb2
    go_wp2
    go_ret
    exact ⟨rfl, HW2.out⟩
  · have e0 : w1.cell? ⟨w.heap.size, 0, none⟩ = some (.int .i64 levels) := HE1.out.cell 0
    have e1 : w1.cell? ⟨w.heap.size, 1, none⟩ = some (.int .i64 bins) := HE1.out.cell 1
    have e2 : w1.cell? ⟨w.heap.size, 2, none⟩ = some (.int .i64 up) := HE1.out.cell 2
    have e3 : w1.cell? ⟨w.heap.size, 3, none⟩ = some (.int .i64 down) := HE1.out.cell 3
    have e4 : w1.cell? ⟨w.heap.size, 4, none⟩ = some (.int .i64 target) := HE1.out.cell 4
    have e5 : w1.cell? ⟨w.heap.size, 5, none⟩ = some (.int .i64 hold) := HE1.out.cell 5
    by_cases hok : setOk levels bins up down target hold
    · obtain ⟨o1, o2, o3, o4, o5, o6, o7, o8, o9, o10, o11, o12⟩ := hok
      obtain ⟨nl, rfl⟩ := Int.eq_ofNat_of_zero_le (show 0 ≤ levels by omega)
      obtain ⟨nb, rfl⟩ := Int.eq_ofNat_of_zero_le (show 0 ≤ bins by omega)
      go_wp2_with fail
      refine (blueNew_w nl nb target hold up down _ (by omega) (by omega) (by omega) (by omega) (by omega) (by omega)).mono ?_
      rintro e w2 ⟨rfl, ho1, ho2, hb2⟩
      obtain ⟨D, hD⟩ : ∃ D, D = w1.heap.size := ⟨_, rfl⟩
      rw [← hD] at ho1 ho2
      rw [← hD]
      have hDw2 : D < w2.heap.size := ho2.lt
      have hBw2 : D + 1 < w2.heap.size := ho1.lt
      have hwD : w.heap.size ≤ D := by have := HW1.out.size; omega
      have hED : w.heap.size < D := by have := HE1.out.lt; omega
      have HO1 := Lib.hid ho1
      have HO2 := Lib.hid ho2
      have HE2 := Lib.hid (HE1.out.below hb2)
      have HW2 := Lib.hid (bl_next HW1.out hb2)
      have g0 : w2.cell? ⟨w.heap.size, 0, none⟩ = some (.int .i64 nl) := HE2.out.cell 0
      have g1 : w2.cell? ⟨w.heap.size, 1, none⟩ = some (.int .i64 nb) := HE2.out.cell 1
      have g4 : (w2.alloc (.cells (Array.replicate nl (.int .i64 0)) 3)).cell? ⟨w.heap.size, 4, none⟩ = some (.int .i64 target) := (HE2.out.alloc _).cell 4
      clear ho1 ho2 hb2 hD e0 e1 e2 e3 e4 e5
      by_cases hb2 : nb < 2
      · have hb2' : (nb : Int) < 2 := by omega
        go_wp2
        go_ret
        exact ⟨rfl, HW2.out⟩
      · have hb2' : ¬ (nb : Int) < 2 := by omega
        have hmk : ∀ W : World, (Instr.makeSlice 52 (.int .i64 (nl : Int)) (.int .i64 (nl : Int))).run Try.prog W = .ok (.slice (some ⟨W.heap.size, 0, none⟩) nl nl) (W.alloc (.cells (Array.replicate nl (.int .i64 0)) 3)) := fun W => make_ints Try.underlying52 (by kernel_rfl) nl (by omega) W
        go_wp2_with fail
        obtain ⟨C, hC⟩ : ∃ C, C = w2.heap.size := ⟨_, rfl⟩
        have hO := Obj1.new w2 (Array.replicate nl (.int .i64 0)) 3
        have hsl := SlI.of_obj (k := .i64) (l := List.replicate nl (0 : Int)) (by rw [zeros_ints]; exact hO) (by simp; omega) (by intro x hx; rw [List.mem_replicate] at hx; rw [hx.2]; decide)
        rw [List.length_replicate] at hsl
        have HSL := Lib.hid hsl
        rw [← hC] at HSL hDw2 hBw2 ⊢
        clear hsl hO hC hmk
        obtain ⟨N, hN⟩ : ∃ N, N = nl * nb := ⟨_, rfl⟩
        rw [← hN] at HO1 HO2
        have HN := Lib.hid hN
        clear hN
        have hCD : C ≠ D := by omega
        obtain ⟨ks0, hks0⟩ : ∃ ks0, ks0 = List.replicate nl (0 : Int) := ⟨_, rfl⟩
        rw [← hks0] at HSL
        have hk00 : nth ks0 0 = 0 := by rw [hks0]; unfold nth; rw [List.getD_eq_getElem?_getD, List.getElem?_replicate, if_pos (by omega)]; rfl
        have hfl : flowsB nl nb ks0 = true := by
          rw [hks0]
          refine flowsB_all (by simp) (fun j hj => ?_)
          unfold nth
          rw [List.getD_eq_getElem?_getD, List.getElem?_replicate, if_pos hj]
          show 0 ≤ (0 : Int) ∧ (0 : Int) < nb
          omega
        have HFL := Lib.hid hfl
        have hmay : mayV target = true := by unfold mayV; simp; omega
        have HMAY := Lib.hid hmay
        have HK00 := Lib.hid hk00
        clear hks0 hk00 hfl hmay
        have hNN : 0 < N := by rw [HN.out]; exact Nat.mul_pos (by omega) (by omega)
        refine (bluePut_w (D + 1) D N nl nb target hold up down target _ nl nl ks0 _ _ (HO1.out.alloc _) (HO2.out.alloc _) HSL.out (by simp) HN.out (by omega) (by omega) (by omega) (fun _ ad e => by cases e; exact hCD) (by omega)).mono ?_
        rw [HFL.out, HMAY.out, Bool.true_and, if_pos rfl]
        rintro e w3 ⟨rfl, hd3, hu3⟩
        have hl3 : ∃ l, Obj1 w3 D (binsC l) 82 ∧ l.length = N ∧ (∀ b ∈ l, okBn b) ∧ Own0 target l := by
          refine ⟨_, hd3, by rw [updN_length]; simp, ok_updN (ok_put target) nb ks0 nl _ (fun b hb => by rw [List.mem_replicate] at hb; rw [hb.2]; exact ⟨by decide, by decide, by decide⟩), ?_⟩
          refine ⟨putF target ⟨0, 0, 0⟩, ?_, ?_, rfl⟩
          · rw [updN_zero _ nb (by omega) ks0 _ nl, if_pos ⟨by omega, by rw [HK00.out]; exact Int.le_refl _⟩, List.getElem?_replicate, if_pos hNN]
            rfl
          · show plus (cnt 0) target ≤ target
            unfold plus
            rw [show cnt 0 = 0 by decide, cnt_id target o7 (by omega)]
            split <;> omega
        obtain ⟨l3, hd3', hll3, hok3, hown3⟩ := hl3
        have HD3 := Lib.hid hd3'
        have HOK3 := Lib.hid hok3
        have HOWN3 := Lib.hid hown3
        have HB3 := Lib.hid (Obj1.of_grown (HO1.out.alloc _) hu3 (by simp))
        have HSL3 := Lib.hid (HSL.out.updd hu3 hCD)
        have HW3 := Lib.hid (bl_upd (bl_alloc HW2.out _) hu3 hwD)
        clear hd3 hd3' hu3 hok3 hown3 g0 g1 g4
        go_wp2_with fail
        go_loopw [57] (fun i wr => ∃ (k : Nat) (l : List Bn), k ≤ n ∧ i = .int .i64 k ∧ l.length = N ∧ (∀ b ∈ l, okBn b) ∧ Own0 target l ∧ Obj1 wr D (binsC l) 82 ∧ Obj1 wr (D + 1) (blueC D N nl nb target hold up down) 77 ∧ SlI .i64 wr (some ⟨C, 0, none⟩) nl nl ks0 ∧ Below w.heap.size w wr) (fun i _ => n - (intOf i).toNat)
        case atStart => exact ⟨0, l3, Nat.zero_le _, rfl, hll3, HOK3.out, HOWN3.out, HD3.out, HB3.out, HSL3.out, HW3.out⟩
        case round =>
          obtain ⟨k, l, hk, rfl, hll, hok, hown, hobj, hbl, hsl, hbel⟩ := hrel
          have HOK := Lib.hid hok
          have HOWN := Lib.hid hown
          have HO := Lib.hid hobj
          have HBL := Lib.hid hbl
          have HSLr := Lib.hid hsl
          have HW := Lib.hid hbel
          clear hok hown hobj hbl hsl hbel
          by_cases hlt : k < n
          · obtain ⟨sb, so, kd, a, m, d, ks, nn, rfl, c0', c1', c2', hsa0, wkd, wnn⟩ := HS.out.act k hlt
            have c0 := bl_keeps HW.out c0'
            have c1 := bl_keeps HW.out c1'
            have c2 := bl_keeps HW.out c2'
            have hkd := u8_range wkd
            have hnn := i64_range wnn
            have hk0 : (0 : Int) ≤ (k : Int) := Int.natCast_nonneg k
            have hk1 : (k : Int) < (n : Int) := by omega
            have HSA := Lib.hid (hsa0.below HW.out)
            have hlen : ks.length = m := hsa0.1
            have hact : (m = 0 ∨ 0 < m ∧ ¬ nth ks 0 = 0) ∨ (0 < m ∧ nth ks 0 = 0) := by omega
            have hq : 0 < m → ∃ ad, a = some ad ∧ ad.block < w.heap.size ∧ (wr.alloc (.cells #[.int .u8 kd, .slice a m d, .int .i64 nn] 55)).cell? ad = some (.int .i64 (nth ks 0)) ∧ (wr.alloc (.cells #[.int .u8 kd, .slice a m d, .int .i64 nn] 55)).cell? (ad.add 0) = some (.int .i64 (nth ks 0)) := fun h => by
              obtain ⟨ad, e, hc, _⟩ := hsa0.at 0 h
              have hadd : ad.add 0 = ad := by simp [Addr.add]
              rw [hadd] at hc
              have hc2 := bl_keeps (bl_alloc (Below.refl wr.heap.size wr) (.cells #[.int .u8 kd, .slice a m d, .int .i64 nn] 55)) (bl_keeps HW.out hc)
              exact ⟨ad, e, cell_lt hc, hc2, by rw [hadd]; exact hc2⟩
            have HQ := Lib.hid hq
            clear wkd wnn hsa0 c0' c1' c2' hq
            rcases hact with hact | ⟨hm0, hx0⟩
            · have hcond : flowsB nl nb ks = true → ¬ nth ks 0 ≤ 0 := fun h => by
                have h2 := flowsB_at h
                have h3 := h2.2 0 (by omega)
                omega
              have HCOND := Lib.hid hcond
              have hneA : 0 < m → ∀ ad, a = some ad → ad.block ≠ D := fun h ad e => by
                obtain ⟨ad', e', h2, _⟩ := HQ.out h
                rw [e] at e'
                cases e'
                omega
              have HNEA := Lib.hid hneA
              clear hcond hneA
              have hk3 : kd % 3 = 0 ∨ kd % 3 = 1 ∨ kd % 3 = 2 := by omega
              rcases hact with rfl | ⟨hm0, hx0⟩
              · clear HQ
                rcases hk3 with h3 | h3 | h3
                · go_wp2_with (refine load_cells rfl 55 (.tmp 62) rfl ⟨sb, so + k * 3, none⟩ [.int .u8 kd, .slice a 0 d, .int .i64 nn] _ rfl (three_cells c0 c1 c2) Try.underlying55 rfl (by kernel_rfl) ?_)
                  refine (bluePut_w (D + 1) D N nl nb target hold up down nn a 0 d ks l _ (HBL.out.alloc _) (HO.out.alloc _) (HSA.out.below (bl_alloc (Below.refl _ _) _)) hll HN.out (by omega) (by omega) (by omega) HNEA.out hnn).mono ?_
                  rintro e w5 ⟨rfl, hd5, hu5⟩
                  have hl5 : ∃ l5, Obj1 w5 D (binsC l5) 82 ∧ l5.length = N ∧ (∀ b ∈ l5, okBn b) ∧ Own0 target l5 := by
                    have h0 := own_if (f := putF nn) (ok_put nn) nb (by omega) ks nl (mayV nn && flowsB nl nb ks) HOWN.out HOK.out (fun h => by have h1 := HCOND.out (by simp at h; exact h.2); omega)
                    exact ⟨_, hd5, by rw [h0.1]; exact hll, h0.2.1, h0.2.2⟩
                  have hB5 := Obj1.of_grown (HBL.out.alloc (.cells #[.int .u8 kd, .slice a 0 d, .int .i64 nn] 55)) hu5 (by simp)
                  have hS5 := (HSLr.out.below (bl_alloc (Below.refl _ _) (.cells #[.int .u8 kd, .slice a 0 d, .int .i64 nn] 55))).updd hu5 hCD
                  have hW5 := bl_upd (bl_alloc HW.out (.cells #[.int .u8 kd, .slice a 0 d, .int .i64 nn] 55)) hu5 hwD
                  have h95 := Obj1.of_grown (Obj1.new wr #[.int .u8 kd, .slice a 0 d, .int .i64 nn] 55) hu5 (by have := HO.out.lt; simp; omega)
                  obtain ⟨l5, hd5', hll5, hok5, hown5⟩ := hl5
                  have HD5 := Lib.hid hd5'
                  have HOK5 := Lib.hid hok5
                  have HB5 := Lib.hid hB5
                  have HS5 := Lib.hid hS5
                  have HW5 := Lib.hid hW5
                  have q5 : w5.cell? ⟨wr.heap.size, 2, none⟩ = some (.int .i64 nn) := h95.cell 2
                  have hown6 := own0_touch (now := nn) (target := target) (hold := hold) (up := up) (down := down) hown5 o11 nb (by omega) ks0 nl
                  have hok6 := ok_updN (ok_touch nn target hold up down o9 o11) nb ks0 nl l5 HOK5.out
                  have hll6 : (updN (touchF nn target hold up down) nb ks0 nl l5).length = N := by rw [updN_length]; exact hll5
                  obtain ⟨l6, hl6d⟩ : ∃ l6, updN (touchF nn target hold up down) nb ks0 nl l5 = l6 := ⟨_, rfl⟩
                  rw [hl6d] at hown6 hok6 hll6
                  have HL6 := Lib.hid hl6d
                  have HOWN6 := Lib.hid hown6
                  have HOK6 := Lib.hid hok6
                  clear hd5 hd5' hu5 hok5 hown5 hB5 hS5 hW5 h95 hown6 hok6 hl6d
                  go_wp2_with fail
                  refine (blueTouch_w (D + 1) D N nl nb target hold up down nn _ nl nl ks0 l5 _ HB5.out HD5.out HS5.out hll5 HN.out (by omega) (by omega) (by omega) (fun _ ad e => by cases e; exact hCD) HOK5.out hnn (by omega) (by omega) (by omega) (by omega)).mono ?_
                  rw [HFL.out, if_pos rfl, HL6.out]
                  rintro e w6 ⟨rfl, hd6, hu6⟩
                  have HD6 := Lib.hid hd6
                  have HB6 := Lib.hid (Obj1.of_grown HB5.out hu6 (by simp))
                  have HS6 := Lib.hid (HS5.out.updd hu6 hCD)
                  have HW6 := Lib.hid (bl_upd HW5.out hu6 hwD)
                  clear hd6 hu6 q5
                  go_wp2_with fail
                  refine (blueMark_w (D + 1) D N nl nb target hold up down _ nl nl ks0 l6 _ HB6.out HD6.out HS6.out hll6 HN.out (by omega) (by omega) (by omega) (fun _ ad e => by cases e; exact hCD) (fun h0 ad e => by cases e; exact sl_lt2 HS6.out h0)).mono ?_
                  rw [HFL.out, if_pos rfl, show markN nb ks0 l6 nl = 0 from by
                    obtain ⟨b0, hb0, _, hp0⟩ := HOWN6.out
                    exact markN_zero nb (by omega) ks0 l6 HOK6.out b0 hb0 hp0 HK00.out nl (by omega)]
                  rintro e w7 ⟨rfl, hb7⟩
                  have HD7 := Lib.hid (HD6.out.below hb7)
                  have HB7 := Lib.hid (HB6.out.below hb7)
                  have HS7 := Lib.hid (HS6.out.below hb7)
                  have HW7 := Lib.hid (bl_next HW6.out hb7)
                  clear hb7
                  go_wp2_with fail
                  go_roundw
                  case rel => exact ⟨k + 1, l6, by omega, by go_num, hll6, HOK6.out, HOWN6.out, HD7.out, HB7.out, HS7.out, HW7.out⟩
                  case measure => simp [intOf]; omega
                · go_wp2_with (refine load_cells rfl 55 (.tmp 62) rfl ⟨sb, so + k * 3, none⟩ [.int .u8 kd, .slice a 0 d, .int .i64 nn] _ rfl (three_cells c0 c1 c2) Try.underlying55 rfl (by kernel_rfl) ?_)
                  refine (blueTake_w (D + 1) D N nl nb target hold up down nn a 0 d ks l _ (HBL.out.alloc _) (HO.out.alloc _) (HSA.out.below (bl_alloc (Below.refl _ _) _)) hll HN.out (by omega) (by omega) (by omega) HNEA.out hnn).mono ?_
                  rintro e w5 ⟨rfl, hd5, hu5⟩
                  have hl5 : ∃ l5, Obj1 w5 D (binsC l5) 82 ∧ l5.length = N ∧ (∀ b ∈ l5, okBn b) ∧ Own0 target l5 := by
                    have h0 := own_if (f := takeF nn) (ok_take nn) nb (by omega) ks nl (mayV nn && flowsB nl nb ks) HOWN.out HOK.out (fun h => by have h1 := HCOND.out (by simp at h; exact h.2); omega)
                    exact ⟨_, hd5, by rw [h0.1]; exact hll, h0.2.1, h0.2.2⟩
                  have hB5 := Obj1.of_grown (HBL.out.alloc (.cells #[.int .u8 kd, .slice a 0 d, .int .i64 nn] 55)) hu5 (by simp)
                  have hS5 := (HSLr.out.below (bl_alloc (Below.refl _ _) (.cells #[.int .u8 kd, .slice a 0 d, .int .i64 nn] 55))).updd hu5 hCD
                  have hW5 := bl_upd (bl_alloc HW.out (.cells #[.int .u8 kd, .slice a 0 d, .int .i64 nn] 55)) hu5 hwD
                  have h95 := Obj1.of_grown (Obj1.new wr #[.int .u8 kd, .slice a 0 d, .int .i64 nn] 55) hu5 (by have := HO.out.lt; simp; omega)
                  obtain ⟨l5, hd5', hll5, hok5, hown5⟩ := hl5
                  have HD5 := Lib.hid hd5'
                  have HOK5 := Lib.hid hok5
                  have HB5 := Lib.hid hB5
                  have HS5 := Lib.hid hS5
                  have HW5 := Lib.hid hW5
                  have q5 : w5.cell? ⟨wr.heap.size, 2, none⟩ = some (.int .i64 nn) := h95.cell 2
                  have hown6 := own0_touch (now := nn) (target := target) (hold := hold) (up := up) (down := down) hown5 o11 nb (by omega) ks0 nl
                  have hok6 := ok_updN (ok_touch nn target hold up down o9 o11) nb ks0 nl l5 HOK5.out
                  have hll6 : (updN (touchF nn target hold up down) nb ks0 nl l5).length = N := by rw [updN_length]; exact hll5
                  obtain ⟨l6, hl6d⟩ : ∃ l6, updN (touchF nn target hold up down) nb ks0 nl l5 = l6 := ⟨_, rfl⟩
                  rw [hl6d] at hown6 hok6 hll6
                  have HL6 := Lib.hid hl6d
                  have HOWN6 := Lib.hid hown6
                  have HOK6 := Lib.hid hok6
                  clear hd5 hd5' hu5 hok5 hown5 hB5 hS5 hW5 h95 hown6 hok6 hl6d
                  go_wp2_with fail
                  refine (blueTouch_w (D + 1) D N nl nb target hold up down nn _ nl nl ks0 l5 _ HB5.out HD5.out HS5.out hll5 HN.out (by omega) (by omega) (by omega) (fun _ ad e => by cases e; exact hCD) HOK5.out hnn (by omega) (by omega) (by omega) (by omega)).mono ?_
                  rw [HFL.out, if_pos rfl, HL6.out]
                  rintro e w6 ⟨rfl, hd6, hu6⟩
                  have HD6 := Lib.hid hd6
                  have HB6 := Lib.hid (Obj1.of_grown HB5.out hu6 (by simp))
                  have HS6 := Lib.hid (HS5.out.updd hu6 hCD)
                  have HW6 := Lib.hid (bl_upd HW5.out hu6 hwD)
                  clear hd6 hu6 q5
                  go_wp2_with fail
                  refine (blueMark_w (D + 1) D N nl nb target hold up down _ nl nl ks0 l6 _ HB6.out HD6.out HS6.out hll6 HN.out (by omega) (by omega) (by omega) (fun _ ad e => by cases e; exact hCD) (fun h0 ad e => by cases e; exact sl_lt2 HS6.out h0)).mono ?_
                  rw [HFL.out, if_pos rfl, show markN nb ks0 l6 nl = 0 from by
                    obtain ⟨b0, hb0, _, hp0⟩ := HOWN6.out
                    exact markN_zero nb (by omega) ks0 l6 HOK6.out b0 hb0 hp0 HK00.out nl (by omega)]
                  rintro e w7 ⟨rfl, hb7⟩
                  have HD7 := Lib.hid (HD6.out.below hb7)
                  have HB7 := Lib.hid (HB6.out.below hb7)
                  have HS7 := Lib.hid (HS6.out.below hb7)
                  have HW7 := Lib.hid (bl_next HW6.out hb7)
                  clear hb7
                  go_wp2_with fail
                  go_roundw
                  case rel => exact ⟨k + 1, l6, by omega, by go_num, hll6, HOK6.out, HOWN6.out, HD7.out, HB7.out, HS7.out, HW7.out⟩
                  case measure => simp [intOf]; omega
                · go_wp2_with (refine load_cells rfl 55 (.tmp 62) rfl ⟨sb, so + k * 3, none⟩ [.int .u8 kd, .slice a 0 d, .int .i64 nn] _ rfl (three_cells c0 c1 c2) Try.underlying55 rfl (by kernel_rfl) ?_)
                  refine (blueTouch_w (D + 1) D N nl nb target hold up down nn a 0 d ks l _ (HBL.out.alloc _) (HO.out.alloc _) (HSA.out.below (bl_alloc (Below.refl _ _) _)) hll HN.out (by omega) (by omega) (by omega) HNEA.out HOK.out hnn (by omega) (by omega) (by omega) (by omega)).mono ?_
                  rintro e w5 ⟨rfl, hd5, hu5⟩
                  have hl5 : ∃ l5, Obj1 w5 D (binsC l5) 82 ∧ l5.length = N ∧ (∀ b ∈ l5, okBn b) ∧ Own0 target l5 := by
                    have h0 := own_if (f := touchF nn target hold up down) (ok_touch nn target hold up down o9 o11) nb (by omega) ks nl (flowsB nl nb ks) HOWN.out HOK.out (fun h => by have h1 := HCOND.out h; omega)
                    exact ⟨_, hd5, by rw [h0.1]; exact hll, h0.2.1, h0.2.2⟩
                  have hB5 := Obj1.of_grown (HBL.out.alloc (.cells #[.int .u8 kd, .slice a 0 d, .int .i64 nn] 55)) hu5 (by simp)
                  have hS5 := (HSLr.out.below (bl_alloc (Below.refl _ _) (.cells #[.int .u8 kd, .slice a 0 d, .int .i64 nn] 55))).updd hu5 hCD
                  have hW5 := bl_upd (bl_alloc HW.out (.cells #[.int .u8 kd, .slice a 0 d, .int .i64 nn] 55)) hu5 hwD
                  have h95 := Obj1.of_grown (Obj1.new wr #[.int .u8 kd, .slice a 0 d, .int .i64 nn] 55) hu5 (by have := HO.out.lt; simp; omega)
                  obtain ⟨l5, hd5', hll5, hok5, hown5⟩ := hl5
                  have HD5 := Lib.hid hd5'
                  have HOK5 := Lib.hid hok5
                  have HB5 := Lib.hid hB5
                  have HS5 := Lib.hid hS5
                  have HW5 := Lib.hid hW5
                  have q5 : w5.cell? ⟨wr.heap.size, 2, none⟩ = some (.int .i64 nn) := h95.cell 2
                  have hown6 := own0_touch (now := nn) (target := target) (hold := hold) (up := up) (down := down) hown5 o11 nb (by omega) ks0 nl
                  have hok6 := ok_updN (ok_touch nn target hold up down o9 o11) nb ks0 nl l5 HOK5.out
                  have hll6 : (updN (touchF nn target hold up down) nb ks0 nl l5).length = N := by rw [updN_length]; exact hll5
                  obtain ⟨l6, hl6d⟩ : ∃ l6, updN (touchF nn target hold up down) nb ks0 nl l5 = l6 := ⟨_, rfl⟩
                  rw [hl6d] at hown6 hok6 hll6
                  have HL6 := Lib.hid hl6d
                  have HOWN6 := Lib.hid hown6
                  have HOK6 := Lib.hid hok6
                  clear hd5 hd5' hu5 hok5 hown5 hB5 hS5 hW5 h95 hown6 hok6 hl6d
                  go_wp2_with fail
                  refine (blueTouch_w (D + 1) D N nl nb target hold up down nn _ nl nl ks0 l5 _ HB5.out HD5.out HS5.out hll5 HN.out (by omega) (by omega) (by omega) (fun _ ad e => by cases e; exact hCD) HOK5.out hnn (by omega) (by omega) (by omega) (by omega)).mono ?_
                  rw [HFL.out, if_pos rfl, HL6.out]
                  rintro e w6 ⟨rfl, hd6, hu6⟩
                  have HD6 := Lib.hid hd6
                  have HB6 := Lib.hid (Obj1.of_grown HB5.out hu6 (by simp))
                  have HS6 := Lib.hid (HS5.out.updd hu6 hCD)
                  have HW6 := Lib.hid (bl_upd HW5.out hu6 hwD)
                  clear hd6 hu6 q5
                  go_wp2_with fail
                  refine (blueMark_w (D + 1) D N nl nb target hold up down _ nl nl ks0 l6 _ HB6.out HD6.out HS6.out hll6 HN.out (by omega) (by omega) (by omega) (fun _ ad e => by cases e; exact hCD) (fun h0 ad e => by cases e; exact sl_lt2 HS6.out h0)).mono ?_
                  rw [HFL.out, if_pos rfl, show markN nb ks0 l6 nl = 0 from by
                    obtain ⟨b0, hb0, _, hp0⟩ := HOWN6.out
                    exact markN_zero nb (by omega) ks0 l6 HOK6.out b0 hb0 hp0 HK00.out nl (by omega)]
                  rintro e w7 ⟨rfl, hb7⟩
                  have HD7 := Lib.hid (HD6.out.below hb7)
                  have HB7 := Lib.hid (HB6.out.below hb7)
                  have HS7 := Lib.hid (HS6.out.below hb7)
                  have HW7 := Lib.hid (bl_next HW6.out hb7)
                  clear hb7
                  go_wp2_with fail
                  go_roundw
                  case rel => exact ⟨k + 1, l6, by omega, by go_num, hll6, HOK6.out, HOWN6.out, HD7.out, HB7.out, HS7.out, HW7.out⟩
                  case measure => simp [intOf]; omega
              · have hm1 : (0 : Int) < (m : Int) := by omega
                obtain ⟨ad, rfl, _, q1, q2⟩ := HQ.out hm0
                obtain ⟨x0, hx0d⟩ : ∃ x0, nth ks 0 = x0 := ⟨_, rfl⟩
                rw [hx0d] at q1 q2 hx0
                clear hx0d
                rcases hk3 with h3 | h3 | h3
                · go_wp2_with (refine load_cells rfl 55 (.tmp 62) rfl ⟨sb, so + k * 3, none⟩ [.int .u8 kd, .slice (some ad) m d, .int .i64 nn] _ rfl (three_cells c0 c1 c2) Try.underlying55 rfl (by kernel_rfl) ?_)
                  refine (bluePut_w (D + 1) D N nl nb target hold up down nn (some ad) m d ks l _ (HBL.out.alloc _) (HO.out.alloc _) (HSA.out.below (bl_alloc (Below.refl _ _) _)) hll HN.out (by omega) (by omega) (by omega) HNEA.out hnn).mono ?_
                  rintro e w5 ⟨rfl, hd5, hu5⟩
                  have hl5 : ∃ l5, Obj1 w5 D (binsC l5) 82 ∧ l5.length = N ∧ (∀ b ∈ l5, okBn b) ∧ Own0 target l5 := by
                    have h0 := own_if (f := putF nn) (ok_put nn) nb (by omega) ks nl (mayV nn && flowsB nl nb ks) HOWN.out HOK.out (fun h => by have h1 := HCOND.out (by simp at h; exact h.2); omega)
                    exact ⟨_, hd5, by rw [h0.1]; exact hll, h0.2.1, h0.2.2⟩
                  have hB5 := Obj1.of_grown (HBL.out.alloc (.cells #[.int .u8 kd, .slice (some ad) m d, .int .i64 nn] 55)) hu5 (by simp)
                  have hS5 := (HSLr.out.below (bl_alloc (Below.refl _ _) (.cells #[.int .u8 kd, .slice (some ad) m d, .int .i64 nn] 55))).updd hu5 hCD
                  have hW5 := bl_upd (bl_alloc HW.out (.cells #[.int .u8 kd, .slice (some ad) m d, .int .i64 nn] 55)) hu5 hwD
                  have h95 := Obj1.of_grown (Obj1.new wr #[.int .u8 kd, .slice (some ad) m d, .int .i64 nn] 55) hu5 (by have := HO.out.lt; simp; omega)
                  obtain ⟨l5, hd5', hll5, hok5, hown5⟩ := hl5
                  have HD5 := Lib.hid hd5'
                  have HOK5 := Lib.hid hok5
                  have HB5 := Lib.hid hB5
                  have HS5 := Lib.hid hS5
                  have HW5 := Lib.hid hW5
                  have q5 : w5.cell? ⟨wr.heap.size, 2, none⟩ = some (.int .i64 nn) := h95.cell 2
                  have hown6 := own0_touch (now := nn) (target := target) (hold := hold) (up := up) (down := down) hown5 o11 nb (by omega) ks0 nl
                  have hok6 := ok_updN (ok_touch nn target hold up down o9 o11) nb ks0 nl l5 HOK5.out
                  have hll6 : (updN (touchF nn target hold up down) nb ks0 nl l5).length = N := by rw [updN_length]; exact hll5
                  obtain ⟨l6, hl6d⟩ : ∃ l6, updN (touchF nn target hold up down) nb ks0 nl l5 = l6 := ⟨_, rfl⟩
                  rw [hl6d] at hown6 hok6 hll6
                  have HL6 := Lib.hid hl6d
                  have HOWN6 := Lib.hid hown6
                  have HOK6 := Lib.hid hok6
                  clear hd5 hd5' hu5 hok5 hown5 hB5 hS5 hW5 h95 hown6 hok6 hl6d
                  go_wp2_with fail
                  refine (blueTouch_w (D + 1) D N nl nb target hold up down nn _ nl nl ks0 l5 _ HB5.out HD5.out HS5.out hll5 HN.out (by omega) (by omega) (by omega) (fun _ ad e => by cases e; exact hCD) HOK5.out hnn (by omega) (by omega) (by omega) (by omega)).mono ?_
                  rw [HFL.out, if_pos rfl, HL6.out]
                  rintro e w6 ⟨rfl, hd6, hu6⟩
                  have HD6 := Lib.hid hd6
                  have HB6 := Lib.hid (Obj1.of_grown HB5.out hu6 (by simp))
                  have HS6 := Lib.hid (HS5.out.updd hu6 hCD)
                  have HW6 := Lib.hid (bl_upd HW5.out hu6 hwD)
                  clear hd6 hu6 q5
                  go_wp2_with fail
                  refine (blueMark_w (D + 1) D N nl nb target hold up down _ nl nl ks0 l6 _ HB6.out HD6.out HS6.out hll6 HN.out (by omega) (by omega) (by omega) (fun _ ad e => by cases e; exact hCD) (fun h0 ad e => by cases e; exact sl_lt2 HS6.out h0)).mono ?_
                  rw [HFL.out, if_pos rfl, show markN nb ks0 l6 nl = 0 from by
                    obtain ⟨b0, hb0, _, hp0⟩ := HOWN6.out
                    exact markN_zero nb (by omega) ks0 l6 HOK6.out b0 hb0 hp0 HK00.out nl (by omega)]
                  rintro e w7 ⟨rfl, hb7⟩
                  have HD7 := Lib.hid (HD6.out.below hb7)
                  have HB7 := Lib.hid (HB6.out.below hb7)
                  have HS7 := Lib.hid (HS6.out.below hb7)
                  have HW7 := Lib.hid (bl_next HW6.out hb7)
                  clear hb7
                  go_wp2_with fail
                  go_roundw
                  case rel => exact ⟨k + 1, l6, by omega, by go_num, hll6, HOK6.out, HOWN6.out, HD7.out, HB7.out, HS7.out, HW7.out⟩
                  case measure => simp [intOf]; omega
                · go_wp2_with (refine load_cells rfl 55 (.tmp 62) rfl ⟨sb, so + k * 3, none⟩ [.int .u8 kd, .slice (some ad) m d, .int .i64 nn] _ rfl (three_cells c0 c1 c2) Try.underlying55 rfl (by kernel_rfl) ?_)
                  refine (blueTake_w (D + 1) D N nl nb target hold up down nn (some ad) m d ks l _ (HBL.out.alloc _) (HO.out.alloc _) (HSA.out.below (bl_alloc (Below.refl _ _) _)) hll HN.out (by omega) (by omega) (by omega) HNEA.out hnn).mono ?_
                  rintro e w5 ⟨rfl, hd5, hu5⟩
                  have hl5 : ∃ l5, Obj1 w5 D (binsC l5) 82 ∧ l5.length = N ∧ (∀ b ∈ l5, okBn b) ∧ Own0 target l5 := by
                    have h0 := own_if (f := takeF nn) (ok_take nn) nb (by omega) ks nl (mayV nn && flowsB nl nb ks) HOWN.out HOK.out (fun h => by have h1 := HCOND.out (by simp at h; exact h.2); omega)
                    exact ⟨_, hd5, by rw [h0.1]; exact hll, h0.2.1, h0.2.2⟩
                  have hB5 := Obj1.of_grown (HBL.out.alloc (.cells #[.int .u8 kd, .slice (some ad) m d, .int .i64 nn] 55)) hu5 (by simp)
                  have hS5 := (HSLr.out.below (bl_alloc (Below.refl _ _) (.cells #[.int .u8 kd, .slice (some ad) m d, .int .i64 nn] 55))).updd hu5 hCD
                  have hW5 := bl_upd (bl_alloc HW.out (.cells #[.int .u8 kd, .slice (some ad) m d, .int .i64 nn] 55)) hu5 hwD
                  have h95 := Obj1.of_grown (Obj1.new wr #[.int .u8 kd, .slice (some ad) m d, .int .i64 nn] 55) hu5 (by have := HO.out.lt; simp; omega)
                  obtain ⟨l5, hd5', hll5, hok5, hown5⟩ := hl5
                  have HD5 := Lib.hid hd5'
                  have HOK5 := Lib.hid hok5
                  have HB5 := Lib.hid hB5
                  have HS5 := Lib.hid hS5
                  have HW5 := Lib.hid hW5
                  have q5 : w5.cell? ⟨wr.heap.size, 2, none⟩ = some (.int .i64 nn) := h95.cell 2
                  have hown6 := own0_touch (now := nn) (target := target) (hold := hold) (up := up) (down := down) hown5 o11 nb (by omega) ks0 nl
                  have hok6 := ok_updN (ok_touch nn target hold up down o9 o11) nb ks0 nl l5 HOK5.out
                  have hll6 : (updN (touchF nn target hold up down) nb ks0 nl l5).length = N := by rw [updN_length]; exact hll5
                  obtain ⟨l6, hl6d⟩ : ∃ l6, updN (touchF nn target hold up down) nb ks0 nl l5 = l6 := ⟨_, rfl⟩
                  rw [hl6d] at hown6 hok6 hll6
                  have HL6 := Lib.hid hl6d
                  have HOWN6 := Lib.hid hown6
                  have HOK6 := Lib.hid hok6
                  clear hd5 hd5' hu5 hok5 hown5 hB5 hS5 hW5 h95 hown6 hok6 hl6d
                  go_wp2_with fail
                  refine (blueTouch_w (D + 1) D N nl nb target hold up down nn _ nl nl ks0 l5 _ HB5.out HD5.out HS5.out hll5 HN.out (by omega) (by omega) (by omega) (fun _ ad e => by cases e; exact hCD) HOK5.out hnn (by omega) (by omega) (by omega) (by omega)).mono ?_
                  rw [HFL.out, if_pos rfl, HL6.out]
                  rintro e w6 ⟨rfl, hd6, hu6⟩
                  have HD6 := Lib.hid hd6
                  have HB6 := Lib.hid (Obj1.of_grown HB5.out hu6 (by simp))
                  have HS6 := Lib.hid (HS5.out.updd hu6 hCD)
                  have HW6 := Lib.hid (bl_upd HW5.out hu6 hwD)
                  clear hd6 hu6 q5
                  go_wp2_with fail
                  refine (blueMark_w (D + 1) D N nl nb target hold up down _ nl nl ks0 l6 _ HB6.out HD6.out HS6.out hll6 HN.out (by omega) (by omega) (by omega) (fun _ ad e => by cases e; exact hCD) (fun h0 ad e => by cases e; exact sl_lt2 HS6.out h0)).mono ?_
                  rw [HFL.out, if_pos rfl, show markN nb ks0 l6 nl = 0 from by
                    obtain ⟨b0, hb0, _, hp0⟩ := HOWN6.out
                    exact markN_zero nb (by omega) ks0 l6 HOK6.out b0 hb0 hp0 HK00.out nl (by omega)]
                  rintro e w7 ⟨rfl, hb7⟩
                  have HD7 := Lib.hid (HD6.out.below hb7)
                  have HB7 := Lib.hid (HB6.out.below hb7)
                  have HS7 := Lib.hid (HS6.out.below hb7)
                  have HW7 := Lib.hid (bl_next HW6.out hb7)
                  clear hb7
                  go_wp2_with fail
                  go_roundw
                  case rel => exact ⟨k + 1, l6, by omega, by go_num, hll6, HOK6.out, HOWN6.out, HD7.out, HB7.out, HS7.out, HW7.out⟩
                  case measure => simp [intOf]; omega
                · go_wp2_with (refine load_cells rfl 55 (.tmp 62) rfl ⟨sb, so + k * 3, none⟩ [.int .u8 kd, .slice (some ad) m d, .int .i64 nn] _ rfl (three_cells c0 c1 c2) Try.underlying55 rfl (by kernel_rfl) ?_)
                  refine (blueTouch_w (D + 1) D N nl nb target hold up down nn (some ad) m d ks l _ (HBL.out.alloc _) (HO.out.alloc _) (HSA.out.below (bl_alloc (Below.refl _ _) _)) hll HN.out (by omega) (by omega) (by omega) HNEA.out HOK.out hnn (by omega) (by omega) (by omega) (by omega)).mono ?_
                  rintro e w5 ⟨rfl, hd5, hu5⟩
                  have hl5 : ∃ l5, Obj1 w5 D (binsC l5) 82 ∧ l5.length = N ∧ (∀ b ∈ l5, okBn b) ∧ Own0 target l5 := by
                    have h0 := own_if (f := touchF nn target hold up down) (ok_touch nn target hold up down o9 o11) nb (by omega) ks nl (flowsB nl nb ks) HOWN.out HOK.out (fun h => by have h1 := HCOND.out h; omega)
                    exact ⟨_, hd5, by rw [h0.1]; exact hll, h0.2.1, h0.2.2⟩
                  have hB5 := Obj1.of_grown (HBL.out.alloc (.cells #[.int .u8 kd, .slice (some ad) m d, .int .i64 nn] 55)) hu5 (by simp)
                  have hS5 := (HSLr.out.below (bl_alloc (Below.refl _ _) (.cells #[.int .u8 kd, .slice (some ad) m d, .int .i64 nn] 55))).updd hu5 hCD
                  have hW5 := bl_upd (bl_alloc HW.out (.cells #[.int .u8 kd, .slice (some ad) m d, .int .i64 nn] 55)) hu5 hwD
                  have h95 := Obj1.of_grown (Obj1.new wr #[.int .u8 kd, .slice (some ad) m d, .int .i64 nn] 55) hu5 (by have := HO.out.lt; simp; omega)
                  obtain ⟨l5, hd5', hll5, hok5, hown5⟩ := hl5
                  have HD5 := Lib.hid hd5'
                  have HOK5 := Lib.hid hok5
                  have HB5 := Lib.hid hB5
                  have HS5 := Lib.hid hS5
                  have HW5 := Lib.hid hW5
                  have q5 : w5.cell? ⟨wr.heap.size, 2, none⟩ = some (.int .i64 nn) := h95.cell 2
                  have hown6 := own0_touch (now := nn) (target := target) (hold := hold) (up := up) (down := down) hown5 o11 nb (by omega) ks0 nl
                  have hok6 := ok_updN (ok_touch nn target hold up down o9 o11) nb ks0 nl l5 HOK5.out
                  have hll6 : (updN (touchF nn target hold up down) nb ks0 nl l5).length = N := by rw [updN_length]; exact hll5
                  obtain ⟨l6, hl6d⟩ : ∃ l6, updN (touchF nn target hold up down) nb ks0 nl l5 = l6 := ⟨_, rfl⟩
                  rw [hl6d] at hown6 hok6 hll6
                  have HL6 := Lib.hid hl6d
                  have HOWN6 := Lib.hid hown6
                  have HOK6 := Lib.hid hok6
                  clear hd5 hd5' hu5 hok5 hown5 hB5 hS5 hW5 h95 hown6 hok6 hl6d
                  go_wp2_with fail
                  refine (blueTouch_w (D + 1) D N nl nb target hold up down nn _ nl nl ks0 l5 _ HB5.out HD5.out HS5.out hll5 HN.out (by omega) (by omega) (by omega) (fun _ ad e => by cases e; exact hCD) HOK5.out hnn (by omega) (by omega) (by omega) (by omega)).mono ?_
                  rw [HFL.out, if_pos rfl, HL6.out]
                  rintro e w6 ⟨rfl, hd6, hu6⟩
                  have HD6 := Lib.hid hd6
                  have HB6 := Lib.hid (Obj1.of_grown HB5.out hu6 (by simp))
                  have HS6 := Lib.hid (HS5.out.updd hu6 hCD)
                  have HW6 := Lib.hid (bl_upd HW5.out hu6 hwD)
                  clear hd6 hu6 q5
                  go_wp2_with fail
                  refine (blueMark_w (D + 1) D N nl nb target hold up down _ nl nl ks0 l6 _ HB6.out HD6.out HS6.out hll6 HN.out (by omega) (by omega) (by omega) (fun _ ad e => by cases e; exact hCD) (fun h0 ad e => by cases e; exact sl_lt2 HS6.out h0)).mono ?_
                  rw [HFL.out, if_pos rfl, show markN nb ks0 l6 nl = 0 from by
                    obtain ⟨b0, hb0, _, hp0⟩ := HOWN6.out
                    exact markN_zero nb (by omega) ks0 l6 HOK6.out b0 hb0 hp0 HK00.out nl (by omega)]
                  rintro e w7 ⟨rfl, hb7⟩
                  have HD7 := Lib.hid (HD6.out.below hb7)
                  have HB7 := Lib.hid (HB6.out.below hb7)
                  have HS7 := Lib.hid (HS6.out.below hb7)
                  have HW7 := Lib.hid (bl_next HW6.out hb7)
                  clear hb7
                  go_wp2_with fail
                  go_roundw
                  case rel => exact ⟨k + 1, l6, by omega, by go_num, hll6, HOK6.out, HOWN6.out, HD7.out, HB7.out, HS7.out, HW7.out⟩
                  case measure => simp [intOf]; omega
            · have hm1 : (0 : Int) < (m : Int) := by omega
              obtain ⟨ad, rfl, _, q1, q2⟩ := HQ.out hm0
              rw [hx0] at q1 q2
              go_wp2_with (refine load_cells rfl 55 (.tmp 62) rfl ⟨sb, so + k * 3, none⟩ [.int .u8 kd, .slice (some ad) m d, .int .i64 nn] _ rfl (three_cells c0 c1 c2) Try.underlying55 rfl (by kernel_rfl) ?_)
              go_roundw
              case rel => exact ⟨k + 1, l, by omega, by go_num, hll, HOK.out, HOWN.out, HO.out.alloc _, HBL.out.alloc _, HSLr.out.below (bl_alloc (Below.refl _ _) _), bl_alloc HW.out _⟩
              case measure => simp [intOf]; omega
          · obtain rfl : k = n := by omega
            go_wp2
            go_ret
            exact ⟨rfl, HW.out⟩
    · have HOK := Lib.hid hok
      clear hok
      go_wp2_with fail
      refine (blueNew_no_w levels bins target hold up down _ HOK.out).mono ?_
      rintro e w' ⟨rfl, rfl⟩
      go_wp2
      go_ret
      exact ⟨rfl, HW1.out⟩
end Go.Proofs.Ytcgabjjdffcjbaa
