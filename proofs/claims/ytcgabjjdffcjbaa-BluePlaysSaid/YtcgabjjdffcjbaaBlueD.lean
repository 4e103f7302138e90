/- Blue's New, Put, Take, Touch, Mark. -/
import Derived.Test.YtcgabjjdffcjbaaBlueC
namespace Go.Proofs.Ytcgabjjdffcjbaa
open Go.RowKit
set_option linter.unusedVariables false
set_option linter.unusedSimpArgs false

/-- The least probability of the first j of a flow's bins. -/
def markN (nb : Nat) (ks : List Int) (l : List Bn) : Nat → Int
  | 0 => 65536
  | j + 1 => if (l[j * nb + (nth ks j).toNat]?.getD ⟨0, 0, 0⟩).p < markN nb ks l j then (l[j * nb + (nth ks j).toNat]?.getD ⟨0, 0, 0⟩).p else markN nb ks l j
def mayV (v : Int) : Bool := decide (0 ≤ v) && decide (v ≤ 1073741824)

set_option maxRecDepth 100000 in
set_option maxHeartbeats 2000000 in
theorem eachMark_w (B D N nl nb : Nat) (target hold up down : Int) (E : Nat) (A : Option Addr) (n c : Nat) (ks : List Int) (l : List Bn) (w : World)
    (hBl : Obj1 w B (blueC D N nl nb target hold up down) 77) (hD : Obj1 w D (binsC l) 82) (hs : SlI .i64 w A n c ks) (hl : l.length = N) (hN : N = nl * nb) (hnb : nb ≤ 64) (hnl : nl ≤ 4)
    (hne : B ≠ D) (hneA : 0 < n → ∀ ad, A = some ad → ad.block ≠ D) (hE : Obj1 w E #[.int .i64 65536] 3) (hEB : B ≠ E) (hED : D ≠ E) (hneE : 0 < n → ∀ ad, A = some ad → ad.block ≠ E) :
    Calls Try.prog 40 #[.pointer (some ⟨B, 0, none⟩), .slice A n c, .func (.func 46) #[] #[.pointer (some ⟨E, 0, none⟩)]] w fun e w' => e = .returned (.bool (flowsB nl nb ks)) ∧
      Obj1 w' E #[.int .i64 (if flowsB nl nb ks = true then markN nb ks l nl else 65536)] 3 ∧ Upd E w w' := by
  have hn : n ≤ 9223372036854775807 := Nat.le_trans hs.2.1 hs.2.2.1
  have hlen : ks.length = n := hs.1
  have HS := Lib.hid hs
  have HBL := Lib.hid hBl
  have HN := Lib.hid hN
  have HD := Lib.hid hD
  have HE := Lib.hid hE
  clear hs hBl hD hN hE
  cases hfl : flowsB nl nb ks
  · have HFL := Lib.hid hfl
    clear hfl
    go_enter Try.func40, Try.ntmps40
    go_wp2_with fail
    refine (blueFlows_w B D N nl nb target hold up down A n c ks _ HBL.out HS.out hnb hnl).mono ?_
    rw [HFL.out]
    rintro e w' ⟨rfl, rfl⟩
    go_wp2
    go_ret
    exact ⟨rfl, by simpa using HE.out, Upd.refl _ _⟩
  · obtain ⟨hnn, hks⟩ := flowsB_at hfl
    rw [hlen] at hnn
    subst hnn
    have HFL := Lib.hid hfl
    have HKS := Lib.hid hks
    clear hfl hks
    go_enter Try.func40, Try.ntmps40
    go_wp2_with fail
    refine (blueFlows_w B D N n nb target hold up down A n c ks _ HBL.out HS.out hnb hnl).mono ?_
    rw [HFL.out]
    rintro e w' ⟨rfl, rfl⟩
    go_wp2_with fail
    go_loopw [15] (fun i wr => ∃ (k : Nat), k ≤ n ∧ i = .int .i64 k ∧ Obj1 wr E #[.int .i64 (markN nb ks l k)] 3 ∧ Upd E w wr) (fun i _ => n - (intOf i).toNat)
    case atStart => exact ⟨0, Nat.zero_le _, rfl, HE.out, Upd.refl _ _⟩
    case round =>
      obtain ⟨k, hk, rfl, hobj, hupd⟩ := hrel
      by_cases hlt : k < n
      · have hx := HKS.out k hlt
        obtain ⟨ad, rfl, hc, hw⟩ := (upd_rd HS.out hupd (hneE (by omega))).at k hlt
        clear hw
        obtain ⟨x, hxd⟩ : ∃ x, nth ks k = x := ⟨_, rfl⟩
        have hstep : markN nb ks l (k + 1) = if (l[k * nb + (nth ks k).toNat]?.getD ⟨0, 0, 0⟩).p < markN nb ks l k then (l[k * nb + (nth ks k).toNat]?.getD ⟨0, 0, 0⟩).p else markN nb ks l k := rfl
        rw [hxd] at hx hc hstep
        obtain ⟨hM, b, hb⟩ := bin_there (l := l) (N := N) (nl := n) (nb := nb) (k := k) (x := x) hl HN.out hlt hx
        have hmem : b ∈ l := List.mem_of_getElem? hb
        obtain ⟨P, hP⟩ : ∃ P, P = k * nb := ⟨_, rfl⟩
        have hP2 : (k : Int) * (nb : Int) = (P : Int) := by rw [hP]; exact (Int.natCast_mul _ _).symm
        have hP3 : P ≤ 4 * 64 := by rw [hP]; exact Nat.mul_le_mul (by omega) hnb
        rw [← hP] at hb hM hstep
        obtain ⟨M, hMd⟩ : ∃ M, M = P + x.toNat := ⟨_, rfl⟩
        rw [← hMd] at hb hM hstep
        rw [hb] at hstep
        simp only [Option.getD_some] at hstep
        have hw1 : IntKind.i64.wrap ((k : Int) * (nb : Int)) = (P : Int) := by rw [hP2]; exact IntWalk.i64_in _ (by omega)
        have hw2 : IntKind.i64.wrap ((P : Int) + x) = (M : Int) := by rw [hMd]; rw [IntWalk.i64_in _ (by omega)]; omega
        have hM0 : (0 : Int) ≤ (M : Int) := Int.natCast_nonneg M
        have hM1 : (M : Int) < (N : Int) := by omega
        have hk0 : (0 : Int) ≤ (k : Int) := Int.natCast_nonneg k
        have hk1 : (k : Int) < (n : Int) := by omega
        have hBl' : Obj1 wr B (blueC D N n nb target hold up down) 77 := Obj1.of_grown HBL.out hupd (by simpa using hEB)
        have HDD := Lib.hid (Obj1.of_grown HD.out hupd (by simpa using hED))
        have c0 : wr.cell? ⟨B, 0, none⟩ = some (.slice (some ⟨D, 0, none⟩) N N) := hBl'.cell 0
        have c2 : wr.cell? ⟨B, 2, none⟩ = some (.int .i64 nb) := hBl'.cell 2
        have HO := Lib.hid hobj
        have HU := Lib.hid hupd
        have HBB := Lib.hid hb
        have HBL2 := Lib.hid hBl'
        have HST := Lib.hid hstep
        clear hobj hupd hb hBl' hstep hxd hMd hP hP2
        go_wp2_with fail
        refine wp_region_still_tail 14 (by kernel_rfl) (by kernel_rfl) ?_
        change wpStill _ _ (World.drew _) (fun a' => wpList _ _ _ _ a' (World.drew _)) _ _
        simp only [List.take_succ_cons, List.take_zero, List.drop_succ_cons, List.drop_zero]
        repeat still_step
        refine wpStill_nil ?_
        go_wp2_with fail
        refine (blueMark1_w D E M (markN nb ks l k) l b _ (by exact HDD.out) HBB.out (by exact HO.out)).mono ?_
        rintro e w2 ⟨rfl, ho2, hu2⟩
        have HO2 := Lib.hid ho2
        have HU2 := Lib.hid ((show Upd E w wr.drew from HU.out.drewN 1).trans hu2)
        clear ho2 hu2
        go_wp2_with fail
        go_roundw
        case rel => exact ⟨k + 1, by omega, by go_num, by rw [HST.out]; exact HO2.out, HU2.out⟩
        case measure => simp [intOf]; omega
      · obtain rfl : k = n := by omega
        have HO := Lib.hid hobj
        have HU := Lib.hid hupd
        clear hobj hupd
        go_wp2
        go_ret
        exact ⟨rfl, by simpa using HO.out, HU.out⟩

set_option maxHeartbeats 2000000 in
theorem bluePut_w (B D N nl nb : Nat) (target hold up down : Int) (v : Int) (A : Option Addr) (n c : Nat) (ks : List Int) (l : List Bn) (w : World)
    (hBl : Obj1 w B (blueC D N nl nb target hold up down) 77) (hD : Obj1 w D (binsC l) 82) (hs : SlI .i64 w A n c ks) (hl : l.length = N) (hN : N = nl * nb) (hnb : nb ≤ 64) (hnl : nl ≤ 4)
    (hne : B ≠ D) (hneA : 0 < n → ∀ ad, A = some ad → ad.block ≠ D) (hv : -9223372036854775808 ≤ v ∧ v ≤ 9223372036854775807) :
    Calls Try.prog 21 #[.pointer (some ⟨B, 0, none⟩), .slice A n c, .int .i64 v] w fun e w' => e = .returned (.bool (mayV v && flowsB nl nb ks)) ∧
      Obj1 w' D (binsC (if (mayV v && flowsB nl nb ks) = true then updN (putF v) nb ks nl l else l)) 82 ∧ Upd D w w' := by
  have HS := Lib.hid hs
  have HBL := Lib.hid hBl
  have HD := Lib.hid hD
  have HN := Lib.hid hN
  have HHA := Lib.hid hneA
  have hDl := hD.lt
  clear hs hBl hD hN hneA
  have hvc : (v < 0 ∧ mayV v = false) ∨ ((0 ≤ v ∧ 1073741824 < v) ∧ mayV v = false) ∨ ((0 ≤ v ∧ v ≤ 1073741824) ∧ mayV v = true) := by unfold mayV; simp; omega
  rcases hvc with ⟨h1, hm⟩ | ⟨⟨h1, h2⟩, hm⟩ | ⟨⟨h1, h2⟩, hm⟩
  · rw [hm, Bool.false_and]
    clear hm
    go_enter Try.func21, Try.ntmps21
    go_wp2
    go_ret
    exact ⟨rfl, by simpa using HD.out.alloc _, (Upd.refl D w).alloc _⟩
  · rw [hm, Bool.false_and]
    clear hm
    go_enter Try.func21, Try.ntmps21
    go_wp2
    go_ret
    exact ⟨rfl, by simpa using HD.out.alloc _, (Upd.refl D w).alloc _⟩
  · rw [hm, Bool.true_and]
    clear hm
    cases hfl : flowsB nl nb ks
    all_goals
      have HFL := Lib.hid hfl
      clear hfl
      go_enter Try.func21, Try.ntmps21
      go_wp2_with fail
      refine (eachPut_w B D N nl nb target hold up down w.heap.size v A n c ks l _ (HBL.out.alloc _) (HD.out.alloc _) (HS.out.below (bl_alloc (Below.refl _ _) _)) hl HN.out hnb hnl hne HHA.out (new_at rfl rfl) (by omega)).mono ?_
      rw [HFL.out]
      rintro e w2 ⟨rfl, ho2, hu2⟩
      have HO2 := Lib.hid ho2
      have HU2 := Lib.hid (((Upd.refl D w).alloc _).trans hu2)
      clear ho2 hu2
      go_wp2
      go_ret
      exact ⟨rfl, by simpa using HO2.out, HU2.out⟩

set_option maxHeartbeats 2000000 in
theorem blueTake_w (B D N nl nb : Nat) (target hold up down : Int) (v : Int) (A : Option Addr) (n c : Nat) (ks : List Int) (l : List Bn) (w : World)
    (hBl : Obj1 w B (blueC D N nl nb target hold up down) 77) (hD : Obj1 w D (binsC l) 82) (hs : SlI .i64 w A n c ks) (hl : l.length = N) (hN : N = nl * nb) (hnb : nb ≤ 64) (hnl : nl ≤ 4)
    (hne : B ≠ D) (hneA : 0 < n → ∀ ad, A = some ad → ad.block ≠ D) (hv : -9223372036854775808 ≤ v ∧ v ≤ 9223372036854775807) :
    Calls Try.prog 22 #[.pointer (some ⟨B, 0, none⟩), .slice A n c, .int .i64 v] w fun e w' => e = .returned (.bool (mayV v && flowsB nl nb ks)) ∧
      Obj1 w' D (binsC (if (mayV v && flowsB nl nb ks) = true then updN (takeF v) nb ks nl l else l)) 82 ∧ Upd D w w' := by
  have HS := Lib.hid hs
  have HBL := Lib.hid hBl
  have HD := Lib.hid hD
  have HN := Lib.hid hN
  have HHA := Lib.hid hneA
  have hDl := hD.lt
  clear hs hBl hD hN hneA
  have hvc : (v < 0 ∧ mayV v = false) ∨ ((0 ≤ v ∧ 1073741824 < v) ∧ mayV v = false) ∨ ((0 ≤ v ∧ v ≤ 1073741824) ∧ mayV v = true) := by unfold mayV; simp; omega
  rcases hvc with ⟨h1, hm⟩ | ⟨⟨h1, h2⟩, hm⟩ | ⟨⟨h1, h2⟩, hm⟩
  · rw [hm, Bool.false_and]
    clear hm
    go_enter Try.func22, Try.ntmps22
    go_wp2
    go_ret
    exact ⟨rfl, by simpa using HD.out.alloc _, (Upd.refl D w).alloc _⟩
  · rw [hm, Bool.false_and]
    clear hm
    go_enter Try.func22, Try.ntmps22
    go_wp2
    go_ret
    exact ⟨rfl, by simpa using HD.out.alloc _, (Upd.refl D w).alloc _⟩
  · rw [hm, Bool.true_and]
    clear hm
    cases hfl : flowsB nl nb ks
    all_goals
      have HFL := Lib.hid hfl
      clear hfl
      go_enter Try.func22, Try.ntmps22
      go_wp2_with fail
      refine (eachTake_w B D N nl nb target hold up down w.heap.size v A n c ks l _ (HBL.out.alloc _) (HD.out.alloc _) (HS.out.below (bl_alloc (Below.refl _ _) _)) hl HN.out hnb hnl hne HHA.out (new_at rfl rfl) (by omega)).mono ?_
      rw [HFL.out]
      rintro e w2 ⟨rfl, ho2, hu2⟩
      have HO2 := Lib.hid ho2
      have HU2 := Lib.hid (((Upd.refl D w).alloc _).trans hu2)
      clear ho2 hu2
      go_wp2
      go_ret
      exact ⟨rfl, by simpa using HO2.out, HU2.out⟩

set_option maxHeartbeats 2000000 in
theorem blueTouch_w (B D N nl nb : Nat) (target hold up down : Int) (now : Int) (A : Option Addr) (n c : Nat) (ks : List Int) (l : List Bn) (w : World)
    (hBl : Obj1 w B (blueC D N nl nb target hold up down) 77) (hD : Obj1 w D (binsC l) 82) (hs : SlI .i64 w A n c ks) (hl : l.length = N) (hN : N = nl * nb) (hnb : nb ≤ 64) (hnl : nl ≤ 4)
    (hne : B ≠ D) (hneA : 0 < n → ∀ ad, A = some ad → ad.block ≠ D) (hok : ∀ b ∈ l, okBn b)
    (hi : -9223372036854775808 ≤ now ∧ now ≤ 9223372036854775807) (hh : 0 ≤ hold ∧ hold ≤ 4611686018427387903) (ht : 0 ≤ target ∧ target ≤ 1073741824) (hu : 0 ≤ up ∧ up ≤ 65536) (hd : 0 ≤ down ∧ down ≤ 65536) :
    Calls Try.prog 23 #[.pointer (some ⟨B, 0, none⟩), .slice A n c, .int .i64 now] w fun e w' => e = .returned (.bool (flowsB nl nb ks)) ∧
      Obj1 w' D (binsC (if flowsB nl nb ks = true then updN (touchF now target hold up down) nb ks nl l else l)) 82 ∧ Upd D w w' := by
  have HS := Lib.hid hs
  have HBL := Lib.hid hBl
  have HD := Lib.hid hD
  have HN := Lib.hid hN
  have HHA := Lib.hid hneA
  have HOK := Lib.hid hok
  have hDl := hD.lt
  clear hs hBl hD hN hneA hok
  have hcF : ∀ o1 o2, ((w.alloc o1).alloc o2).cell? ⟨w.heap.size, 0, none⟩ = (w.alloc o1).cell? ⟨w.heap.size, 0, none⟩ := fun o1 o2 => World.cell?_of_block ((bl_alloc (Below.refl (w.alloc o1).heap.size (w.alloc o1)) o2).block _ (by simp))
  have HCF := Lib.hid hcF
  clear hcF
  cases hfl : flowsB nl nb ks
  all_goals
    have HFL := Lib.hid hfl
    clear hfl
    go_enter Try.func23, Try.ntmps23
    go_wp2_with fail
    refine (eachTouch_w B D N nl nb target hold up down (w.heap.size + 1) w.heap.size now A n c ks l _ ((HBL.out.alloc _).alloc _) ((HD.out.alloc _).alloc _) ((HS.out.below (bl_alloc (Below.refl _ _) _)).below (bl_alloc (Below.refl _ _) _)) hl HN.out hnb hnl hne HHA.out
      (new_at (by simp) rfl) ((HCF.out _ _).trans (new_at rfl rfl)) (by omega) (by omega) HOK.out hi hh ht hu hd).mono ?_
    rw [HFL.out]
    rintro e w2 ⟨rfl, ho2, hu2⟩
    have HO2 := Lib.hid ho2
    have HU2 := Lib.hid ((((Upd.refl D w).alloc _).alloc _).trans hu2)
    clear ho2 hu2
    go_wp2
    go_ret
    exact ⟨rfl, by simpa using HO2.out, HU2.out⟩

set_option maxHeartbeats 2000000 in
theorem blueMark_w (B D N nl nb : Nat) (target hold up down : Int) (A : Option Addr) (n c : Nat) (ks : List Int) (l : List Bn) (w : World)
    (hBl : Obj1 w B (blueC D N nl nb target hold up down) 77) (hD : Obj1 w D (binsC l) 82) (hs : SlI .i64 w A n c ks) (hl : l.length = N) (hN : N = nl * nb) (hnb : nb ≤ 64) (hnl : nl ≤ 4)
    (hne : B ≠ D) (hneA : 0 < n → ∀ ad, A = some ad → ad.block ≠ D) (hA : 0 < n → ∀ ad, A = some ad → ad.block < w.heap.size) :
    Calls Try.prog 24 #[.pointer (some ⟨B, 0, none⟩), .slice A n c] w fun e w' => e = .returned (.int .i64 (if flowsB nl nb ks = true then markN nb ks l nl else 0)) ∧ Below w.heap.size w w' := by
  have HS := Lib.hid hs
  have HBL := Lib.hid hBl
  have HD := Lib.hid hD
  have HN := Lib.hid hN
  have HHA := Lib.hid hneA
  have HHB := Lib.hid hA
  have hDl := hD.lt
  have hBlt := hBl.lt
  clear hs hBl hD hN hneA hA
  obtain ⟨w1, hw1⟩ : ∃ w1, w1 = w.alloc (.cells #[.int .i64 65536] 3) := ⟨_, rfl⟩
  have HE := Lib.hid (show Obj1 w1 w.heap.size #[.int .i64 65536] 3 by rw [hw1]; exact Obj1.new w #[.int .i64 65536] 3)
  have HB1 := Lib.hid (show Below w.heap.size w w1 by rw [hw1]; exact bl_alloc (Below.refl _ _) _)
  have HW1 := Lib.hid hw1
  clear hw1
  cases hfl : flowsB nl nb ks
  all_goals
    have HFL := Lib.hid hfl
    clear hfl
    go_enter Try.func24, Try.ntmps24
    go_wp2_with fail
    rw [← HW1.out]
    refine (eachMark_w B D N nl nb target hold up down w.heap.size A n c ks l _ (HBL.out.below HB1.out) (HD.out.below HB1.out) (HS.out.below HB1.out) hl HN.out hnb hnl hne HHA.out HE.out (by omega) (by omega) (fun h0 ad e => by have := HHB.out h0 ad e; omega)).mono ?_
    rw [HFL.out]
    rintro e w2 ⟨rfl, ho2, hu2⟩
    have HB2 := Lib.hid (bl_upd HB1.out hu2 (Nat.le_refl _))
    have cE := ho2.cell 0
    simp at cE
    clear ho2 hu2
    go_wp2
    go_ret
    exact ⟨rfl, HB2.out⟩

theorem zeros_cells (n : Nat) : madeCells #[.int .i64 0, .int .i64 0, .int .i64 0] (n * 3) = binsC (List.replicate n ⟨0, 0, 0⟩) := by
  apply Array.ext'
  apply List.ext_getElem?
  intro i
  have hz : ∀ (i : Nat), i < n * 3 → (binsL (List.replicate n ⟨0, 0, 0⟩))[i]? = some (.int .i64 0) := by
    intro i hi
    have hb : (List.replicate n (⟨0, 0, 0⟩ : Bn))[i / 3]? = some ⟨0, 0, 0⟩ := by rw [List.getElem?_replicate]; rw [if_pos (by omega)]
    obtain ⟨h0, h1, h2⟩ := binsL_at _ _ _ hb
    have hm : i % 3 = 0 ∨ i % 3 = 1 ∨ i % 3 = 2 := by omega
    rcases hm with h | h | h
    · rw [show i = i / 3 * 3 by omega]; exact h0
    · rw [show i = i / 3 * 3 + 1 by omega]; exact h1
    · rw [show i = i / 3 * 3 + 2 by omega]; exact h2
  rcases Nat.lt_or_ge i (n * 3) with hi | hi
  · rw [show (binsC (List.replicate n ⟨0, 0, 0⟩)).toList = binsL (List.replicate n ⟨0, 0, 0⟩) from rfl, hz i hi]
    have hm : i % 3 = 0 ∨ i % 3 = 1 ∨ i % 3 = 2 := by omega
    rcases hm with h | h | h <;> simp [madeCells, hi, h]
  · rw [List.getElem?_eq_none (by simp [madeCells]; omega), List.getElem?_eq_none (by show _ ≤ i; simp [binsC, binsL_length]; omega)]

set_option maxHeartbeats 2000000 in
theorem blueNew_no_w (levels bins : Int) (target hold up down : Int) (w : World)
    (h : ¬ (1 ≤ levels ∧ levels ≤ 4 ∧ 1 ≤ bins ∧ bins ≤ 64 ∧ 0 ≤ hold ∧ hold ≤ 4611686018427387903 ∧ (0 ≤ target ∧ target ≤ 1073741824 ∧ 0 ≤ up ∧ up ≤ 65536 ∧ 0 ≤ down ∧ down ≤ 65536))) :
    Calls Try.prog 20 #[.int .i64 levels, .int .i64 bins, .int .i64 target, .int .i64 hold, .int .i64 up, .int .i64 down] w fun e w' => e = .returned (.tuple #[.pointer none, .int .i64 1]) ∧ w = w' := by
  have h' : levels < 1 ∨ (1 ≤ levels ∧ 4 < levels) ∨ ((1 ≤ levels ∧ levels ≤ 4) ∧ bins < 1) ∨ ((1 ≤ levels ∧ levels ≤ 4) ∧ 1 ≤ bins ∧ 64 < bins) ∨ (((1 ≤ levels ∧ levels ≤ 4) ∧ 1 ≤ bins ∧ bins ≤ 64) ∧ hold < 0) ∨ (((1 ≤ levels ∧ levels ≤ 4) ∧ 1 ≤ bins ∧ bins ≤ 64) ∧ 0 ≤ hold ∧ 4611686018427387903 < hold) ∨
      ((((1 ≤ levels ∧ levels ≤ 4) ∧ 1 ≤ bins ∧ bins ≤ 64) ∧ 0 ≤ hold ∧ hold ≤ 4611686018427387903) ∧ ¬ (0 ≤ target ∧ target ≤ 1073741824 ∧ 0 ≤ up ∧ up ≤ 65536 ∧ 0 ≤ down ∧ down ≤ 65536)) := by
    by_cases ht : 0 ≤ target ∧ target ≤ 1073741824 ∧ 0 ≤ up ∧ up ≤ 65536 ∧ 0 ≤ down ∧ down ≤ 65536
    · have h2 : ¬ (1 ≤ levels ∧ levels ≤ 4 ∧ 1 ≤ bins ∧ bins ≤ 64 ∧ 0 ≤ hold ∧ hold ≤ 4611686018427387903) := fun h3 => h ⟨h3.1, h3.2.1, h3.2.2.1, h3.2.2.2.1, h3.2.2.2.2.1, h3.2.2.2.2.2, ht⟩
      omega
    · by_cases h2 : 1 ≤ levels ∧ levels ≤ 4 ∧ 1 ≤ bins ∧ bins ≤ 64 ∧ 0 ≤ hold ∧ hold ≤ 4611686018427387903
      · exact .inr (.inr (.inr (.inr (.inr (.inr ⟨⟨⟨⟨h2.1, h2.2.1⟩, h2.2.2.1, h2.2.2.2.1⟩, h2.2.2.2.2.1, h2.2.2.2.2.2⟩, ht⟩)))))
      · clear ht h
        omega
  clear h
  rcases h' with h | ⟨h, h1⟩ | ⟨⟨h, h1⟩, h2⟩ | ⟨⟨h, h1⟩, h2, h3⟩ | ⟨⟨⟨h, h1⟩, h2, h3⟩, h4⟩ | ⟨⟨⟨h, h1⟩, h2, h3⟩, h4, h5⟩ | ⟨⟨⟨⟨h, h1⟩, h2, h3⟩, h4, h5⟩, h6⟩
  case inr.inr.inr.inr.inr.inr =>
    have H6 := Lib.hid h6
    clear h6
    go_enter Try.func20, Try.ntmps20
    go_wp2_with fail
    refine (blueTuned_w target up down _).mono ?_
    rw [decide_eq_false H6.out]
    rintro e w' ⟨rfl, rfl⟩
    go_wp2
    go_ret2
    exact ⟨rfl, rfl⟩
  all_goals
    go_enter Try.func20, Try.ntmps20
    go_wp2
    go_ret2
    exact ⟨rfl, rfl⟩

set_option maxHeartbeats 2000000 in
theorem blueNew_w (nl nb : Nat) (target hold up down : Int) (w : World) (h1 : 1 ≤ nl ∧ nl ≤ 4) (h2 : 1 ≤ nb ∧ nb ≤ 64) (hh : 0 ≤ hold ∧ hold ≤ 4611686018427387903) (ht : 0 ≤ target ∧ target ≤ 1073741824) (hu : 0 ≤ up ∧ up ≤ 65536) (hd : 0 ≤ down ∧ down ≤ 65536) :
    Calls Try.prog 20 #[.int .i64 nl, .int .i64 nb, .int .i64 target, .int .i64 hold, .int .i64 up, .int .i64 down] w fun e w' =>
      e = .returned (.tuple #[.pointer (some ⟨w.heap.size + 1, 0, none⟩), .int .i64 0]) ∧ Obj1 w' (w.heap.size + 1) (blueC w.heap.size (nl * nb) nl nb target hold up down) 77 ∧ Obj1 w' w.heap.size (binsC (List.replicate (nl * nb) ⟨0, 0, 0⟩)) 82 ∧ Below w.heap.size w w' := by
  have hinfo : (Try.prog.info? 82).map (fun i => (i.zero, i.size, i.bytes)) = some (some (.agg #[.int .i64 0, .int .i64 0, .int .i64 0]), 3, 24) := by kernel_rfl
  obtain ⟨i0, hi, hzz⟩ := Option.map_eq_some_iff.1 hinfo
  simp only [Prod.mk.injEq] at hzz
  obtain ⟨hz0, hz1, hz2⟩ := hzz
  obtain ⟨N, hN⟩ : ∃ N, N = nl * nb := ⟨_, rfl⟩
  have hN2 : (nl : Int) * (nb : Int) = (N : Int) := by rw [hN]; exact (Int.natCast_mul _ _).symm
  have hN3 : N ≤ 4 * 64 := by rw [hN]; exact Nat.mul_le_mul h1.2 h2.2
  have hw1 : IntKind.i64.wrap ((nl : Int) * (nb : Int)) = (N : Int) := by rw [hN2]; exact IntWalk.i64_in _ (by omega)
  have hmk : ∀ W : World, (Instr.makeSlice 75 (.int .i64 (N : Int)) (.int .i64 (N : Int))).run Try.prog W = .ok (.slice (some ⟨W.heap.size, 0, none⟩) N N) (W.alloc (.cells (binsC (List.replicate N ⟨0, 0, 0⟩)) 82)) := fun W => by
    rw [run_make (P := Try.prog) W 75 82 i0 _ Try.underlying75 hi hz0 .i64 .i64 N N (Int.natCast_nonneg _) (Int.le_refl _) (by rw [hz2]; omega) (by omega), hz1, Int.toNat_natCast]
    rw [show (Value.agg #[.int .i64 0, .int .i64 0, .int .i64 0]).cells = #[.int .i64 0, .int .i64 0, .int .i64 0] from by simp [Value.cells], zeros_cells]
  rw [← hN]
  clear hN hN2 hinfo hi hz0 hz1 hz2
  have hl0 : (1 : Int) ≤ (nl : Int) := by omega
  have hl1 : (nl : Int) ≤ 4 := by omega
  have hb0 : (1 : Int) ≤ (nb : Int) := by omega
  have hb1 : (nb : Int) ≤ 64 := by omega
  go_enter Try.func20, Try.ntmps20
  go_wp2_with fail
  refine (blueTuned_w target up down _).mono ?_
  rw [decide_eq_true (show 0 ≤ target ∧ target ≤ 1073741824 ∧ 0 ≤ up ∧ up ≤ 65536 ∧ 0 ≤ down ∧ down ≤ 65536 by omega)]
  rintro e w' ⟨rfl, rfl⟩
  go_wp2
  go_ret2
  refine ⟨by simp, ?_, ?_, ?_⟩
  · have := Obj1.new (w.alloc (.cells (binsC (List.replicate N ⟨0, 0, 0⟩)) 82)) (blueC w.heap.size N nl nb target hold up down) 77
    rw [show (w.alloc (.cells (binsC (List.replicate N ⟨0, 0, 0⟩)) 82)).heap.size = w.heap.size + 1 by simp] at this
    exact this
  · exact (Obj1.new w _ _).alloc _
  · exact bl_alloc (bl_alloc (Below.refl _ _) _) _

end Go.Proofs.Ytcgabjjdffcjbaa
