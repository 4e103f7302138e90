/- Blue's each, with each of its closures; New, Put, Take, Touch, Mark, Bin. -/
import Derived.Test.YtcgabjjdffcjbaaBlueB
namespace Go.Proofs.Ytcgabjjdffcjbaa
open Go.RowKit
set_option linter.unusedVariables false
set_option linter.unusedSimpArgs false

theorem upd_rd {w W : World} {k : IntKind} {A : Option Addr} {n c D : Nat} {ks : List Int} (h : SlI k w A n c ks) (hu : Upd D w W) (hne : ∀ ad, A = some ad → ad.block ≠ D) : SlI k W A n c ks :=
  ⟨h.1, h.2.1, h.2.2.1, h.2.2.2.1.upd hu hne, h.2.2.2.2⟩
theorem updN_step (f : Bn → Bn) (nb : Nat) (ks : List Int) (j : Nat) (l : List Bn) : updN f nb ks (j + 1) l = (updN f nb ks j l).modify (j * nb + (nth ks j).toNat) f := rfl
theorem ok_updN {f : Bn → Bn} (hf : ∀ b, okBn b → okBn (f b)) (nb : Nat) (ks : List Int) : ∀ (j : Nat) (l : List Bn), (∀ b ∈ l, okBn b) → ∀ b ∈ updN f nb ks j l, okBn b
  | 0, l, h => h
  | j + 1, l, h => by
    intro b hb
    rw [updN_step] at hb
    obtain ⟨i, hi⟩ := List.getElem?_of_mem hb
    rw [List.getElem?_modify] at hi
    have ih := ok_updN hf nb ks j l h
    cases hx : (updN f nb ks j l)[i]? with
    | none => rw [hx] at hi; simp at hi
    | some x =>
      rw [hx] at hi
      simp at hi
      have := ih x (List.mem_of_getElem? hx)
      split at hi <;> (subst hi; first | exact hf _ this | exact this)
theorem ok_put (v : Int) (b : Bn) (h : okBn b) : okBn (putF v b) := ⟨plus_range _ _ (cnt_range _), h.2⟩
theorem subC_range (a b : Int) : 0 ≤ subC a b ∧ subC a b ≤ 4611686018427387904 := by
  have := cnt_range a
  have := cnt_range b
  unfold subC
  split <;> omega
theorem ok_take (v : Int) (b : Bn) (h : okBn b) : okBn (takeF v b) := ⟨subC_range _ _, h.2⟩
theorem ok_touch (now target hold up down : Int) (hu : 0 ≤ up) (hd : 0 ≤ down) (b : Bn) (h : okBn b) : okBn (touchF now target hold up down b) := by
  obtain ⟨h1, h2, h3, h4⟩ := h
  have hT := blueNow_range now
  unfold touchF
  split
  · exact ⟨h1, h2, h3, h4⟩
  · split
    · refine ⟨h1, hT, ?_⟩
      show 0 ≤ (if b.p + up ≤ 65536 then b.p + up else 65536) ∧ (if b.p + up ≤ 65536 then b.p + up else 65536) ≤ 65536
      split <;> omega
    · split
      · refine ⟨h1, hT, ?_⟩
        show 0 ≤ (if 0 ≤ b.p - down then b.p - down else 0) ∧ (if 0 ≤ b.p - down then b.p - down else 0) ≤ 65536
        split <;> omega
      · exact ⟨h1, h2, h3, h4⟩
theorem bin_there {l : List Bn} {N nl nb k : Nat} {x : Int} (hl : l.length = N) (hN : N = nl * nb) (hk : k < nl) (hx : 0 ≤ x ∧ x < (nb : Int)) : k * nb + x.toNat < N ∧ ∃ b, l[k * nb + x.toNat]? = some b := by
  have h1 : x.toNat < nb := by omega
  have h2 : (k + 1) * nb ≤ nl * nb := Nat.mul_le_mul_right nb hk
  rw [Nat.add_mul, Nat.one_mul] at h2
  have h3 : k * nb + x.toNat < N := by omega
  exact ⟨h3, ⟨_, List.getElem?_eq_getElem (by omega)⟩⟩

set_option maxRecDepth 100000 in
set_option maxHeartbeats 2000000 in
theorem eachPut_w (B D N nl nb : Nat) (target hold up down : Int) (E : Nat) (v : Int) (A : Option Addr) (n c : Nat) (ks : List Int) (l : List Bn) (w : World)
    (hBl : Obj1 w B (blueC D N nl nb target hold up down) 77) (hD : Obj1 w D (binsC l) 82) (hs : SlI .i64 w A n c ks) (hl : l.length = N) (hN : N = nl * nb) (hnb : nb ≤ 64) (hnl : nl ≤ 4)
    (hne : B ≠ D) (hneA : 0 < n → ∀ ad, A = some ad → ad.block ≠ D) (hE : w.cell? ⟨E, 0, none⟩ = some (.int .i64 v)) (hneE : E ≠ D) :
    Calls Try.prog 40 #[.pointer (some ⟨B, 0, none⟩), .slice A n c, .func (.func 41) #[] #[.pointer (some ⟨E, 0, none⟩)]] w fun e w' => e = .returned (.bool (flowsB nl nb ks)) ∧
      Obj1 w' D (binsC (if flowsB nl nb ks = true then updN (putF v) nb ks nl l else l)) 82 ∧ Upd D w w' := by
  have hn : n ≤ 9223372036854775807 := Nat.le_trans hs.2.1 hs.2.2.1
  have hlen : ks.length = n := hs.1
  have HS := Lib.hid hs
  have HBL := Lib.hid hBl
  have HN := Lib.hid hN
  have HD := Lib.hid hD
  clear hs hBl hD hN
  cases hfl : flowsB nl nb ks
  · have HFL := Lib.hid hfl
    clear hfl
    go_enter Try.func40, Try.ntmps40
    go_wp2_with fail
    refine (blueFlows_w B D N nl nb target hold up down A n c ks _ HBL.out HS.out hnb hnl).mono ?_
    rw [HFL.out]
    rintro e w' ⟨rfl, rfl⟩
    go_wp2
    go_ret
    exact ⟨rfl, by simpa using HD.out, Upd.refl _ _⟩
  · obtain ⟨hnn, hks⟩ := flowsB_at hfl
    rw [hlen] at hnn
    subst hnn
    have HFL := Lib.hid hfl
    have HKS := Lib.hid hks
    clear hfl hks
    go_enter Try.func40, Try.ntmps40
    go_wp2_with fail
    refine (blueFlows_w B D N n nb target hold up down A n c ks _ HBL.out HS.out hnb hnl).mono ?_
    rw [HFL.out]
    rintro e w' ⟨rfl, rfl⟩
    go_wp2_with fail
    go_loopw [15] (fun i wr => ∃ (k : Nat), k ≤ n ∧ i = .int .i64 k ∧ Obj1 wr D (binsC (updN (putF v) nb ks k l)) 82 ∧ Upd D w wr) (fun i _ => n - (intOf i).toNat)
    case atStart => exact ⟨0, Nat.zero_le _, rfl, HD.out, Upd.refl _ _⟩
    case round =>
      obtain ⟨k, hk, rfl, hobj, hupd⟩ := hrel
      by_cases hlt : k < n
      · have hx := HKS.out k hlt
        obtain ⟨ad, rfl, hc, hw⟩ := (upd_rd HS.out hupd (hneA (by omega))).at k hlt
        clear hw
        obtain ⟨x, hxd⟩ : ∃ x, nth ks k = x := ⟨_, rfl⟩
        have hstep := updN_step (putF v) nb ks k l
        rw [hxd] at hx hc hstep
        obtain ⟨hM, b, hb⟩ := bin_there (l := updN (putF v) nb ks k l) (N := N) (nl := n) (nb := nb) (k := k) (x := x) (by rw [updN_length]; exact hl) HN.out hlt hx
        have hmem : b ∈ updN (putF v) nb ks k l := List.mem_of_getElem? hb
        obtain ⟨P, hP⟩ : ∃ P, P = k * nb := ⟨_, rfl⟩
        have hP2 : (k : Int) * (nb : Int) = (P : Int) := by rw [hP]; exact (Int.natCast_mul _ _).symm
        have hP3 : P ≤ 4 * 64 := by rw [hP]; exact Nat.mul_le_mul (by omega) hnb
        rw [← hP] at hb hM hstep
        obtain ⟨M, hMd⟩ : ∃ M, M = P + x.toNat := ⟨_, rfl⟩
        rw [← hMd] at hb hM hstep
        have hw1 : IntKind.i64.wrap ((k : Int) * (nb : Int)) = (P : Int) := by rw [hP2]; exact IntWalk.i64_in _ (by omega)
        have hw2 : IntKind.i64.wrap ((P : Int) + x) = (M : Int) := by rw [hMd]; rw [IntWalk.i64_in _ (by omega)]; omega
        have hM0 : (0 : Int) ≤ (M : Int) := Int.natCast_nonneg M
        have hM1 : (M : Int) < (N : Int) := by omega
        have hk0 : (0 : Int) ≤ (k : Int) := Int.natCast_nonneg k
        have hk1 : (k : Int) < (n : Int) := by omega
        have hBl' : Obj1 wr B (blueC D N n nb target hold up down) 77 := Obj1.of_grown HBL.out hupd (by simpa using hne)
        have c0 : wr.cell? ⟨B, 0, none⟩ = some (.slice (some ⟨D, 0, none⟩) N N) := hBl'.cell 0
        have c2 : wr.cell? ⟨B, 2, none⟩ = some (.int .i64 nb) := hBl'.cell 2
        have cE : wr.cell? ⟨E, 0, none⟩ = some (.int .i64 v) := keep_upd hupd hE hneE
        have HO := Lib.hid hobj
        have HU := Lib.hid hupd
        have HBB := Lib.hid hb
        have HBL2 := Lib.hid hBl'
        have HST := Lib.hid hstep
        clear hobj hupd hb hBl' hstep hxd hMd hP hP2
        go_wp2_with fail
        refine wp_region_still_tail 14 (by kernel_rfl) (by kernel_rfl) ?_
        change wpStill _ _ (World.drew _) (fun a' => wpList _ _ _ _ a' (World.drew _)) _ _
        simp only [List.take_succ_cons, List.take_zero, List.drop_succ_cons, List.drop_zero]
        repeat still_step
        refine wpStill_nil ?_
        go_wp2_with fail
        refine (bluePut1_w D E M v (updN (putF v) nb ks k l) b _ (by exact HO.out) HBB.out (by exact cE)).mono ?_
        rintro e w2 ⟨rfl, ho2, hu2⟩
        have HO2 := Lib.hid ho2
        have HU2 := Lib.hid ((show Upd D w wr.drew from HU.out.drewN 1).trans hu2)
        clear ho2 hu2
        go_wp2_with fail
        go_roundw
        case rel => exact ⟨k + 1, by omega, by go_num, by rw [HST.out]; exact HO2.out, HU2.out⟩
        case measure => simp [intOf]; omega
      · obtain rfl : k = n := by omega
        have HO := Lib.hid hobj
        have HU := Lib.hid hupd
        clear hobj hupd
        go_wp2
        go_ret
        exact ⟨rfl, by simpa using HO.out, HU.out⟩

set_option maxRecDepth 100000 in
set_option maxHeartbeats 2000000 in
theorem eachTake_w (B D N nl nb : Nat) (target hold up down : Int) (E : Nat) (v : Int) (A : Option Addr) (n c : Nat) (ks : List Int) (l : List Bn) (w : World)
    (hBl : Obj1 w B (blueC D N nl nb target hold up down) 77) (hD : Obj1 w D (binsC l) 82) (hs : SlI .i64 w A n c ks) (hl : l.length = N) (hN : N = nl * nb) (hnb : nb ≤ 64) (hnl : nl ≤ 4)
    (hne : B ≠ D) (hneA : 0 < n → ∀ ad, A = some ad → ad.block ≠ D) (hE : w.cell? ⟨E, 0, none⟩ = some (.int .i64 v)) (hneE : E ≠ D) :
    Calls Try.prog 40 #[.pointer (some ⟨B, 0, none⟩), .slice A n c, .func (.func 43) #[] #[.pointer (some ⟨E, 0, none⟩)]] w fun e w' => e = .returned (.bool (flowsB nl nb ks)) ∧
      Obj1 w' D (binsC (if flowsB nl nb ks = true then updN (takeF v) nb ks nl l else l)) 82 ∧ Upd D w w' := by
  have hn : n ≤ 9223372036854775807 := Nat.le_trans hs.2.1 hs.2.2.1
  have hlen : ks.length = n := hs.1
  have HS := Lib.hid hs
  have HBL := Lib.hid hBl
  have HN := Lib.hid hN
  have HD := Lib.hid hD
  clear hs hBl hD hN
  cases hfl : flowsB nl nb ks
  · have HFL := Lib.hid hfl
    clear hfl
    go_enter Try.func40, Try.ntmps40
    go_wp2_with fail
    refine (blueFlows_w B D N nl nb target hold up down A n c ks _ HBL.out HS.out hnb hnl).mono ?_
    rw [HFL.out]
    rintro e w' ⟨rfl, rfl⟩
    go_wp2
    go_ret
    exact ⟨rfl, by simpa using HD.out, Upd.refl _ _⟩
  · obtain ⟨hnn, hks⟩ := flowsB_at hfl
    rw [hlen] at hnn
    subst hnn
    have HFL := Lib.hid hfl
    have HKS := Lib.hid hks
    clear hfl hks
    go_enter Try.func40, Try.ntmps40
    go_wp2_with fail
    refine (blueFlows_w B D N n nb target hold up down A n c ks _ HBL.out HS.out hnb hnl).mono ?_
    rw [HFL.out]
    rintro e w' ⟨rfl, rfl⟩
    go_wp2_with fail
    go_loopw [15] (fun i wr => ∃ (k : Nat), k ≤ n ∧ i = .int .i64 k ∧ Obj1 wr D (binsC (updN (takeF v) nb ks k l)) 82 ∧ Upd D w wr) (fun i _ => n - (intOf i).toNat)
    case atStart => exact ⟨0, Nat.zero_le _, rfl, HD.out, Upd.refl _ _⟩
    case round =>
      obtain ⟨k, hk, rfl, hobj, hupd⟩ := hrel
      by_cases hlt : k < n
      · have hx := HKS.out k hlt
        obtain ⟨ad, rfl, hc, hw⟩ := (upd_rd HS.out hupd (hneA (by omega))).at k hlt
        clear hw
        obtain ⟨x, hxd⟩ : ∃ x, nth ks k = x := ⟨_, rfl⟩
        have hstep := updN_step (takeF v) nb ks k l
        rw [hxd] at hx hc hstep
        obtain ⟨hM, b, hb⟩ := bin_there (l := updN (takeF v) nb ks k l) (N := N) (nl := n) (nb := nb) (k := k) (x := x) (by rw [updN_length]; exact hl) HN.out hlt hx
        have hmem : b ∈ updN (takeF v) nb ks k l := List.mem_of_getElem? hb
        obtain ⟨P, hP⟩ : ∃ P, P = k * nb := ⟨_, rfl⟩
        have hP2 : (k : Int) * (nb : Int) = (P : Int) := by rw [hP]; exact (Int.natCast_mul _ _).symm
        have hP3 : P ≤ 4 * 64 := by rw [hP]; exact Nat.mul_le_mul (by omega) hnb
        rw [← hP] at hb hM hstep
        obtain ⟨M, hMd⟩ : ∃ M, M = P + x.toNat := ⟨_, rfl⟩
        rw [← hMd] at hb hM hstep
        have hw1 : IntKind.i64.wrap ((k : Int) * (nb : Int)) = (P : Int) := by rw [hP2]; exact IntWalk.i64_in _ (by omega)
        have hw2 : IntKind.i64.wrap ((P : Int) + x) = (M : Int) := by rw [hMd]; rw [IntWalk.i64_in _ (by omega)]; omega
        have hM0 : (0 : Int) ≤ (M : Int) := Int.natCast_nonneg M
        have hM1 : (M : Int) < (N : Int) := by omega
        have hk0 : (0 : Int) ≤ (k : Int) := Int.natCast_nonneg k
        have hk1 : (k : Int) < (n : Int) := by omega
        have hBl' : Obj1 wr B (blueC D N n nb target hold up down) 77 := Obj1.of_grown HBL.out hupd (by simpa using hne)
        have c0 : wr.cell? ⟨B, 0, none⟩ = some (.slice (some ⟨D, 0, none⟩) N N) := hBl'.cell 0
        have c2 : wr.cell? ⟨B, 2, none⟩ = some (.int .i64 nb) := hBl'.cell 2
        have cE : wr.cell? ⟨E, 0, none⟩ = some (.int .i64 v) := keep_upd hupd hE hneE
        have HO := Lib.hid hobj
        have HU := Lib.hid hupd
        have HBB := Lib.hid hb
        have HBL2 := Lib.hid hBl'
        have HST := Lib.hid hstep
        clear hobj hupd hb hBl' hstep hxd hMd hP hP2
        go_wp2_with fail
        refine wp_region_still_tail 14 (by kernel_rfl) (by kernel_rfl) ?_
        change wpStill _ _ (World.drew _) (fun a' => wpList _ _ _ _ a' (World.drew _)) _ _
        simp only [List.take_succ_cons, List.take_zero, List.drop_succ_cons, List.drop_zero]
        repeat still_step
        refine wpStill_nil ?_
        go_wp2_with fail
        refine (blueTake1_w D E M v (updN (takeF v) nb ks k l) b _ (by exact HO.out) HBB.out (by exact cE)).mono ?_
        rintro e w2 ⟨rfl, ho2, hu2⟩
        have HO2 := Lib.hid ho2
        have HU2 := Lib.hid ((show Upd D w wr.drew from HU.out.drewN 1).trans hu2)
        clear ho2 hu2
        go_wp2_with fail
        go_roundw
        case rel => exact ⟨k + 1, by omega, by go_num, by rw [HST.out]; exact HO2.out, HU2.out⟩
        case measure => simp [intOf]; omega
      · obtain rfl : k = n := by omega
        have HO := Lib.hid hobj
        have HU := Lib.hid hupd
        clear hobj hupd
        go_wp2
        go_ret
        exact ⟨rfl, by simpa using HO.out, HU.out⟩

set_option maxRecDepth 100000 in
set_option maxHeartbeats 2000000 in
theorem eachTouch_w (B D N nl nb : Nat) (target hold up down : Int) (E F : Nat) (now : Int) (A : Option Addr) (n c : Nat) (ks : List Int) (l : List Bn) (w : World)
    (hBl : Obj1 w B (blueC D N nl nb target hold up down) 77) (hD : Obj1 w D (binsC l) 82) (hs : SlI .i64 w A n c ks) (hl : l.length = N) (hN : N = nl * nb) (hnb : nb ≤ 64) (hnl : nl ≤ 4)
    (hne : B ≠ D) (hneA : 0 < n → ∀ ad, A = some ad → ad.block ≠ D) (hE : w.cell? ⟨E, 0, none⟩ = some (.int .i64 now)) (hF : w.cell? ⟨F, 0, none⟩ = some (.pointer (some ⟨B, 0, none⟩))) (hneE : E ≠ D) (hneF : F ≠ D) (hok : ∀ b ∈ l, okBn b)
    (hi : -9223372036854775808 ≤ now ∧ now ≤ 9223372036854775807) (hh : 0 ≤ hold ∧ hold ≤ 4611686018427387903) (ht : 0 ≤ target ∧ target ≤ 1073741824) (hu : 0 ≤ up ∧ up ≤ 65536) (hd : 0 ≤ down ∧ down ≤ 65536) :
    Calls Try.prog 40 #[.pointer (some ⟨B, 0, none⟩), .slice A n c, .func (.func 45) #[] #[.pointer (some ⟨E, 0, none⟩), .pointer (some ⟨F, 0, none⟩)]] w fun e w' => e = .returned (.bool (flowsB nl nb ks)) ∧
      Obj1 w' D (binsC (if flowsB nl nb ks = true then updN (touchF now target hold up down) nb ks nl l else l)) 82 ∧ Upd D w w' := by
  have hn : n ≤ 9223372036854775807 := Nat.le_trans hs.2.1 hs.2.2.1
  have hlen : ks.length = n := hs.1
  have HS := Lib.hid hs
  have HOK := Lib.hid hok
  have HBL := Lib.hid hBl
  have HN := Lib.hid hN
  have HD := Lib.hid hD
  clear hs hBl hD hN hok
  cases hfl : flowsB nl nb ks
  · have HFL := Lib.hid hfl
    clear hfl
    go_enter Try.func40, Try.ntmps40
    go_wp2_with fail
    refine (blueFlows_w B D N nl nb target hold up down A n c ks _ HBL.out HS.out hnb hnl).mono ?_
    rw [HFL.out]
    rintro e w' ⟨rfl, rfl⟩
    go_wp2
    go_ret
    exact ⟨rfl, by simpa using HD.out, Upd.refl _ _⟩
  · obtain ⟨hnn, hks⟩ := flowsB_at hfl
    rw [hlen] at hnn
    subst hnn
    have HFL := Lib.hid hfl
    have HKS := Lib.hid hks
    clear hfl hks
    go_enter Try.func40, Try.ntmps40
    go_wp2_with fail
    refine (blueFlows_w B D N n nb target hold up down A n c ks _ HBL.out HS.out hnb hnl).mono ?_
    rw [HFL.out]
    rintro e w' ⟨rfl, rfl⟩
    go_wp2_with fail
    go_loopw [15] (fun i wr => ∃ (k : Nat), k ≤ n ∧ i = .int .i64 k ∧ Obj1 wr D (binsC (updN (touchF now target hold up down) nb ks k l)) 82 ∧ Upd D w wr) (fun i _ => n - (intOf i).toNat)
    case atStart => exact ⟨0, Nat.zero_le _, rfl, HD.out, Upd.refl _ _⟩
    case round =>
      obtain ⟨k, hk, rfl, hobj, hupd⟩ := hrel
      by_cases hlt : k < n
      · have hx := HKS.out k hlt
        obtain ⟨ad, rfl, hc, hw⟩ := (upd_rd HS.out hupd (hneA (by omega))).at k hlt
        clear hw
        obtain ⟨x, hxd⟩ : ∃ x, nth ks k = x := ⟨_, rfl⟩
        have hstep := updN_step (touchF now target hold up down) nb ks k l
        rw [hxd] at hx hc hstep
        obtain ⟨hM, b, hb⟩ := bin_there (l := updN (touchF now target hold up down) nb ks k l) (N := N) (nl := n) (nb := nb) (k := k) (x := x) (by rw [updN_length]; exact hl) HN.out hlt hx
        have hmem : b ∈ updN (touchF now target hold up down) nb ks k l := List.mem_of_getElem? hb
        obtain ⟨P, hP⟩ : ∃ P, P = k * nb := ⟨_, rfl⟩
        have hP2 : (k : Int) * (nb : Int) = (P : Int) := by rw [hP]; exact (Int.natCast_mul _ _).symm
        have hP3 : P ≤ 4 * 64 := by rw [hP]; exact Nat.mul_le_mul (by omega) hnb
        rw [← hP] at hb hM hstep
        obtain ⟨M, hMd⟩ : ∃ M, M = P + x.toNat := ⟨_, rfl⟩
        rw [← hMd] at hb hM hstep
        have hw1 : IntKind.i64.wrap ((k : Int) * (nb : Int)) = (P : Int) := by rw [hP2]; exact IntWalk.i64_in _ (by omega)
        have hw2 : IntKind.i64.wrap ((P : Int) + x) = (M : Int) := by rw [hMd]; rw [IntWalk.i64_in _ (by omega)]; omega
        have hM0 : (0 : Int) ≤ (M : Int) := Int.natCast_nonneg M
        have hM1 : (M : Int) < (N : Int) := by omega
        have hk0 : (0 : Int) ≤ (k : Int) := Int.natCast_nonneg k
        have hk1 : (k : Int) < (n : Int) := by omega
        have hBl' : Obj1 wr B (blueC D N n nb target hold up down) 77 := Obj1.of_grown HBL.out hupd (by simpa using hne)
        have c0 : wr.cell? ⟨B, 0, none⟩ = some (.slice (some ⟨D, 0, none⟩) N N) := hBl'.cell 0
        have c2 : wr.cell? ⟨B, 2, none⟩ = some (.int .i64 nb) := hBl'.cell 2
        have cE : wr.cell? ⟨E, 0, none⟩ = some (.int .i64 now) := keep_upd hupd hE hneE
        have cF : wr.cell? ⟨F, 0, none⟩ = some (.pointer (some ⟨B, 0, none⟩)) := keep_upd hupd hF hneF
        have hbok : okBn b := ok_updN (ok_touch now target hold up down hu.1 hd.1) nb ks k l HOK.out b hmem
        have HBOK := Lib.hid hbok
        clear hbok
        have HO := Lib.hid hobj
        have HU := Lib.hid hupd
        have HBB := Lib.hid hb
        have HBL2 := Lib.hid hBl'
        have HST := Lib.hid hstep
        clear hobj hupd hb hBl' hstep hxd hMd hP hP2
        go_wp2_with fail
        refine wp_region_still_tail 14 (by kernel_rfl) (by kernel_rfl) ?_
        change wpStill _ _ (World.drew _) (fun a' => wpList _ _ _ _ a' (World.drew _)) _ _
        simp only [List.take_succ_cons, List.take_zero, List.drop_succ_cons, List.drop_zero]
        repeat still_step
        refine wpStill_nil ?_
        go_wp2_with fail
        refine (blueTouch1_w B D E F M N n nb now target hold up down (updN (touchF now target hold up down) nb ks k l) b _ (by exact HO.out) HBB.out (by exact cE) (by exact cF) (by exact HBL2.out) HBOK.out hne hi hh ht hu hd).mono ?_
        rintro e w2 ⟨rfl, ho2, hu2⟩
        have HO2 := Lib.hid ho2
        have HU2 := Lib.hid ((show Upd D w wr.drew from HU.out.drewN 1).trans hu2)
        clear ho2 hu2
        go_wp2_with fail
        go_roundw
        case rel => exact ⟨k + 1, by omega, by go_num, by rw [HST.out]; exact HO2.out, HU2.out⟩
        case measure => simp [intOf]; omega
      · obtain rfl : k = n := by omega
        have HO := Lib.hid hobj
        have HU := Lib.hid hupd
        clear hobj hupd
        go_wp2
        go_ret
        exact ⟨rfl, by simpa using HO.out, HU.out⟩

end Go.Proofs.Ytcgabjjdffcjbaa
