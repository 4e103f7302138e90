/- The walk of SipSums: it answers true. -/
import Derived.Test.YtgbdkleckmilkaaRefC
import Derived.Test.YtgbdkleckmilkaaSipPartsW
import Derived.Deep.RegionHeld3
namespace Go.Proofs.Ytgbdkleckmilkaa
open Go.RowKit
set_option linter.unusedVariables false
set_option linter.unusedSimpArgs false

theorem SlSl.three (w : World) (t : TypeId) {a1 a2 a3 : Option Addr} {n1 c1 n2 c2 n3 c3 : Nat} {l1 l2 l3 : List Int} (h1 : SlI .u8 w a1 n1 c1 l1) (h2 : SlI .u8 w a2 n2 c2 l2) (h3 : SlI .u8 w a3 n3 c3 l3) :
    SlSl (w.alloc (.cells #[.slice a1 n1 c1, .slice a2 n2 c2, .slice a3 n3 c3] t)) (some ⟨w.heap.size, 0, none⟩) 3 3 [l1, l2, l3] := by
  have hb := bl_alloc (Below.refl w.heap.size w) (.cells #[.slice a1 n1 c1, .slice a2 n2 c2, .slice a3 n3 c3] t)
  refine ⟨rfl, Nat.le_refl _, by omega, fun j l hj => ?_⟩
  match j, hj with
  | 0, hj => simp at hj; subst hj; exact ⟨_, _, _, _, rfl, new_cell w _ t 0, h1.below hb⟩
  | 1, hj => simp at hj; subst hj; exact ⟨_, _, _, _, rfl, new_cell w _ t 1, h2.below hb⟩
  | 2, hj => simp at hj; subst hj; exact ⟨_, _, _, _, rfl, new_cell w _ t 2, h3.below hb⟩
theorem three_flat (l : List Int) (m : Nat) : [l.take m, [], l.drop m].flatten = l := by simp
theorem SlI.cutS {w : World} {A A' : Option Addr} {n c m : Nat} {l : List Int} (h : SlI .u8 w A n c l) (hm : m ≤ n) (hr : ∀ (w : World) (vs : List Value), vs.length = n * 1 → Rd w A vs → Rd w A' (vs.drop (m * 1))) : SlI .u8 w A' (n - m) (c - m) (l.drop m) := by
  obtain ⟨h1, h2, h3, h4, h5⟩ := h
  refine ⟨by simp [h1], by omega, by omega, ?_, fun x hx => h5 x (List.mem_of_mem_drop hx)⟩
  rw [List.map_drop]
  have := hr w _ (by simp [h1]) h4
  rw [Nat.mul_one] at this
  exact this

theorem sumX1_w (key : List Int) (hk : key.length = 16) (hkb : ∀ x ∈ key, 0 ≤ x ∧ x ≤ 255) (l : List Int) (x : BitVec 64) (hx : sipU key l = x) (n : Nat) (hl : l.length = n) (hn : n ≤ 1000000000) {B : Nat} (w : World) (h : SlSl w (some ⟨B, 0, none⟩) 1 1 [l]) :
    Calls Try.prog 15 #[.agg (bys key).toArray, .slice (some ⟨B, 0, none⟩) 1 1] w fun e w' => e = .returned (.int .u64 (uv x)) ∧ Below w.heap.size w w' := by
  rw [← hx]
  exact sum1_w key hk hkb l n hl hn w h
theorem sumX3_w (key : List Int) (hk : key.length = 16) (hkb : ∀ x ∈ key, 0 ≤ x ∧ x ≤ 255) (l : List Int) (m : Nat) (x : BitVec 64) (hx : sipU key l = x) (n : Nat) (hl : l.length = n) (hn : n ≤ 1000000000) {B : Nat} (w : World) (h : SlSl w (some ⟨B, 0, none⟩) 3 3 [l.take m, [], l.drop m]) :
    Calls Try.prog 15 #[.agg (bys key).toArray, .slice (some ⟨B, 0, none⟩) 3 3] w fun e w' => e = .returned (.int .u64 (uv x)) ∧ Below w.heap.size w w' := by
  rw [← hx]
  exact sumP_w key hk hkb (some ⟨B, 0, none⟩) 3 3 _ l (three_flat l m) n hl hn w h

set_option maxRecDepth 100000 in
set_option maxHeartbeats 1500000 in
theorem SipSums_x (key : List Int) (hk16 : key.length = 16) (hkb : ∀ x ∈ key, 0 ≤ x ∧ x ≤ 255) (A : Option Addr) (n c : Nat) (l : List Int) (at_ : Int) (hat : 0 ≤ at_ ∧ at_ ≤ 65535) (w : World) (hs : SlI .u8 w A n c l) :
    Calls Try.prog 3 #[.agg (bys key).toArray, .slice A n c, .int .u16 at_] w fun e w' => e = .returned (.bool true) ∧ Below w.heap.size w w' := by
  have HO1 := Lib.hid (Obj1.new w (bys key).toArray 22)
  have HB := Lib.hid (bl_alloc (Below.refl w.heap.size w) (.cells (bys key).toArray 22))
  have HKS := Lib.hid (key_size0 hk16)
  have hn : n ≤ 9223372036854775807 := Nat.le_trans hs.2.1 hs.2.2.1
  have hnc : n ≤ c := hs.2.1
  have hcb : c ≤ 9223372036854775807 := hs.2.2.1
  have hll : l.length = n := hs.1
  have HS := Lib.hid hs
  have HLL := Lib.hid hll
  clear hs hll
  go_enter Try.func3, Try.ntmps3
  go_wp2_with fail
  refine (awake07_w _).mono ?_
  rintro e w1 ⟨rfl, hb1⟩
  have HP1 := Lib.hid (HO1.out.below hb1)
  have HB1 := Lib.hid (bl_next HB.out hb1)
  clear hb1
  by_cases h4 : 400 < n
  · have h4' : (400 : Int) < (n : Int) := by omega
    go_wp2_with fail
    refine (awake07_w _).mono ?_
    rintro e w2 ⟨rfl, hb2⟩
    have HB2 := Lib.hid (bl_next HB1.out hb2)
    clear hb2
    go_wp2
    go_ret
    exact ⟨rfl, HB2.out⟩
  · have h4' : ¬ (400 : Int) < (n : Int) := by omega
    obtain ⟨N1, hN1⟩ : ∃ N1, N1 = n + 1 := ⟨_, rfl⟩
    obtain ⟨t, rfl⟩ := Int.eq_ofNat_of_zero_le hat.1
    obtain ⟨m, hm⟩ : ∃ m, m = t % N1 := ⟨_, rfl⟩
    have hmn : m ≤ n := by have := Nat.mod_lt t (show 0 < N1 by omega); omega
    have a1 : IntKind.i64.wrap (t : Int) = (t : Int) := IntWalk.i64_in _ (by omega)
    have a2 : IntKind.i64.wrap ((n : Int) + 1) = (N1 : Int) := by rw [show (n : Int) + 1 = (N1 : Int) by omega]; exact IntWalk.i64_in _ (by omega)
    have a3 : (t : Int).tmod (N1 : Int) = (m : Int) := by rw [Int.tmod_eq_emod_of_nonneg (by omega), hm]; rfl
    have a4 : ¬ (N1 : Int) = 0 := by omega
    have a5 : ¬ N1 = 0 := by omega
    have a6 : (t : Int) % (N1 : Int) = (m : Int) := by rw [hm]; rfl
    have HM := Lib.hid hm
    have HN1 := Lib.hid hN1
    clear hm hN1
    go_wp2_with (refine load_obj rfl 22 (.tmp 3) rfl w.heap.size 22 (bys key).toArray _ rfl HP1.out Try.underlying22 rfl HKS.out ?_)
    refine (rsum_w key hk16 hkb A n c l (by omega) _ (HS.out.below HB1.out)).mono ?_
    rintro e w2 ⟨rfl, hb2⟩
    have HK2 := Lib.hid (HP1.out.below hb2)
    have HB2 := Lib.hid (bl_next HB1.out hb2)
    clear hb2
    obtain ⟨A', hcut, hrd⟩ := cut_from (P := Try.prog) 23 5 1 Try.underlying23 (by kernel_rfl) A n c m hmn hnc
    have hcut8 : ∀ W : World, (Instr.slice 23 (.slice A n c) (some (.int .i64 (m : Int))) none none).run Try.prog W = .ok (.slice A' (n - m) (c - m)) W := fun W => hcut W .i64
    have HRD := Lib.hid hrd
    clear hcut hrd
    have hm0 : (0 : Int) ≤ (m : Int) := Int.natCast_nonneg m
    have hmc : (m : Int) ≤ (c : Int) := by omega
    have hmn' : (m : Int) ≤ (n : Int) := by omega
    have hmc2 : m ≤ c := by omega
    obtain ⟨x, hx⟩ : ∃ x, sipU key l = x := ⟨_, rfl⟩
    have HX9 := Lib.hid hx
    rw [hx]
    clear hx
    go_wp2_with fail
    refine wp_region_held_drew (S := (fun w' => Obj1 w' w.heap.size (bys key).toArray 22)) (by kernel_rfl) (HK2.out.drewN 1) (fun hHeld => ?_)
    have HW0 := Lib.hid (show Below w2.heap.size w2 (World.drew w2) from Below.drew (Below.refl _ _))
    generalize hW0 : World.drew _ = W0 at hHeld HW0 ⊢
    have HX := Lib.hid hHeld
    clear hW0 hHeld
    refine wpAnyH_take (i := 0) (v := .agg (bys key).toArray) rfl (by kernel_rfl) (by kernel_rfl) (by kernel_rfl) (fun _ _ _ h => h) (Or.inl ⟨by rfl, ?_⟩) HX.out ?_
    · intro w' hSw
      have hld := run_loadVar_row (P := Try.prog) w' w.heap.size 22 22 (bys key).toArray (0, 0) _ hSw Try.underlying22 rfl HKS.out
      simp [execOp, Act.eval, Instr.loadAt, Instr.sureAddr, Sem.run_bind, hld, Result.andThen]
    go_simp
    refine wpAnyH_take (i := 1) (v := ?_) rfl (by kernel_rfl) (by kernel_rfl) (by kernel_rfl) (fun _ _ _ h => h) (Or.inl ⟨by rfl, ?_⟩) HX.out ?_
    rotate_left
    · intro w hSw; go_simp
      try with_reducible rfl
    go_simp
    refine wpAnyH_take (i := 4) (v := ?_) rfl (by kernel_rfl) (by kernel_rfl) (by kernel_rfl) (fun _ _ _ h => h) (Or.inl ⟨by rfl, ?_⟩) HX.out ?_
    rotate_left
    · intro w hSw; go_simp
      try with_reducible rfl
    go_simp
    refine wpAnyH_ready (rs := [2]) (by kernel_rfl) (by simp) ?_
    refine AllReadyH.cons rfl (fun K hK => ?_) AllReadyH.nil
    go_simp
    refine hK.out _ _ (HX.out.alloc _) (fun hHeld => ?_)
    clear hK K
    obtain ⟨B1, hB1⟩ : ∃ B1, B1 = W0.heap.size := ⟨_, rfl⟩
    have hone := SlSl.oneS W0 23 ((HS.out.below HB2.out).below HW0.out)
    have HX10 := hHeld
    have HW10 := bl_alloc HW0.out (.cells #[.slice A n c] 23)
    generalize hWn : World.alloc W0 _ = W1 at hHeld HX10 ⊢
    rw [hWn] at HW10
    rw [hWn, ← hB1] at hone
    have HONE := Lib.hid hone
    clear hone
    rw [← hB1]
    have HX1 := Lib.hid HX10
    have HW1 := Lib.hid HW10
    clear hHeld HX10 HW10 hWn hB1
    go_simp
    refine wpAnyH_ready (rs := [3]) (by kernel_rfl) (by simp) ?_
    refine AllReadyH.cons rfl (fun K hK => ?_) AllReadyH.nil
    go_simp
    refine (sumX1_w key hk16 hkb l x HX9.out n HLL.out (by omega) _ HONE.out).mono ?_
    rintro e W2 ⟨rfl, hb⟩
    have HBq := Lib.hid hb
    clear hb
    dsimp only
    refine hK.out _ _ (HX1.out.below HBq.out) (fun hHeld => ?_)
    have HX2 := Lib.hid hHeld
    have HW2 := Lib.hid (bl_next HW1.out HBq.out)
    clear hK K hHeld HBq
    go_simp
    refine wpAnyH_take (i := 5) (v := ?_) rfl (by kernel_rfl) (by kernel_rfl) (by kernel_rfl) (fun _ _ _ h => h) (Or.inl ⟨by rfl, ?_⟩) HX2.out ?_
    rotate_left
    · intro w hSw; go_simp
      try with_reducible rfl
    go_simp
    refine wpAnyH_take (i := 6) (v := ?_) rfl (by kernel_rfl) (by kernel_rfl) (by kernel_rfl) (fun _ _ _ h => h) (Or.inl ⟨by rfl, ?_⟩) HX2.out ?_
    rotate_left
    · intro w hSw; go_simp
      try with_reducible rfl
    go_simp
    refine wpAnyH_take (i := 7) (v := .agg (bys key).toArray) rfl (by kernel_rfl) (by kernel_rfl) (by kernel_rfl) (fun _ _ _ h => h) (Or.inl ⟨by rfl, ?_⟩) HX2.out ?_
    · intro w' hSw
      have hld := run_loadVar_row (P := Try.prog) w' w.heap.size 22 22 (bys key).toArray (0, 0) _ hSw Try.underlying22 rfl HKS.out
      simp [execOp, Act.eval, Instr.loadAt, Instr.sureAddr, Sem.run_bind, hld, Result.andThen]
    go_simp
    refine wpAnyH_take (i := 8) (v := ?_) rfl (by kernel_rfl) (by kernel_rfl) (by kernel_rfl) (fun _ _ _ h => h) (Or.inl ⟨by rfl, ?_⟩) HX2.out ?_
    rotate_left
    · intro w hSw; go_simp
      try with_reducible rfl
    go_simp
    refine wpAnyH_take (i := 9) (v := ?_) rfl (by kernel_rfl) (by kernel_rfl) (by kernel_rfl) (fun _ _ _ h => h) (Or.inl ⟨by rfl, ?_⟩) HX2.out ?_
    rotate_left
    · intro w hSw; go_simp
      try with_reducible rfl
    go_simp
    refine wpAnyH_take (i := 10) (v := ?_) rfl (by kernel_rfl) (by kernel_rfl) (by kernel_rfl) (fun _ _ _ h => h) (Or.inl ⟨by rfl, ?_⟩) HX2.out ?_
    rotate_left
    · intro w hSw; go_simp
      try with_reducible rfl
    go_simp
    refine wpAnyH_take (i := 11) (v := ?_) rfl (by kernel_rfl) (by kernel_rfl) (by kernel_rfl) (fun _ _ _ h => h) (Or.inl ⟨by rfl, ?_⟩) HX2.out ?_
    rotate_left
    · intro w hSw; go_simp
      try with_reducible rfl
    go_simp
    refine wpAnyH_take (i := 12) (v := ?_) rfl (by kernel_rfl) (by kernel_rfl) (by kernel_rfl) (fun _ _ _ h => h) (Or.inl ⟨by rfl, ?_⟩) HX2.out ?_
    rotate_left
    · intro w hSw; go_simp
      try with_reducible rfl
    go_simp
    refine wpAnyH_take (i := 13) (v := ?_) rfl (by kernel_rfl) (by kernel_rfl) (by kernel_rfl) (fun _ _ _ h => h) (Or.inl ⟨by rfl, ?_⟩) HX2.out ?_
    rotate_left
    · intro w hSw; go_simp
      try with_reducible rfl
    go_simp
    refine wpAnyH_take (i := 16) (v := ?_) rfl (by kernel_rfl) (by kernel_rfl) (by kernel_rfl) (fun _ _ _ h => h) (Or.inl ⟨by rfl, ?_⟩) HX2.out ?_
    rotate_left
    · intro w hSw; go_simp
      try with_reducible rfl
    go_simp
    refine wpAnyH_ready (rs := [14]) (by kernel_rfl) (by simp) ?_
    refine AllReadyH.cons rfl (fun K hK => ?_) AllReadyH.nil
    go_simp
    refine hK.out _ _ (HX2.out.alloc _) (fun hHeld => ?_)
    clear hK K
    obtain ⟨B3, hB3⟩ : ∃ B3, B3 = W2.heap.size := ⟨_, rfl⟩
    have hs2 := (HS.out.below HB2.out).below HW2.out
    have hthree := SlSl.three W2 23 (hs2.take m hmn) (sli_nil W2) (hs2.cutS hmn HRD.out)
    have HX30 := hHeld
    have HW30 := bl_alloc HW2.out (.cells #[.slice A m c, .slice none 0 0, .slice A' (n - m) (c - m)] 23)
    generalize hWn : World.alloc W2 _ = W3 at hHeld HX30 ⊢
    rw [hWn] at HW30
    rw [hWn, ← hB3] at hthree
    have HTHREE := Lib.hid hthree
    clear hthree hs2
    rw [← hB3]
    have HX3 := Lib.hid HX30
    have HW3 := Lib.hid HW30
    clear hHeld HX30 HW30 hWn hB3
    go_simp
    refine wpAnyH_ready (rs := [15]) (by kernel_rfl) (by simp) ?_
    refine AllReadyH.cons rfl (fun K hK => ?_) AllReadyH.nil
    go_simp
    refine (sumX3_w key hk16 hkb l m x HX9.out n HLL.out (by omega) _ HTHREE.out).mono ?_
    rintro e W4 ⟨rfl, hb⟩
    have HBq := Lib.hid hb
    clear hb
    dsimp only
    refine hK.out _ _ (HX3.out.below HBq.out) (fun hHeld => ?_)
    have HX4 := Lib.hid hHeld
    have HW4 := Lib.hid (bl_next HW3.out HBq.out)
    clear hK K hHeld HBq
    go_simp
    refine wpAnyH_take (i := 17) (v := ?_) rfl (by kernel_rfl) (by kernel_rfl) (by kernel_rfl) (fun _ _ _ h => h) (Or.inl ⟨by rfl, ?_⟩) HX4.out ?_
    rotate_left
    · intro w hSw; go_simp
      try with_reducible rfl
    go_simp
    refine wpAnyH_take (i := 18) (v := ?_) rfl (by kernel_rfl) (by kernel_rfl) (by kernel_rfl) (fun _ _ _ h => h) (Or.inl ⟨by rfl, ?_⟩) HX4.out ?_
    rotate_left
    · intro w hSw; go_simp
      try with_reducible rfl
    go_simp
    refine wpAnyH_take (i := 19) (v := ?_) rfl (by kernel_rfl) (by kernel_rfl) (by kernel_rfl) (fun _ _ _ h => h) (Or.inl ⟨by rfl, ?_⟩) HX4.out ?_
    rotate_left
    · intro w hSw; go_simp
      try with_reducible rfl
    go_simp
    refine wpAnyH_done (by kernel_rfl) ?_ _
    go_wp2
    go_ret
    exact ⟨rfl, bl_next HB2.out HW4.out⟩

theorem SipSums_w (l0 : Array Value) (a1 : Option Addr) (n1 c1 : Nat) (l1 : List Int) (a2 : Int) (W : World) (w0 : okCells (List.replicate 16 (.i .u8)) l0.toList) (w1 : SlI .u8 W a1 n1 c1 l1) (w2 : (Lit.int .u16 a2).wf = true) :
    Calls Try.prog 3 #[.agg l0, .slice a1 n1 c1, .int .u16 a2] W fun e w' => e = .returned (.bool true) ∧ Below W.heap.size W w' := by
  obtain ⟨key, h1, hk, hkb⟩ := bytes_of w0
  obtain rfl : l0 = (bys key).toArray := by rw [← h1]
  exact SipSums_x key hk hkb a1 n1 c1 l1 a2 (u16_range w2) W w1
end Go.Proofs.Ytgbdkleckmilkaa
