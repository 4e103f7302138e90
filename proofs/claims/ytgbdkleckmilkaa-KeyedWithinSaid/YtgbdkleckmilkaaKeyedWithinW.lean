/- The walk of KeyedWithin: it answers true. -/
import Derived.Test.YtgbdkleckmilkaaFlOf
namespace Go.Proofs.Ytgbdkleckmilkaa
open Go.RowKit
set_option linter.unusedVariables false
set_option linter.unusedSimpArgs false

set_option maxRecDepth 100000 in
set_option maxHeartbeats 3000000 in
theorem KeyedWithin_x (key : List Int) (hk16 : key.length = 16) (hkb : ∀ x ∈ key, 0 ≤ x ∧ x ≤ 255) (f : Fl) (hf : okFl f) (lv n : Int) (hlv : 0 ≤ lv ∧ lv ≤ 255) (hn : 0 ≤ n ∧ n ≤ 255) (w : World) :
    Calls Try.prog 7 #[.agg (bys key).toArray, .agg (flC f).toArray, .int .u8 lv, .int .u8 n] w fun e w' => e = .returned (.bool true) ∧ Below w.heap.size w w' := by
  have hO1 := (Obj1.new w (bys key).toArray 22).alloc (.cells (flC f).toArray 34)
  have hO2 := Obj1.new (w.alloc (.cells (bys key).toArray 22)) (flC f).toArray 34
  have e1 : (w.alloc (.cells (bys key).toArray 22)).heap.size = w.heap.size + 1 := by simp
  rw [e1] at hO2
  have HO1 := Lib.hid hO1
  have HO2 := Lib.hid hO2
  have HB := Lib.hid (bl_alloc (bl_alloc (Below.refl w.heap.size w) (.cells (bys key).toArray 22)) (.cells (flC f).toArray 34))
  have HKS := Lib.hid (key_size hk16)
  have HFS := Lib.hid (fl_size hf)
  have b1 : IntKind.i64.wrap n = n := IntWalk.i64_in _ (by omega)
  have b2 : IntKind.i64.wrap lv = lv := IntWalk.i64_in _ (by omega)
  clear hO1 hO2 e1
  go_enter Try.func7, Try.ntmps7
  go_wp2_with fail
  refine (awake13_w _).mono ?_
  rintro e w1 ⟨rfl, hb1⟩
  have HP1 := Lib.hid (HO1.out.below hb1)
  have HP2 := Lib.hid (HO2.out.below hb1)
  have HB1 := Lib.hid (bl_next HB.out hb1)
  clear hb1
  by_cases h0 : n = 0
  · subst h0
    go_wp2_with fail
    refine (awake13_w _).mono ?_
    rintro e w2 ⟨rfl, hb2⟩
    have HB2 := Lib.hid (bl_next HB1.out hb2)
    clear hb2
    go_wp2
    go_ret
    exact ⟨rfl, HB2.out⟩
  · have hn1 : 1 ≤ n := by omega
    go_wp2_with (first
      | (refine load_obj rfl 22 (.tmp 4) rfl w.heap.size 22 (bys key).toArray _ rfl HP1.out Try.underlying22 rfl HKS.out ?_)
      | (refine load_obj rfl 34 (.tmp 5) rfl (w.heap.size + 1) 34 (flC f).toArray _ rfl HP2.out Try.underlying34 rfl HFS.out ?_))
    refine (bins_w key hk16 hkb f hf 4 n (by omega) (by omega) (by omega) 4 (by decide) _).mono ?_
    rintro e w2 ⟨A1, c1, rfl, hs1, hb2⟩
    have HQ1 := Lib.hid (HP1.out.below hb2)
    have HQ2 := Lib.hid (HP2.out.below hb2)
    have HB2 := Lib.hid (bl_next HB1.out hb2)
    have HS1 := Lib.hid hs1
    clear hb2 hs1
    go_wp2_with (first
      | (refine load_obj rfl 22 (.tmp 4) rfl w.heap.size 22 (bys key).toArray _ rfl HQ1.out Try.underlying22 rfl HKS.out ?_)
      | (refine load_obj rfl 34 (.tmp 5) rfl (w.heap.size + 1) 34 (flC f).toArray _ rfl HQ2.out Try.underlying34 rfl HFS.out ?_))
    obtain ⟨m, hm⟩ : ∃ m : Nat, (m : Int) = if lv ≤ 0 then 0 else if lv ≤ 4 then lv else 4 := by
      refine ⟨(if lv ≤ 0 then 0 else if lv ≤ 4 then lv else 4).toNat, Int.toNat_of_nonneg ?_⟩
      split
      · omega
      · split <;> omega
    have hmc : (lv ≤ 4 ∧ (m : Int) = lv) ∨ (¬ lv ≤ 4 ∧ (m : Int) = 4) := by
      by_cases h1 : lv ≤ 4
      · left
        refine ⟨h1, ?_⟩
        by_cases h2 : lv ≤ 0
        · rw [if_pos h2] at hm; omega
        · rw [if_neg h2, if_pos h1] at hm; exact hm
      · right
        refine ⟨h1, ?_⟩
        rw [if_neg (by omega), if_neg h1] at hm
        exact hm
    refine (bins_w key hk16 hkb f hf lv n (by omega) (by omega) (by omega) m hm _).mono ?_
    rintro e w3 ⟨A2, c2, rfl, hs2, hb3⟩
    have HR1 := Lib.hid (HQ1.out.below hb3)
    have HR2 := Lib.hid (HQ2.out.below hb3)
    have HB3 := Lib.hid (bl_next HB2.out hb3)
    have HT1 := Lib.hid (HS1.out.below hb3)
    have HT2 := Lib.hid hs2
    have HMC := Lib.hid hmc
    have hmb : m ≤ 4 := by omega
    clear hb3 hs2 hm hmc
    go_wp2_with fail
    go_loopw [34] (fun i wr => ∃ k : Nat, k ≤ 4 ∧ i = .int .i64 k ∧ ∃ q, wr = w3.drewN q) (fun i _ => 4 - (intOf i).toNat)
    case atStart => exact ⟨0, by omega, rfl, 0, rfl⟩
    case round =>
      obtain ⟨k, hk, rfl, q, rfl⟩ := hrel
      by_cases hlt : k < 4
      · have hk0 : (0 : Int) ≤ (k : Int) := Int.natCast_nonneg k
        have hk1 : (k : Int) < 4 := by omega
        obtain ⟨ad1, rfl, d1, _⟩ := HT1.out.at k hlt
        rw [binsV_nth _ _ _ _ _ hlt] at d1
        have hX := fallV_range key f ((k : Int) + 1) n hn1
        obtain ⟨X, hXd⟩ : ∃ X, fallV key f ((k : Int) + 1) n = X := ⟨_, rfl⟩
        rw [hXd] at d1 hX
        have x1 : decide (X < 0) = false := by simp; omega
        have x2 : decide (n ≤ X) = false := by simp; omega
        have x3 : ¬ X < 0 := by omega
        have x4 : ¬ n ≤ X := by omega
        by_cases hkm : k < m
        · have hkm1 : (k : Int) < (m : Int) := by omega
          have x5 : decide ((k : Int) < (m : Int)) = true := by simp; omega
          obtain ⟨ad2, rfl, d2, _⟩ := HT2.out.at k hkm
          rw [binsV_nth _ _ _ _ _ hkm, hXd] at d2
          clear hXd
          go_wp2_with fail
          go_quiet (fail)
          go_wp2_with fail
          go_roundw
          case rel => exact ⟨k + 1, by omega, by go_num, _, rfl⟩
          case measure => simp [intOf]; omega
        · have hkm1 : ¬ (k : Int) < (m : Int) := by omega
          have x5 : decide ((k : Int) < (m : Int)) = false := by simp; omega
          clear hXd
          go_wp2_with fail
          go_quiet (fail)
          go_wp2_with fail
          go_roundw
          case rel => exact ⟨k + 1, by omega, by go_num, _, rfl⟩
          case measure => simp [intOf]; omega
      · obtain rfl : k = 4 := by omega
        go_wp2_with (first
          | (refine load_obj rfl 22 (.tmp 4) rfl w.heap.size 22 (bys key).toArray _ rfl (HR1.out.drewN q) Try.underlying22 rfl HKS.out ?_)
          | (refine load_obj rfl 34 (.tmp 5) rfl (w.heap.size + 1) 34 (flC f).toArray _ rfl (HR2.out.drewN q) Try.underlying34 rfl HFS.out ?_))
        refine (bucket_w key hk16 hkb f hf n (by omega) (by omega) _).mono ?_
        rintro e w4 ⟨rfl, hb4⟩
        have HB4 := Lib.hid (bl_next (bl_drewN HB3.out q) hb4)
        have hX := fallV_range key f 0 n hn1
        obtain ⟨X, hXd⟩ : ∃ X, fallV key f 0 n = X := ⟨_, rfl⟩
        rw [hXd] at hX ⊢
        clear hb4 hXd
        obtain ⟨hX1, hX2⟩ := hX
        rcases HMC.out with ⟨h1, h2⟩ | ⟨h1, h2⟩
        all_goals
          go_wp2
          go_ret
          exact ⟨rfl, HB4.out⟩

theorem KeyedWithin_w (l0 l1 : Array Value) (a2 a3 : Int) (W : World) (w0 : okCells (List.replicate 16 (.i .u8)) l0.toList) (w1 : okCells flKs l1.toList) (w2 : (Lit.int .u8 a2).wf = true) (w3 : (Lit.int .u8 a3).wf = true) :
    Calls Try.prog 7 #[.agg l0, .agg l1, .int .u8 a2, .int .u8 a3] W fun e w' => e = .returned (.bool true) ∧ Below W.heap.size W w' := by
  obtain ⟨key, rfl, hk, hkb⟩ := arr_of w0
  obtain ⟨f, hf, rfl⟩ := flow_of w1
  exact KeyedWithin_x key hk hkb f hf a2 a3 (u8_range w2) (u8_range w3) W
end Go.Proofs.Ytgbdkleckmilkaa
