/- A flow's bucket and bins, as the document says. -/
import Derived.Test.YtgbdkleckmilkaaRefF
namespace Go.Proofs.Ytgbdkleckmilkaa
open Go.RowKit
set_option linter.unusedVariables false
set_option linter.unusedSimpArgs false

set_option maxRecDepth 100000 in
set_option maxHeartbeats 2000000 in
theorem rbucket_w (key : List Int) (hk : key.length = 16) (hkb : ∀ x ∈ key, 0 ≤ x ∧ x ≤ 255) (f : Fl) (hf : okFl f) (n : Int) (hn : n ≤ 9223372036854775807) (hn0 : -9223372036854775808 ≤ n) (w : World) :
    Calls Try.prog 18 #[.agg (bys key).toArray, .agg (flC f).toArray, .int .i64 n] w fun e w' => e = .returned (.int .i64 (fallV key f 0 n)) ∧ Below w.heap.size w w' := by
  have hO1 := (Obj1.new w (bys key).toArray 22).alloc (.cells (flC f).toArray 34)
  have hO2 := Obj1.new (w.alloc (.cells (bys key).toArray 22)) (flC f).toArray 34
  have e1 : (w.alloc (.cells (bys key).toArray 22)).heap.size = w.heap.size + 1 := by simp
  rw [e1] at hO2
  have HO1 := Lib.hid hO1
  have HO2 := Lib.hid hO2
  have HB := Lib.hid (bl_alloc (bl_alloc (Below.refl w.heap.size w) (.cells (bys key).toArray 22)) (.cells (flC f).toArray 34))
  have HKS := Lib.hid (key_size hk)
  have HFS := Lib.hid (fl_size hf)
  clear hO1 hO2 e1
  go_enter Try.func18, Try.ntmps18
  go_wp2_with (first
    | (refine load_obj rfl 22 (.tmp 3) rfl w.heap.size 22 (bys key).toArray _ rfl HO1.out Try.underlying22 rfl HKS.out ?_)
    | (refine load_obj rfl 34 (.tmp 4) rfl (w.heap.size + 1) 34 (flC f).toArray _ rfl HO2.out Try.underlying34 rfl HFS.out ?_))
  refine (rfall_w key hk hkb f hf 0 (by omega) n hn hn0 _).mono ?_
  rintro e w2 ⟨rfl, hb2⟩
  have HB2 := Lib.hid (bl_next HB.out hb2)
  clear hb2
  go_wp2
  go_ret
  exact ⟨rfl, HB2.out⟩

set_option maxRecDepth 100000 in
set_option maxHeartbeats 3000000 in
theorem rbins_w (key : List Int) (hk16 : key.length = 16) (hkb : ∀ x ∈ key, 0 ≤ x ∧ x ≤ 255) (f : Fl) (hf : okFl f) (levels n : Int) (hl0 : -9223372036854775808 ≤ levels ∧ levels ≤ 9223372036854775807) (hn : n ≤ 9223372036854775807) (hn0 : -9223372036854775808 ≤ n) (m : Nat) (hm : (m : Int) = if levels ≤ 0 then 0 else if levels ≤ 4 then levels else 4) (w : World) :
    Calls Try.prog 21 #[.agg (bys key).toArray, .agg (flC f).toArray, .int .i64 levels, .int .i64 n] w fun e w' => ∃ A' c', e = .returned (.slice A' m c') ∧ SlI .i64 w' A' m c' (binsV key f n m) ∧ Below w.heap.size w w' := by
  have hO1 := (Obj1.new w (bys key).toArray 22).alloc (.cells (flC f).toArray 34)
  have hO2 := Obj1.new (w.alloc (.cells (bys key).toArray 22)) (flC f).toArray 34
  have e1 : (w.alloc (.cells (bys key).toArray 22)).heap.size = w.heap.size + 1 := by simp
  rw [e1] at hO2
  have HO1 := Lib.hid hO1
  have HO2 := Lib.hid hO2
  have HB := Lib.hid (bl_alloc (bl_alloc (Below.refl w.heap.size w) (.cells (bys key).toArray 22)) (.cells (flC f).toArray 34))
  have HKS := Lib.hid (key_size hk16)
  have HFS := Lib.hid (fl_size hf)
  clear hO1 hO2 e1
  have hkm : ∀ k : Nat, k < 4 → ((k : Int) < levels ↔ k < m) := fun k hk => by
    by_cases h1 : levels ≤ 0
    · rw [if_pos h1] at hm; omega
    · rw [if_neg h1] at hm
      by_cases h2 : levels ≤ 4
      · rw [if_pos h2] at hm; omega
      · rw [if_neg h2] at hm; omega
  have hm4 : m ≤ 4 := by
    by_cases h1 : levels ≤ 0
    · rw [if_pos h1] at hm; omega
    · rw [if_neg h1] at hm
      by_cases h2 : levels ≤ 4
      · rw [if_pos h2] at hm; omega
      · rw [if_neg h2] at hm; omega
  have HKM := Lib.hid hkm
  clear hm hkm
  go_enter Try.func21, Try.ntmps21
  go_wp2_with fail
  go_loopw [9, 11] (fun v i wr => ∃ k : Nat, k ≤ 4 ∧ i = .int .i64 k ∧ wr.ownsRow w.heap.size 3 1 v (min k m) (vals (binsV key f n (min k m))) ∧ Obj1 wr w.heap.size (bys key).toArray 22 ∧ Obj1 wr (w.heap.size + 1) (flC f).toArray 34 ∧ Below w.heap.size w wr) (fun _ i _ => 4 - (intOf i).toNat)
  case atStart => exact ⟨0, Nat.zero_le _, rfl, by rw [Nat.zero_min]; exact World.ownsRow_nil _ _ _ _, HO1.out, HO2.out, HB.out⟩
  case round =>
    obtain ⟨k, hk, rfl, hown, ho1, ho2, hbel⟩ := hrel
    have HOWN := Lib.hid hown
    have HP1 := Lib.hid ho1
    have HP2 := Lib.hid ho2
    have HBB := Lib.hid hbel
    clear hown ho1 ho2 hbel
    by_cases hlt : k < 4
    · have hk0 : (0 : Int) ≤ (k : Int) := Int.natCast_nonneg k
      have hk1 : (k : Int) < 4 := by omega
      have a1 : IntKind.i64.wrap ((k : Int) + 1) = (k : Int) + 1 := IntWalk.i64_in _ (by omega)
      by_cases hlm : k < m
      · have hkl : (k : Int) < levels := (HKM.out k hlt).2 hlm
        have hmin : min k m = k := by omega
        have hmin1 : min (k + 1) m = k + 1 := by omega
        rw [hmin] at HOWN
        have HM1 := Lib.hid hmin1
        clear hmin hmin1
        go_wp2_with (first
          | (refine load_obj rfl 22 (.tmp 4) rfl w.heap.size 22 (bys key).toArray _ rfl HP1.out Try.underlying22 rfl HKS.out ?_)
          | (refine load_obj rfl 34 (.tmp 5) rfl (w.heap.size + 1) 34 (flC f).toArray _ rfl HP2.out Try.underlying34 rfl HFS.out ?_))
        refine (rfall_w key hk16 hkb f hf ((k : Int) + 1) (by omega) n hn hn0 _).mono ?_
        rintro e w2 ⟨rfl, hb2⟩
        have HOW2 := Lib.hid (own_below HOWN.out hb2)
        have HQ1 := Lib.hid (HP1.out.below hb2)
        have HQ2 := Lib.hid (HP2.out.below hb2)
        have HB2 := Lib.hid (bl_next HBB.out hb2)
        clear hb2
        have HN1 := Lib.hid (own_ne HQ1.out HOW2.out (by decide))
        have HN2 := Lib.hid (own_ne HQ2.out HOW2.out (by decide))
        go_wp2_with (at_builtin; refine app_list w.heap.size rfl (.tmp 17) (.tmp 24) 37 3 (.int .i64 0) 1 8 rfl Try.underlying37 (by kernel_rfl) rfl (by omega) (by omega) _ k _ (some ⟨w2.heap.size, 0, none⟩) 1 1 (vals [fallV key f ((k : Int) + 1) n]) rfl rfl (HOW2.out.alloc _) rfl (Rd_new1 _ _ _) (vals_one _) (by omega) (by have := HB2.out.size; simp; omega) ?_; intro v1 w6 hown6 hg6)
        go_roundw
        case rel => exact ⟨k + 1, by omega, by go_num, by rw [HM1.out, binsV_step]; simpa [vals] using hown6, (HQ1.out.alloc _).of_grown hg6 HN1.out, (HQ2.out.alloc _).of_grown hg6 HN2.out, bl_grown (bl_alloc HB2.out _) (HOW2.out.alloc _) hg6 (Nat.le_refl _)⟩
        case measure => simp [intOf]; omega
      · have hkl : ¬ (k : Int) < levels := fun h => hlm ((HKM.out k hlt).1 h)
        have hmin : min (k + 1) m = min k m := by omega
        have HM1 := Lib.hid hmin
        clear hmin
        go_wp2_with fail
        go_roundw
        case rel => exact ⟨k + 1, by omega, by go_num, by rw [HM1.out]; exact HOWN.out, HP1.out, HP2.out, HBB.out⟩
        case measure => simp [intOf]; omega
    · obtain rfl : k = 4 := by omega
      have hmin : min 4 m = m := by omega
      rw [hmin] at HOWN
      obtain ⟨A1, c1, rfl, hs⟩ := SlI.owned HOWN.out (binsV_length _ _ _ _) (fun x hx => by
        simp only [binsV, List.mem_map] at hx
        obtain ⟨l, _, rfl⟩ := hx
        have := fallV_i64 key f ((l : Int) + 1) n hn
        omega)
      have HS := Lib.hid hs
      clear hs hmin
      go_wp2
      go_ret
      exact ⟨_, _, rfl, HS.out, HBB.out⟩
end Go.Proofs.Ytgbdkleckmilkaa
