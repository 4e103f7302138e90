/- A flow's bucket, and its bins. -/
import Derived.Test.YtgbdkleckmilkaaKeyC
namespace Go.Proofs.Ytgbdkleckmilkaa
open Go.RowKit
set_option linter.unusedVariables false
set_option linter.unusedSimpArgs false

theorem key_size {key : List Int} (hk : key.length = 16) : (Try.prog.info? 22).map (·.size) = some (bys key).toArray.size := by rw [show (bys key).toArray.size = 16 by simp [bys_length, hk]]; rfl
theorem fl_size {f : Fl} (hf : okFl f) : (Try.prog.info? 34).map (·.size) = some (flC f).toArray.size := by rw [show (flC f).toArray.size = 36 by simp [flC_length hf]]; rfl

set_option maxRecDepth 100000 in
set_option maxHeartbeats 2000000 in
theorem bucket_w (key : List Int) (hk : key.length = 16) (hkb : ∀ x ∈ key, 0 ≤ x ∧ x ≤ 255) (f : Fl) (hf : okFl f) (n : Int) (hn : n ≤ 9223372036854775807) (hn0 : -9223372036854775808 ≤ n) (w : World) :
    Calls Try.prog 17 #[.agg (bys key).toArray, .agg (flC f).toArray, .int .i64 n] w fun e w' => e = .returned (.int .i64 (fallV key f 0 n)) ∧ Below w.heap.size w w' := by
  have hO1 := (Obj1.new w (bys key).toArray 22).alloc (.cells (flC f).toArray 34)
  have hO2 := Obj1.new (w.alloc (.cells (bys key).toArray 22)) (flC f).toArray 34
  have e1 : (w.alloc (.cells (bys key).toArray 22)).heap.size = w.heap.size + 1 := by simp
  rw [e1] at hO2
  have HO1 := Lib.hid hO1
  have HO2 := Lib.hid hO2
  have HB := Lib.hid (bl_alloc (bl_alloc (Below.refl w.heap.size w) (.cells (bys key).toArray 22)) (.cells (flC f).toArray 34))
  have HKS := Lib.hid (key_size hk)
  have HFS := Lib.hid (fl_size hf)
  clear hO1 hO2 e1
  go_enter Try.func17, Try.ntmps17
  go_wp2_with (first
    | (refine load_obj rfl 22 (.tmp 3) rfl w.heap.size 22 (bys key).toArray _ rfl HO1.out Try.underlying22 rfl HKS.out ?_)
    | (refine load_obj rfl 34 (.tmp 4) rfl (w.heap.size + 1) 34 (flC f).toArray _ rfl HO2.out Try.underlying34 rfl HFS.out ?_))
  refine (fall_w key hk hkb f hf 0 (by omega) n hn hn0 _).mono ?_
  rintro e w2 ⟨rfl, hb2⟩
  have HB2 := Lib.hid (bl_next HB.out hb2)
  clear hb2
  go_wp2
  go_ret
  exact ⟨rfl, HB2.out⟩

/-- A flow's bins, m levels. -/
def binsV (key : List Int) (f : Fl) (n : Int) (m : Nat) : List Int := (List.range m).map fun (l : Nat) => fallV key f ((l : Int) + 1) n
theorem binsV_length (key : List Int) (f : Fl) (n : Int) (m : Nat) : (binsV key f n m).length = m := by simp [binsV]
theorem binsV_step (key : List Int) (f : Fl) (n : Int) (m : Nat) : binsV key f n (m + 1) = binsV key f n m ++ [fallV key f ((m : Int) + 1) n] := by
  unfold binsV
  rw [List.range_succ, List.map_append]
  rfl
theorem binsV_nth (key : List Int) (f : Fl) (n : Int) (m k : Nat) (h : k < m) : nth (binsV key f n m) k = fallV key f ((k : Int) + 1) n := by
  rw [nth_of (by rw [binsV_length]; exact h)]
  simp [binsV]
theorem lit_i64 {x : Int} (h : -9223372036854775808 ≤ x ∧ x ≤ 9223372036854775807) : (Lit.int .i64 x).wf = true := by
  simp only [Lit.wf, IntKind.min, IntKind.max, IntKind.signed, IntKind.bits, Bool.and_eq_true, decide_eq_true_eq]
  simp
  omega
theorem fallV_i64 (key : List Int) (f : Fl) (level n : Int) (hn : n ≤ 9223372036854775807) : 0 ≤ fallV key f level n ∧ fallV key f level n ≤ 9223372036854775807 := by
  by_cases h : n < 1
  · unfold fallV; rw [if_pos h]; omega
  · have := fallV_range key f level n (by omega); omega
theorem SlI.owned {B : Nat} {w : World} {e : TypeId} {v : Value} {n : Nat} {l : List Int} (h : w.ownsRow B e 1 v n (vals l)) (hl : l.length = n) (hb : ∀ x ∈ l, -9223372036854775808 ≤ x ∧ x ≤ 9223372036854775807) :
    ∃ A c, v = .slice A n c ∧ SlI .i64 w A n c l := by
  obtain ⟨A, c, rfl, hr⟩ := own_Rd h
  have hcap : n ≤ c ∧ c ≤ 9223372036854775807 := by
    rcases h.2 with ⟨e, h0⟩ | ⟨g, cap, cur, e, _, _, h1, h2, _⟩
    · cases e; omega
    · cases e; unfold maxLen at h2; omega
  exact ⟨A, c, rfl, hl, hcap.1, hcap.2, hr, fun x hx => lit_i64 (hb x hx)⟩

theorem Rd_new1 (w : World) (x : Int) (t : TypeId) : Rd (w.alloc (.cells #[.int .i64 x] t)) (some ⟨w.heap.size, 0, none⟩) (vals [x]) := by
  intro j v hj
  match j, hj with
  | 0, hj => simp [vals] at hj; subst hj; exact ⟨_, rfl, new_cell w _ t 0⟩

set_option maxRecDepth 100000 in
set_option maxHeartbeats 3000000 in
theorem bins_w (key : List Int) (hk16 : key.length = 16) (hkb : ∀ x ∈ key, 0 ≤ x ∧ x ≤ 255) (f : Fl) (hf : okFl f) (levels n : Int) (hl0 : -9223372036854775808 ≤ levels ∧ levels ≤ 9223372036854775807) (hn : n ≤ 9223372036854775807) (hn0 : -9223372036854775808 ≤ n) (m : Nat) (hm : (m : Int) = if levels ≤ 0 then 0 else if levels ≤ 4 then levels else 4) (w : World) :
    Calls Try.prog 20 #[.agg (bys key).toArray, .agg (flC f).toArray, .int .i64 levels, .int .i64 n] w fun e w' => ∃ A' c', e = .returned (.slice A' m c') ∧ SlI .i64 w' A' m c' (binsV key f n m) ∧ Below w.heap.size w w' := by
  have hO1 := (Obj1.new w (bys key).toArray 22).alloc (.cells (flC f).toArray 34)
  have hO2 := Obj1.new (w.alloc (.cells (bys key).toArray 22)) (flC f).toArray 34
  have e1 : (w.alloc (.cells (bys key).toArray 22)).heap.size = w.heap.size + 1 := by simp
  rw [e1] at hO2
  have HO1 := Lib.hid hO1
  have HO2 := Lib.hid hO2
  have HB := Lib.hid (bl_alloc (bl_alloc (Below.refl w.heap.size w) (.cells (bys key).toArray 22)) (.cells (flC f).toArray 34))
  have HKS := Lib.hid (key_size hk16)
  have HFS := Lib.hid (fl_size hf)
  clear hO1 hO2 e1
  have hcase : (levels ≤ 0 ∧ levels ≤ 4 ∧ m = 0) ∨ (¬ levels ≤ 0 ∧ levels ≤ 4 ∧ levels = m ∧ m ≤ 4) ∨ (¬ levels ≤ 0 ∧ ¬ levels ≤ 4 ∧ m = 4) := by
    by_cases h1 : levels ≤ 0
    · rw [if_pos h1] at hm; omega
    · rw [if_neg h1] at hm
      by_cases h2 : levels ≤ 4
      · rw [if_pos h2] at hm; omega
      · rw [if_neg h2] at hm; omega
  clear hm
  have hm4 : m ≤ 4 := by omega
  rcases hcase with ⟨h1, h2, rfl⟩ | ⟨h1, h2, rfl, _⟩ | ⟨h1, h2, rfl⟩
  · go_enter Try.func20, Try.ntmps20
    go_wp2_with fail
    go_loopw [9, 14] (fun v i wr => ∃ k : Nat, k ≤ 0 ∧ i = .int .i64 k ∧ wr.ownsRow w.heap.size 3 1 v k (vals (binsV key f n k)) ∧ Obj1 wr w.heap.size (bys key).toArray 22 ∧ Obj1 wr (w.heap.size + 1) (flC f).toArray 34 ∧ Below w.heap.size w wr) (fun _ i _ => 0 - (intOf i).toNat)
    case atStart => exact ⟨0, Nat.zero_le _, rfl, World.ownsRow_nil _ _ _ _, HO1.out, HO2.out, HB.out⟩
    case round =>
      obtain ⟨k, hk, rfl, hown, ho1, ho2, hbel⟩ := hrel
      have HOWN := Lib.hid hown
      have HP1 := Lib.hid ho1
      have HP2 := Lib.hid ho2
      have HBB := Lib.hid hbel
      clear hown ho1 ho2 hbel
      by_cases hlt : k < 0
      · exact absurd hlt (Nat.not_lt_zero _)
      · obtain rfl : k = 0 := by omega
        obtain ⟨A1, c1, rfl, hs⟩ := SlI.owned HOWN.out (binsV_length _ _ _ _) (fun x hx => by
          simp only [binsV, List.mem_map] at hx
          obtain ⟨l, _, rfl⟩ := hx
          have := fallV_i64 key f ((l : Int) + 1) n hn
          omega)
        have HS := Lib.hid hs
        clear hs
        go_wp2
        go_ret
        exact ⟨_, _, rfl, HS.out, HBB.out⟩
  · go_enter Try.func20, Try.ntmps20
    go_wp2_with fail
    go_loopw [9, 14] (fun v i wr => ∃ k : Nat, k ≤ m ∧ i = .int .i64 k ∧ wr.ownsRow w.heap.size 3 1 v k (vals (binsV key f n k)) ∧ Obj1 wr w.heap.size (bys key).toArray 22 ∧ Obj1 wr (w.heap.size + 1) (flC f).toArray 34 ∧ Below w.heap.size w wr) (fun _ i _ => m - (intOf i).toNat)
    case atStart => exact ⟨0, Nat.zero_le _, rfl, World.ownsRow_nil _ _ _ _, HO1.out, HO2.out, HB.out⟩
    case round =>
      obtain ⟨k, hk, rfl, hown, ho1, ho2, hbel⟩ := hrel
      have HOWN := Lib.hid hown
      have HP1 := Lib.hid ho1
      have HP2 := Lib.hid ho2
      have HBB := Lib.hid hbel
      clear hown ho1 ho2 hbel
      by_cases hlt : k < m
      · have hk0 : (0 : Int) ≤ (k : Int) := Int.natCast_nonneg k
        have hk1 : (k : Int) < (m : Int) := by omega
        have a1 : IntKind.i64.wrap ((k : Int) + 1) = (k : Int) + 1 := IntWalk.i64_in _ (by omega)
        have a2 : IntKind.u8.wrap ((k : Int) + 1) = (k : Int) + 1 := by simp [IntKind.wrap, IntKind.bits, IntKind.signed]; omega
        go_wp2_with (first
          | (refine load_obj rfl 22 (.tmp 4) rfl w.heap.size 22 (bys key).toArray _ rfl HP1.out Try.underlying22 rfl HKS.out ?_)
          | (refine load_obj rfl 34 (.tmp 5) rfl (w.heap.size + 1) 34 (flC f).toArray _ rfl HP2.out Try.underlying34 rfl HFS.out ?_))
        refine (fall_w key hk16 hkb f hf ((k : Int) + 1) (by omega) n hn hn0 _).mono ?_
        rintro e w2 ⟨rfl, hb2⟩
        have HOW2 := Lib.hid (own_below HOWN.out hb2)
        have HQ1 := Lib.hid (HP1.out.below hb2)
        have HQ2 := Lib.hid (HP2.out.below hb2)
        have HB2 := Lib.hid (bl_next HBB.out hb2)
        clear hb2
        have HN1 := Lib.hid (own_ne (HQ1.out.alloc (.cells #[.int .i64 (fallV key f ((k : Int) + 1) n)] 3)) (HOW2.out.alloc (.cells #[.int .i64 (fallV key f ((k : Int) + 1) n)] 3)) (by decide))
        have HN2 := Lib.hid (own_ne (HQ2.out.alloc (.cells #[.int .i64 (fallV key f ((k : Int) + 1) n)] 3)) (HOW2.out.alloc (.cells #[.int .i64 (fallV key f ((k : Int) + 1) n)] 3)) (by decide))
        go_wp2_with (at_builtin; refine app_list w.heap.size rfl (.tmp 17) (.tmp 25) 37 3 (.int .i64 0) 1 8 rfl Try.underlying37 (by kernel_rfl) rfl (by omega) (by omega) _ k _ (some ⟨w2.heap.size, 0, none⟩) 1 1 (vals [fallV key f ((k : Int) + 1) n]) rfl rfl (HOW2.out.alloc _) rfl (Rd_new1 _ _ _) (vals_one _) (by omega) (by have := HB2.out.size; simp; omega) ?_; intro v1 w6 hown6 hg6)
        go_roundw
        case rel => exact ⟨k + 1, by omega, by go_num, by rw [binsV_step]; simpa [vals] using hown6, (HQ1.out.alloc _).of_grown hg6 HN1.out, (HQ2.out.alloc _).of_grown hg6 HN2.out, bl_grown (bl_alloc HB2.out _) (HOW2.out.alloc _) hg6 (Nat.le_refl _)⟩
        case measure => simp [intOf]; omega
      · obtain rfl : k = m := by omega
        obtain ⟨A1, c1, rfl, hs⟩ := SlI.owned HOWN.out (binsV_length _ _ _ _) (fun x hx => by
          simp only [binsV, List.mem_map] at hx
          obtain ⟨l, _, rfl⟩ := hx
          have := fallV_i64 key f ((l : Int) + 1) n hn
          omega)
        have HS := Lib.hid hs
        clear hs
        go_wp2
        go_ret
        exact ⟨_, _, rfl, HS.out, HBB.out⟩
  · go_enter Try.func20, Try.ntmps20
    go_wp2_with fail
    go_loopw [9, 14] (fun v i wr => ∃ k : Nat, k ≤ 4 ∧ i = .int .i64 k ∧ wr.ownsRow w.heap.size 3 1 v k (vals (binsV key f n k)) ∧ Obj1 wr w.heap.size (bys key).toArray 22 ∧ Obj1 wr (w.heap.size + 1) (flC f).toArray 34 ∧ Below w.heap.size w wr) (fun _ i _ => 4 - (intOf i).toNat)
    case atStart => exact ⟨0, Nat.zero_le _, rfl, World.ownsRow_nil _ _ _ _, HO1.out, HO2.out, HB.out⟩
    case round =>
      obtain ⟨k, hk, rfl, hown, ho1, ho2, hbel⟩ := hrel
      have HOWN := Lib.hid hown
      have HP1 := Lib.hid ho1
      have HP2 := Lib.hid ho2
      have HBB := Lib.hid hbel
      clear hown ho1 ho2 hbel
      by_cases hlt : k < 4
      · have hk0 : (0 : Int) ≤ (k : Int) := Int.natCast_nonneg k
        have hk1 : (k : Int) < 4 := by omega
        have a1 : IntKind.i64.wrap ((k : Int) + 1) = (k : Int) + 1 := IntWalk.i64_in _ (by omega)
        have a2 : IntKind.u8.wrap ((k : Int) + 1) = (k : Int) + 1 := by simp [IntKind.wrap, IntKind.bits, IntKind.signed]; omega
        go_wp2_with (first
          | (refine load_obj rfl 22 (.tmp 4) rfl w.heap.size 22 (bys key).toArray _ rfl HP1.out Try.underlying22 rfl HKS.out ?_)
          | (refine load_obj rfl 34 (.tmp 5) rfl (w.heap.size + 1) 34 (flC f).toArray _ rfl HP2.out Try.underlying34 rfl HFS.out ?_))
        refine (fall_w key hk16 hkb f hf ((k : Int) + 1) (by omega) n hn hn0 _).mono ?_
        rintro e w2 ⟨rfl, hb2⟩
        have HOW2 := Lib.hid (own_below HOWN.out hb2)
        have HQ1 := Lib.hid (HP1.out.below hb2)
        have HQ2 := Lib.hid (HP2.out.below hb2)
        have HB2 := Lib.hid (bl_next HBB.out hb2)
        clear hb2
        have HN1 := Lib.hid (own_ne (HQ1.out.alloc (.cells #[.int .i64 (fallV key f ((k : Int) + 1) n)] 3)) (HOW2.out.alloc (.cells #[.int .i64 (fallV key f ((k : Int) + 1) n)] 3)) (by decide))
        have HN2 := Lib.hid (own_ne (HQ2.out.alloc (.cells #[.int .i64 (fallV key f ((k : Int) + 1) n)] 3)) (HOW2.out.alloc (.cells #[.int .i64 (fallV key f ((k : Int) + 1) n)] 3)) (by decide))
        go_wp2_with (at_builtin; refine app_list w.heap.size rfl (.tmp 17) (.tmp 25) 37 3 (.int .i64 0) 1 8 rfl Try.underlying37 (by kernel_rfl) rfl (by omega) (by omega) _ k _ (some ⟨w2.heap.size, 0, none⟩) 1 1 (vals [fallV key f ((k : Int) + 1) n]) rfl rfl (HOW2.out.alloc _) rfl (Rd_new1 _ _ _) (vals_one _) (by omega) (by have := HB2.out.size; simp; omega) ?_; intro v1 w6 hown6 hg6)
        go_roundw
        case rel => exact ⟨k + 1, by omega, by go_num, by rw [binsV_step]; simpa [vals] using hown6, (HQ1.out.alloc _).of_grown hg6 HN1.out, (HQ2.out.alloc _).of_grown hg6 HN2.out, bl_grown (bl_alloc HB2.out _) (HOW2.out.alloc _) hg6 (Nat.le_refl _)⟩
        case measure => simp [intOf]; omega
      · obtain rfl : k = 4 := by omega
        obtain ⟨A1, c1, rfl, hs⟩ := SlI.owned HOWN.out (binsV_length _ _ _ _) (fun x hx => by
          simp only [binsV, List.mem_map] at hx
          obtain ⟨l, _, rfl⟩ := hx
          have := fallV_i64 key f ((l : Int) + 1) n hn
          omega)
        have HS := Lib.hid hs
        clear hs
        go_wp2
        go_ret
        exact ⟨_, _, rfl, HS.out, HBB.out⟩

/-- The zero array and the zero flow. -/
theorem zero_key : (bys (List.replicate 16 0)).toArray = #[.int .u8 0, .int .u8 0, .int .u8 0, .int .u8 0, .int .u8 0, .int .u8 0, .int .u8 0, .int .u8 0, .int .u8 0, .int .u8 0, .int .u8 0, .int .u8 0, .int .u8 0, .int .u8 0, .int .u8 0, .int .u8 0] := rfl
def fl0 : Fl := ⟨false, 0, List.replicate 16 0, List.replicate 16 0, 0, 0⟩
theorem ok_fl0 : okFl fl0 := by
  refine ⟨by decide, rfl, ?_, rfl, ?_, by decide, by decide⟩
  all_goals
    intro x hx
    have h : x = 0 := List.eq_of_mem_replicate hx
    subst h
    decide

set_option maxHeartbeats 1000000 in
theorem awake13_w (w : World) : Calls Try.prog 16 #[] w fun e w' => e = .returned (.bool true) ∧ Below w.heap.size w w' := by
  go_enter Try.func16, Try.ntmps16
  go_wp2_with fail
  refine (bins_w (List.replicate 16 0) (by simp) (fun x hx => by have h : x = 0 := List.eq_of_mem_replicate hx; subst h; decide) fl0 ok_fl0 2 1 (by omega) (by omega) (by omega) 2 (by decide) _).mono ?_
  rintro e w2 ⟨A', c', rfl, hs, hb2⟩
  have HB2 := Lib.hid hb2
  clear hb2 hs
  go_wp2
  go_ret
  exact ⟨rfl, HB2.out⟩
end Go.Proofs.Ytgbdkleckmilkaa
